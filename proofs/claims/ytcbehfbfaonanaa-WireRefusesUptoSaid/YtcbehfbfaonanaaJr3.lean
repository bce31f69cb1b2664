/- Part 4 of the texts that walk the program and tell its laws, joined in the order of their building. No conditions. -/
import Derived.Test.YtcbehfbfaonanaaJr2
import Derived.Test.YtcbehfbfaonanaaJr1
import Derived.Test.YtcbehfbfaonanaaRows
import Derived.OpenShut
import Derived.SizedLaws
import Derived.ChangeArms
import Derived.ChangeSlices
import Derived.ChangeSame
import Derived.ChangeAt
/- The frames and their sums, function by function (printed out of the translation). -/
section
namespace Go.Proofs.Ytcbehfbfaonanaa.PFr
open Go.RowKit Go.Proofs.YtcbehfbfaonanaaW.PrintWords Go.Proofs.YtcbehfbfaonanaaW.PrintLast Go.Proofs.YtcbehfbfaonanaaW.PrintMore
attribute [local go_sem] max2_int min2_int max_two min_two max_three min_three max_four min_four   -- for this text's walks alone
set_option linter.unusedVariables false
set_option linter.unusedSimpArgs false


/-! ### frame_four: function 43 -/
def frame_four.f (a0 : Int) : Option (List Int) := some (([(a0 / 16777216) % 256, (a0 / 65536) % 256, (a0 / 256) % 256, (a0) % 256] : List Int))
set_option maxHeartbeats 8000000 in
set_option maxRecDepth 100000 in
theorem frame_four.calls (a0 : Int) (r : List Int) (w : World) (h : frame_four.f a0 = some r) :
    Calls Try.prog 43 #[.int .u32 a0] w fun e w' => ∃ v0_ : Value, e = .returned (v0_) ∧ Kd.R (Kd.int .u8) 5 w' w.heap.size (fun _ => True) v0_ r ∧ Below w.heap.size w w' := by
  have HB := Aside0.mk (Below.refl w.heap.size w)
  have H : (some (([(a0 / 16777216) % 256, (a0 / 65536) % 256, (a0 / 256) % 256, (a0) % 256] : List Int))) = some r := h
  clear h
  obtain ⟨y120, hy120⟩ : ∃ y_ : List Int, y_ = (([(a0 / 16777216) % 256, (a0 / 65536) % 256, (a0 / 256) % 256, (a0) % 256] : List Int)) := ⟨_, rfl⟩
  replace H : (some y120) = some r := by first | (rw [hy120]; with_reducible exact H) | (have H2_ := (Option.bind_some _ _).symm.trans H; rw [hy120]; with_reducible exact H2_) | (have H2_ := (Option.bind_some _ _).symm.trans H; with_reducible exact H2_) | with_reducible exact H | (rw [hy120]; exact H) | exact H
  have Ny120 := Aside0.mk hy120
  clear hy120
  obtain rfl := Option.some.inj H
  go_enter Try.func43, Try.ntmps43
  go_wp2_with (first | ((with_reducible refine gate_dst (N := 14) rfl ?_); refine Kd.R_lit (Kd.int .u8) _ 5 ?hg (N := 14) ?hd (xs := ([(a0 / 16777216) % 256, (a0 / 65536) % 256, (a0 / 256) % 256, (a0) % 256] : List Int)) (inner := [.int .u8 ((a0 / 16777216) % 256), .int .u8 ((a0 / 65536) % 256), .int .u8 ((a0 / 256) % 256), .int .u8 ((a0) % 256)]) (ok := fun _ => True) (okp := fun _ => True) ?hr ?hp (fun _ hk => hk) trivial (Below.refl _ _) (Nat.le_refl _) (by simp) ?_; (case hd => rfl); (case hg => rfl); (case hr => first | (go_simp; done) | (go_simp; rfl)); (case hp => exact (Reps.one (show Kd.M (Kd.int .u8) _ _ _ ((a0 / 16777216) % 256) [.int .u8 ((a0 / 16777216) % 256)] from rfl) (Reps.one (show Kd.M (Kd.int .u8) _ _ _ ((a0 / 65536) % 256) [.int .u8 ((a0 / 65536) % 256)] from rfl) (Reps.one (show Kd.M (Kd.int .u8) _ _ _ ((a0 / 256) % 256) [.int .u8 ((a0 / 256) % 256)] from rfl) (Reps.one (show Kd.M (Kd.int .u8) _ _ _ ((a0) % 256) [.int .u8 ((a0) % 256)] from rfl) (Reps.none _ _)))))); intro v121 w2 ho3 hb hg_ hnew_; clear hg_ hnew_; (first | rw [← Ny120.out] at ho3 | (simp only [Int.reduceToNat] at ho3; rw [← Ny120.out] at ho3)); have n0_ := Aside0.mk (Kd.R_lower ho3 (below_size (by repeat (first | (with_reducible first | exact HB.out | apply below_alloc | apply pw_below_drewN | apply below_drew1) | exact HB.out)))); have n1_ := Aside0.mk (below_step (by repeat (first | (with_reducible first | exact HB.out | apply below_alloc | apply pw_below_drewN | apply below_drew1) | exact HB.out)) hb); clear HB; have HO122 := n0_; have HB := n1_; clear n0_ n1_; clear hb ho3))
  go_ret
  exact ⟨_, by first | rfl | (simp [errW_none, errW_some] <;> rfl) | (simp [*, errW_none, errW_some] <;> rfl), by (with_reducible repeat (first | apply Kd.R_alloc | apply Kd.R_drewN | apply Kd.R_drew)); exact HO122.out, by repeat (first | (with_reducible first | exact HB.out | apply below_alloc | apply pw_below_drewN | apply below_drew1) | exact HB.out)⟩

/-! ### frame_join: function 44 -/
def frame_join.l0 : Nat → List Int → List (List Int) → Int → Int → Option (List Int)
  | 0, _, _, _, _ => none
  | k + 1, x3, x6, x7, x8 => if x8 < x7 then (if 0 ≤ x8 then (if x8 < (x6.length : Int) then (if x3.length + (rd_L10 x6 x8).length < 140737488355328 then (frame_join.l0 k (x3 ++ (rd_L10 x6 x8)) x6 x7 (wrap64 (x8 + 1))) else (none)) else (none)) else (none)) else (some x3)
def frame_join.f (k : Nat) (l0 : List (List Int)) : Option (List Int) := frame_join.l0 k ([] : List Int) l0 (l0.length : Int) 0
theorem frame_join.mono_l : ∀ k, (∀ y0 y1 y2 y3, LeO (frame_join.l0 k y0 y1 y2 y3) (frame_join.l0 (k + 1) y0 y1 y2 y3))
  | 0 => fun _ _ _ _ r h => by simp [frame_join.l0] at h
  | k + 1 => by
    have ih0 := frame_join.mono_l k
    · intro y0 y1 y2 y3
      unfold frame_join.l0
      repeat' first
      | (with_reducible exact ih0 _ _ _ _)
      | (with_reducible exact LeO.refl _)
      | (with_reducible exact LeO.none _)
      | (with_reducible refine LeO.ite ?_ ?_)
      | (with_reducible refine LeO.bind ?_ (fun _ => ?_))
      | exact ih0 _ _ _ _
      | exact LeO.none _
      | refine LeO.ite ?_ ?_
      | refine LeO.bind ?_ (fun _ => ?_)
theorem frame_join.mono : ∀ a0 k, LeO (frame_join.f k a0) (frame_join.f (k + 1) a0) := by
  intro a0 k
  have ih0 := frame_join.mono_l k
  unfold frame_join.f
  repeat' first
      | (with_reducible exact ih0 _ _ _ _)
      | (with_reducible exact LeO.refl _)
      | (with_reducible exact LeO.none _)
      | (with_reducible refine LeO.ite ?_ ?_)
      | (with_reducible refine LeO.bind ?_ (fun _ => ?_))
      | exact ih0 _ _ _ _
      | exact LeO.none _
      | refine LeO.ite ?_ ?_
      | refine LeO.bind ?_ (fun _ => ?_)
set_option maxHeartbeats 8000000 in
set_option maxRecDepth 100000 in
theorem frame_join.calls (k : Nat) (A0 : Option Addr) (c0 : Nat) (l0 : List (List Int)) (r : List Int) (w : World) (hr0 : Kd.C (Kd.slice 5 (Kd.int .u8)) w A0 l0.length l0) (hc0 : l0.length ≤ c0) (h : frame_join.f k l0 = some r) :
    Calls Try.prog 44 #[.slice A0 l0.length c0] w fun e w' => ∃ v0_ : Value, e = .returned (v0_) ∧ Kd.R (Kd.int .u8) 5 w' w.heap.size (fun _ => True) v0_ r ∧ Below w.heap.size w w' := by
  have HR0 := Aside0.mk hr0
  have HC0 := Aside0.mk hc0
  clear hr0 hc0
  have HB := Aside0.mk (Below.refl w.heap.size w)
  have H : (frame_join.l0 k ([] : List Int) l0 (l0.length : Int) 0) = some r := h
  clear h
  have H' := Aside0.mk H
  clear H
  go_enter Try.func44, Try.ntmps44
  go_wp2
  go_loopg [3, 8] k (fun kq v3 v8 w' => ∃ (x3_1 : List Int) (x8_1 : Int), v8 = .int .i64 x8_1 ∧ Aside0 (frame_join.l0 kq x3_1 l0 (l0.length : Int) x8_1 = some r) ∧ Aside0 (kq ≤ k) ∧ Aside0 (Kd.R (Kd.int .u8) 5 w' w.heap.size (fun _ => True) v3 x3_1) ∧ Aside0 (Below w.heap.size w w'))
  case atStart => exact ⟨(([] : List Int)), (0), (by first | rfl | (simp; done) | (simp [*]; done)), H', ⟨Nat.le_refl _⟩, ⟨by first | exact Kd.R_nil _ _ _ _ _ | exact Kd.N_nil _ _ _ _ _ | exact Kd.V_nil _ _ _ _ _ | exact Kd.Q_nil _ _ _ _ _ | exact Kd.S_nil _ _ _ _ _⟩, ⟨by repeat (first | (with_reducible first | exact HB.out | apply below_alloc | apply pw_below_drewN | apply below_drew1) | exact HB.out)⟩⟩
  case round =>
    clear H'
    obtain ⟨x3_1, x8_1, rfl, HA, HK1, HO_3, HB⟩ := hrel
    cases gk with
    | zero => exact absurd HA.out (by simp [frame_join.l0])
    | succ k1 =>
      have H := HA.out
      clear HA
      simp only [frame_join.l0] at H
      by_cases c2 : x8_1 < (l0.length : Int)
      · rw [if_pos c2] at H
        have c2b0 : decide (x8_1 < (l0.length : Int)) = true := decide_eq_true c2
        clear c2
        by_cases c3 : 0 ≤ x8_1
        · rw [if_pos c3] at H
          have c3b0 : decide (0 ≤ x8_1) = true := decide_eq_true c3
          clear c3
          by_cases c4 : x8_1 < (l0.length : Int)
          · rw [if_pos c4] at H
            have c4b0 : decide (x8_1 < (l0.length : Int)) = true := decide_eq_true c4
            clear c4
            by_cases c5 : x3_1.length + (rd_L10 l0 x8_1).length < 140737488355328
            · rw [if_pos c5] at H
              have LMc5 := Aside0.mk c5
              clear c5
              obtain ⟨y124, hy124⟩ : ∃ y_ : List Int, y_ = (x3_1 ++ (rd_L10 l0 x8_1)) := ⟨_, rfl⟩
              replace H : (frame_join.l0 k1 y124 l0 (l0.length : Int) (wrap64 (x8_1 + 1))) = some r := by first | (rw [hy124]; with_reducible exact H) | (have H2_ := (Option.bind_some _ _).symm.trans H; rw [hy124]; with_reducible exact H2_) | (have H2_ := (Option.bind_some _ _).symm.trans H; with_reducible exact H2_) | with_reducible exact H | (rw [hy124]; exact H) | exact H
              have Ny124 := Aside0.mk hy124
              clear hy124
              have H' := Aside0.mk H
              clear H
              have p123 : 0 ≤ (x8_1 : Int) := of_decide_eq_true (by first | (with_reducible assumption) | assumption)
              have q123 : x8_1 < (l0.length : Int) := of_decide_eq_true (by first | (with_reducible assumption) | assumption)
              obtain ⟨ad123, A123_0, c123_0, e123, hx123_0, hl123_0, hi123_0⟩ := at_L10 HR0.out x8_1 p123 q123
              cases e123
              replace hx123_0 := (HB.out.cell (World.block_lt_of_cell? w _ hx123_0)).trans hx123_0
              have HR123_0 := Aside0.mk hi123_0
              have HC123_0 := Aside0.mk hl123_0
              clear hi123_0 hl123_0
              replace p123 := eq_true p123
              replace q123 := eq_true q123
              go_wp2_with (first | ((with_reducible refine gate_builtin (b := .append) (xs := #[.tmp 12, .tmp 13]) rfl ?_); at_builtin; refine Kd.R_append_rows (Kd.int .u8) (w0 := w) w.heap.size rfl (.tmp 12) (.tmp 13) 37 5 (.int .u8 0) 1 rfl Try.underlying37 info5 rfl (by decide) (by omega) u3 x3_1 (rd_L10 l0 x8_1) _ _ _ (fun _ => True) (fun _ => False) rfl rfl ?aO ?aR (fun _ _ h => h) (fun _ h => h.elim) ?aF ?aB ?aS ?aL ?_; (case aR => repeat (first | exact (Kd.C_below HR123_0.out HB.out) | (with_reducible refine Kd.C_alloc ?_ _) | (with_reducible refine Kd.C_drewN ?_ _) | (with_reducible refine Kd.C_drew ?_))); (case aB => exact (by repeat (first | (with_reducible first | exact HB.out | apply below_alloc | apply pw_below_drewN | apply below_drew1) | exact HB.out))); (case aF => exact (fun _ _ => trivial)); (case aO => exact (by (with_reducible repeat (first | apply Kd.R_alloc | apply Kd.R_drewN | apply Kd.R_drew)); exact HO_3.out)); (case aS => exact (below_size (by repeat (first | (with_reducible first | exact HB.out | apply below_alloc | apply pw_below_drewN | apply below_drew1) | exact HB.out)))); (case aL => have := LMc5.out; omega); intro v125 w6 ho hb hg hat; rw [← Ny124.out] at ho; have n0_ := Aside0.mk (hb); have n1_ := Aside0.mk (ho); clear HB; clear HO_3; have HB := n0_; have HO126 := n1_; clear n0_ n1_; clear ho hb hg hat))
              go_roundg k1
              case measure => have := HK1.out; omega
              case rel => exact ⟨(y124), (wrap64 (x8_1 + 1)), (by first | rfl | (simp; done) | (simp [*]; done)), H', ⟨by have := HK1.out; omega⟩, ⟨by (with_reducible repeat (first | apply Kd.R_alloc | apply Kd.R_drewN | apply Kd.R_drew)); exact HO126.out⟩, ⟨by repeat (first | (with_reducible first | exact HB.out | apply below_alloc | apply pw_below_drewN | apply below_drew1) | exact HB.out)⟩⟩
            · rw [if_neg c5] at H
              exact absurd H (by simp)
          · rw [if_neg c4] at H
            exact absurd H (by simp)
        · rw [if_neg c3] at H
          exact absurd H (by simp)
      · rw [if_neg c2] at H
        have c2b0 : decide (x8_1 < (l0.length : Int)) = false := decide_eq_false c2
        clear c2
        obtain rfl := Option.some.inj H
        go_wp2
        go_ret
        exact ⟨_, by first | rfl | (simp [errW_none, errW_some] <;> rfl) | (simp [*, errW_none, errW_some] <;> rfl), by (with_reducible repeat (first | apply Kd.R_alloc | apply Kd.R_drewN | apply Kd.R_drew)); exact HO_3.out, by repeat (first | (with_reducible first | exact HB.out | apply below_alloc | apply pw_below_drewN | apply below_drew1) | exact HB.out)⟩

/-! ### sum_half: function 73 -/
def sum_half.t : List Int := [0, 498536548, 997073096, 651767980, 1994146192, 1802195444, 1303535960, 1342533948, 3988292384, 4027552580, 3604390888, 3412177804, 2607071920, 2262029012, 2685067896, 3183342108]
def sum_half.f (a0 : Int) : Option (Int) := some (sum_half.t.getD (Go.bits .and .u32 a0 15).toNat 0)
theorem sum_half.and15 (a0 : Int) : ∃ j : Nat, j < 16 ∧ Go.bits .and .u32 a0 15 = (j : Int) := by
  refine ⟨(BitVec.ofInt 32 a0 &&& BitVec.ofInt 32 15).toNat, ?_, ?_⟩
  · rw [BitVec.toNat_and]
    have : (BitVec.ofInt 32 15).toNat = 2 ^ 4 - 1 := by decide
    rw [this, Nat.and_two_pow_sub_one_eq_mod]
    omega
  · show IntKind.u32.wrap (((BitVec.ofInt 32 a0 &&& BitVec.ofInt 32 15).toNat : Nat) : Int) = _
    have h := (BitVec.ofInt 32 a0 &&& BitVec.ofInt 32 15).isLt
    rw [IntKind.wrap_u32]
    omega
set_option maxHeartbeats 8000000 in
theorem sum_half.walk (a0 : Int) (j : Nat) (hj : j < 16) (e : Go.bits .and .u32 a0 15 = (j : Int)) (w : World) :
    Calls Try.prog 73 #[.int .u32 a0] w fun e w' => e = .returned (.int .u32 (sum_half.t.getD j 0)) ∧ Below w.heap.size w w' := by
  go_enter Try.func73, Try.ntmps73
  go_upto_region 2 with (fail)
  have hjj : j = 0 ∨ j = 1 ∨ j = 2 ∨ j = 3 ∨ j = 4 ∨ j = 5 ∨ j = 6 ∨ j = 7 ∨ j = 8 ∨ j = 9 ∨ j = 10 ∨ j = 11 ∨ j = 12 ∨ j = 13 ∨ j = 14 ∨ j = 15 := by omega
  clear hj
  rcases hjj with rfl | rfl | rfl | rfl | rfl | rfl | rfl | rfl | rfl | rfl | rfl | rfl | rfl | rfl | rfl | rfl
  all_goals
    go_wp2
    go_ret
    exact ⟨rfl, by repeat (first | (with_reducible first | exact Below.refl _ _ | apply below_alloc | apply pw_below_drewN | apply below_drew1))⟩
theorem sum_half.calls (a0 : Int) (r : Int) (w : World) (h : sum_half.f a0 = some r) :
    Calls Try.prog 73 #[.int .u32 a0] w fun e w' => e = .returned (.int .u32 r) ∧ Below w.heap.size w w' := by
  obtain ⟨j, hj, e⟩ := sum_half.and15 a0
  obtain rfl := Option.some.inj h
  rw [e, Int.toNat_natCast]
  exact sum_half.walk a0 j hj e w

/-! ### sum_More: function 45 -/
def sum_More.l0 : Nat → Int → List Int → Int → Int → Option (Int)
  | 0, _, _, _, _ => none
  | k + 1, x0, x9, x10, x11 => if x11 < x10 then (if 0 ≤ x11 then (if x11 < (x9.length : Int) then ((sum_half.f (Go.bits .xor .u32 x0 ((rd x9 x11) % 4294967296))).bind fun t128 => ((sum_half.f (Go.bits .xor .u32 ((Go.bits .xor .u32 x0 ((rd x9 x11) % 4294967296)) / 16) t128)).bind fun t129 => (sum_More.l0 k (Go.bits .xor .u32 ((Go.bits .xor .u32 ((Go.bits .xor .u32 x0 ((rd x9 x11) % 4294967296)) / 16) t128) / 16) t129) x9 x10 (wrap64 (x11 + 1))))) else (none)) else (none)) else (some (Go.bits .xor .u32 4294967295 x0))
def sum_More.f (k : Nat) (a0 : Int) (l1 : List Int) : Option (Int) := sum_More.l0 k (Go.bits .xor .u32 4294967295 a0) l1 (l1.length : Int) 0
theorem sum_More.mono_l : ∀ k, (∀ y0 y1 y2 y3, LeO (sum_More.l0 k y0 y1 y2 y3) (sum_More.l0 (k + 1) y0 y1 y2 y3))
  | 0 => fun _ _ _ _ r h => by simp [sum_More.l0] at h
  | k + 1 => by
    have ih0 := sum_More.mono_l k
    · intro y0 y1 y2 y3
      unfold sum_More.l0
      repeat' first
      | (with_reducible exact ih0 _ _ _ _)
      | (with_reducible exact LeO.refl _)
      | (with_reducible exact LeO.none _)
      | (with_reducible refine LeO.ite ?_ ?_)
      | (with_reducible refine LeO.bind ?_ (fun _ => ?_))
      | exact ih0 _ _ _ _
      | exact LeO.none _
      | refine LeO.ite ?_ ?_
      | refine LeO.bind ?_ (fun _ => ?_)
theorem sum_More.mono : ∀ a0 a1 k, LeO (sum_More.f k a0 a1) (sum_More.f (k + 1) a0 a1) := by
  intro a0 a1 k
  have ih0 := sum_More.mono_l k
  unfold sum_More.f
  repeat' first
      | (with_reducible exact ih0 _ _ _ _)
      | (with_reducible exact LeO.refl _)
      | (with_reducible exact LeO.none _)
      | (with_reducible refine LeO.ite ?_ ?_)
      | (with_reducible refine LeO.bind ?_ (fun _ => ?_))
      | exact ih0 _ _ _ _
      | exact LeO.none _
      | refine LeO.ite ?_ ?_
      | refine LeO.bind ?_ (fun _ => ?_)
set_option maxHeartbeats 8000000 in
set_option maxRecDepth 100000 in
theorem sum_More.calls (k : Nat) (a0 : Int) (A1 : Option Addr) (c1 : Nat) (l1 : List Int) (r : Int) (w : World) (hr1 : Kd.C (Kd.int .u8) w A1 l1.length l1) (hc1 : l1.length ≤ c1) (h : sum_More.f k a0 l1 = some r) :
    Calls Try.prog 45 #[.int .u32 a0, .slice A1 l1.length c1] w fun e w' => e = .returned (.int .u32 r) ∧ Below w.heap.size w w' := by
  have HR1 := Aside0.mk hr1
  have HC1 := Aside0.mk hc1
  clear hr1 hc1
  have HB := Aside0.mk (Below.refl w.heap.size w)
  have H : (sum_More.l0 k (Go.bits .xor .u32 4294967295 a0) l1 (l1.length : Int) 0) = some r := h
  clear h
  have H' := Aside0.mk H
  clear H
  go_enter Try.func45, Try.ntmps45
  go_wp2
  go_loopg [0, 11] k (fun kq v0 v11 w' => ∃ (x0_1 : Int) (x11_1 : Int), v0 = .int .u32 x0_1 ∧ v11 = .int .i64 x11_1 ∧ Aside0 (sum_More.l0 kq x0_1 l1 (l1.length : Int) x11_1 = some r) ∧ Aside0 (kq ≤ k) ∧ Aside0 (Below w.heap.size w w'))
  case atStart => exact ⟨(Go.bits .xor .u32 4294967295 a0), (0), (by first | rfl | (simp; done) | (simp [*]; done)), (by first | rfl | (simp; done) | (simp [*]; done)), H', ⟨Nat.le_refl _⟩, ⟨by repeat (first | (with_reducible first | exact HB.out | apply below_alloc | apply pw_below_drewN | apply below_drew1) | exact HB.out)⟩⟩
  case round =>
    clear H'
    try clear c1
    try clear p2
    obtain ⟨x0_1, x11_1, rfl, rfl, HA, HK1, HB⟩ := hrel
    cases gk with
    | zero => exact absurd HA.out (by simp [sum_More.l0])
    | succ k1 =>
      have H := HA.out
      clear HA
      simp only [sum_More.l0] at H
      by_cases c3 : x11_1 < (l1.length : Int)
      · rw [if_pos c3] at H
        have c3b0 : decide (x11_1 < (l1.length : Int)) = true := decide_eq_true c3
        clear c3
        by_cases c4 : 0 ≤ x11_1
        · rw [if_pos c4] at H
          have c4b0 : decide (0 ≤ x11_1) = true := decide_eq_true c4
          clear c4
          by_cases c5 : x11_1 < (l1.length : Int)
          · rw [if_pos c5] at H
            have c5b0 : decide (x11_1 < (l1.length : Int)) = true := decide_eq_true c5
            clear c5
            replace H := Option.bind_eq_some_iff.mp H
            obtain ⟨t128, A60, H⟩ := H
            replace H : ((sum_half.f (Go.bits .xor .u32 ((Go.bits .xor .u32 x0_1 ((rd l1 x11_1) % 4294967296)) / 16) t128)).bind fun t129 => (sum_More.l0 k1 (Go.bits .xor .u32 ((Go.bits .xor .u32 ((Go.bits .xor .u32 x0_1 ((rd l1 x11_1) % 4294967296)) / 16) t128) / 16) t129) l1 (l1.length : Int) (wrap64 (x11_1 + 1)))) = some r := H
            have A6 := Aside0.mk A60
            clear A60
            replace H := Option.bind_eq_some_iff.mp H
            obtain ⟨t129, A70, H⟩ := H
            replace H : (sum_More.l0 k1 (Go.bits .xor .u32 ((Go.bits .xor .u32 ((Go.bits .xor .u32 x0_1 ((rd l1 x11_1) % 4294967296)) / 16) t128) / 16) t129) l1 (l1.length : Int) (wrap64 (x11_1 + 1))) = some r := H
            have A7 := Aside0.mk A70
            clear A70
            have H' := Aside0.mk H
            clear H
            have p127 : 0 ≤ (x11_1 : Int) := of_decide_eq_true (by first | (with_reducible assumption) | assumption)
            have q127 : x11_1 < (l1.length : Int) := of_decide_eq_true (by first | (with_reducible assumption) | assumption)
            obtain ⟨ad127, e127, hx127_0⟩ := Kd.at_int HR1.out x11_1 p127 q127
            cases e127
            replace hx127_0 := (HB.out.cell (World.block_lt_of_cell? w _ hx127_0)).trans hx127_0
            replace p127 := eq_true p127
            replace q127 := eq_true q127
            go_wp2_with (first | ((with_reducible refine gate_callee (f := 73) rfl ?_); refine goesL_ (some 22) rfl rfl Try.func73 (by kernel_rfl) rfl #[.int .u32 (Go.bits .xor .u32 x0_1 ((rd l1 x11_1) % 4294967296))] rfl (by (try simp only [List.map_toArray, List.map_cons, List.map_nil]); first | done | rfl | (simp only [List.length_drop, List.length_take]; rfl)) ?_; (with_reducible refine (sum_half.calls (Go.bits .xor .u32 x0_1 ((rd l1 x11_1) % 4294967296)) t128 _ A6.out).mono ?_); rintro e w8 ⟨rfl, hb⟩; refine ⟨_, rfl, ?_⟩; have n0_ := Aside0.mk (below_step (by repeat (first | (with_reducible first | exact HB.out | apply below_alloc | apply pw_below_drewN | apply below_drew1) | exact HB.out)) hb); clear HB; have HB := n0_; clear n0_; (try clear hb); (try clear hb2); (try clear hk); (try clear hi)) | ((with_reducible refine gate_callee (f := 73) rfl ?_); refine goesL_ (some 27) rfl rfl Try.func73 (by kernel_rfl) rfl #[.int .u32 (Go.bits .xor .u32 ((Go.bits .xor .u32 x0_1 ((rd l1 x11_1) % 4294967296)) / 16) t128)] rfl (by (try simp only [List.map_toArray, List.map_cons, List.map_nil]); first | done | rfl | (simp only [List.length_drop, List.length_take]; rfl)) ?_; (with_reducible refine (sum_half.calls (Go.bits .xor .u32 ((Go.bits .xor .u32 x0_1 ((rd l1 x11_1) % 4294967296)) / 16) t128) t129 _ A7.out).mono ?_); rintro e w9 ⟨rfl, hb⟩; refine ⟨_, rfl, ?_⟩; have n0_ := Aside0.mk (below_step (by repeat (first | (with_reducible first | exact HB.out | apply below_alloc | apply pw_below_drewN | apply below_drew1) | exact HB.out)) hb); clear HB; have HB := n0_; clear n0_; (try clear hb); (try clear hb2); (try clear hk); (try clear hi)))
            go_roundg k1
            case measure => have := HK1.out; omega
            case rel => exact ⟨(Go.bits .xor .u32 ((Go.bits .xor .u32 ((Go.bits .xor .u32 x0_1 ((rd l1 x11_1) % 4294967296)) / 16) t128) / 16) t129), (wrap64 (x11_1 + 1)), (by first | rfl | (simp; done) | (simp [*]; done)), (by first | rfl | (simp; done) | (simp [*]; done)), H', ⟨by have := HK1.out; omega⟩, ⟨by repeat (first | (with_reducible first | exact HB.out | apply below_alloc | apply pw_below_drewN | apply below_drew1) | exact HB.out)⟩⟩
          · rw [if_neg c5] at H
            exact absurd H (by simp)
        · rw [if_neg c4] at H
          exact absurd H (by simp)
      · rw [if_neg c3] at H
        have c3b0 : decide (x11_1 < (l1.length : Int)) = false := decide_eq_false c3
        clear c3
        obtain rfl := Option.some.inj H
        go_wp2
        go_ret
        exact ⟨by first | rfl | (simp [errW_none, errW_some] <;> rfl) | (simp [*, errW_none, errW_some] <;> rfl), by repeat (first | (with_reducible first | exact HB.out | apply below_alloc | apply pw_below_drewN | apply below_drew1) | exact HB.out)⟩

/-! ### sum_Of: function 46 -/
def sum_Of.f (k : Nat) (l0 : List Int) : Option (Int) := (sum_More.f k 0 l0).bind fun t130 => (some t130)
theorem sum_Of.mono : ∀ a0 k, LeO (sum_Of.f k a0) (sum_Of.f (k + 1) a0) := by
  intro a0 k
  unfold sum_Of.f
  repeat' first
      | (with_reducible exact sum_More.mono _ _ _)
      | (with_reducible exact LeO.refl _)
      | (with_reducible exact LeO.none _)
      | (with_reducible refine LeO.ite ?_ ?_)
      | (with_reducible refine LeO.bind ?_ (fun _ => ?_))
      | exact sum_More.mono _ _ _
      | exact LeO.none _
      | refine LeO.ite ?_ ?_
      | refine LeO.bind ?_ (fun _ => ?_)
set_option maxHeartbeats 8000000 in
set_option maxRecDepth 100000 in
theorem sum_Of.calls (k : Nat) (A0 : Option Addr) (c0 : Nat) (l0 : List Int) (r : Int) (w : World) (hr0 : Kd.C (Kd.int .u8) w A0 l0.length l0) (hc0 : l0.length ≤ c0) (h : sum_Of.f k l0 = some r) :
    Calls Try.prog 46 #[.slice A0 l0.length c0] w fun e w' => e = .returned (.int .u32 r) ∧ Below w.heap.size w w' := by
  have HR0 := Aside0.mk hr0
  have HC0 := Aside0.mk hc0
  clear hr0 hc0
  have HB := Aside0.mk (Below.refl w.heap.size w)
  have H : ((sum_More.f k 0 l0).bind fun t130 => (some t130)) = some r := h
  clear h
  replace H := Option.bind_eq_some_iff.mp H
  obtain ⟨t130, A20, H⟩ := H
  replace H : (some t130) = some r := H
  have A2 := Aside0.mk A20
  clear A20
  obtain rfl := Option.some.inj H
  go_enter Try.func46, Try.ntmps46
  go_wp2_with (first | ((with_reducible refine gate_callee (f := 45) rfl ?_); refine goesL_ (some 4) rfl rfl Try.func45 (by kernel_rfl) rfl #[.int .u32 0, .slice A0 l0.length c0] rfl (by (try simp only [List.map_toArray, List.map_cons, List.map_nil]); first | done | rfl | (simp only [List.length_drop, List.length_take]; rfl)) ?_; (with_reducible refine (sum_More.calls k 0 _ _ l0 t130 _ ?side1 ?side2 A2.out).mono ?_); (case side1 => repeat (first | exact HR0.out | (with_reducible refine Kd.C_alloc ?_ _) | (with_reducible refine Kd.C_drewN ?_ _) | (with_reducible refine Kd.C_drew ?_))); (case side2 => exact HC0.out); rintro e w3 ⟨rfl, hb⟩; refine ⟨_, rfl, ?_⟩; have n0_ := Aside0.mk (below_step (by repeat (first | (with_reducible first | exact HB.out | apply below_alloc | apply pw_below_drewN | apply below_drew1) | exact HB.out)) hb); clear HB; have HB := n0_; clear n0_; (try clear hb); (try clear hb2); (try clear hk); (try clear hi)))
  go_ret
  exact ⟨by first | rfl | (simp [errW_none, errW_some] <;> rfl) | (simp [*, errW_none, errW_some] <;> rfl), by repeat (first | (with_reducible first | exact HB.out | apply below_alloc | apply pw_below_drewN | apply below_drew1) | exact HB.out)⟩

/-! ### frame_Seal: function 20 -/
def frame_Seal.j0 : Nat → List Int → Bool → Option (List Int × Int)
  | 0, _, _ => none
  | k + 1, x0, x12 => if x12 = true then (some (([] : List Int), 1)) else ((frame_four.f (((x0.length : Int)) % 4294967296)).bind fun t131 => ((sum_Of.f k t131).bind fun t134 => ((sum_More.f k t134 x0).bind fun t135 => ((frame_four.f t135).bind fun t136 => ((frame_join.f k (([t131, t136, x0] : List (List Int)))).bind fun t142 => (some (t142, 0)))))))
def frame_Seal.f (k : Nat) (l0 : List Int) : Option (List Int × Int) := if (l0.length : Int) = 0 then (frame_Seal.j0 k l0 true) else (frame_Seal.j0 k l0 (decide ((l0.length : Int) > 65536)))
theorem frame_Seal.mono_l : ∀ k, (∀ y0 y1, LeO (frame_Seal.j0 k y0 y1) (frame_Seal.j0 (k + 1) y0 y1))
  | 0 => fun _ _ r h => by simp [frame_Seal.j0] at h
  | k + 1 => by
    have ih0 := frame_Seal.mono_l k
    · intro y0 y1
      unfold frame_Seal.j0
      repeat' first
      | (with_reducible exact ih0 _ _)
      | (with_reducible exact frame_join.mono _ _)
      | (with_reducible exact sum_More.mono _ _ _)
      | (with_reducible exact sum_Of.mono _ _)
      | (with_reducible exact LeO.refl _)
      | (with_reducible exact LeO.none _)
      | (with_reducible refine LeO.ite ?_ ?_)
      | (with_reducible refine LeO.bind ?_ (fun _ => ?_))
      | exact ih0 _ _
      | exact frame_join.mono _ _
      | exact sum_More.mono _ _ _
      | exact sum_Of.mono _ _
      | exact LeO.none _
      | refine LeO.ite ?_ ?_
      | refine LeO.bind ?_ (fun _ => ?_)
theorem frame_Seal.mono : ∀ a0 k, LeO (frame_Seal.f k a0) (frame_Seal.f (k + 1) a0) := by
  intro a0 k
  have ih0 := frame_Seal.mono_l k
  unfold frame_Seal.f
  repeat' first
      | (with_reducible exact ih0 _ _)
      | (with_reducible exact frame_join.mono _ _)
      | (with_reducible exact sum_More.mono _ _ _)
      | (with_reducible exact sum_Of.mono _ _)
      | (with_reducible exact LeO.refl _)
      | (with_reducible exact LeO.none _)
      | (with_reducible refine LeO.ite ?_ ?_)
      | (with_reducible refine LeO.bind ?_ (fun _ => ?_))
      | exact ih0 _ _
      | exact frame_join.mono _ _
      | exact sum_More.mono _ _ _
      | exact sum_Of.mono _ _
      | exact LeO.none _
      | refine LeO.ite ?_ ?_
      | refine LeO.bind ?_ (fun _ => ?_)
set_option maxHeartbeats 8000000 in
set_option maxRecDepth 100000 in
theorem frame_Seal.calls (k : Nat) (P0_ : Nat → Prop) (A0 : Option Addr) (c0 : Nat) (l0 : List Int) (r1 : List Int) (r2 : Int) (w : World) (hs0 : Kd.V (Kd.int .u8) 5 w w.heap.size (fun k_ => P0_ k_) (.slice A0 l0.length c0) l0) (h : frame_Seal.f k l0 = some (r1, r2)) :
    Calls Try.prog 20 #[.slice A0 l0.length c0] w fun e w' => ∃ v0_ : Value, e = .returned (.tuple #[v0_, .int .i64 r2]) ∧ Kd.R (Kd.int .u8) 5 w' w.heap.size (fun k_ => (w.heap.size ≤ k_)) v0_ r1 ∧ Below w.heap.size w w' := by
  have HO0 := Aside0.mk (show Kd.V (Kd.int .u8) 5 w w.heap.size (fun k_ => (P0_ k_ ∨ w.heap.size ≤ k_)) (.slice A0 l0.length c0) l0 from Kd.V_mono hs0 (fun k_ hk => .inl hk))
  have HB := Aside0.mk (Below.refl w.heap.size w)
  have H : (if (l0.length : Int) = 0 then (frame_Seal.j0 k l0 true) else (frame_Seal.j0 k l0 (decide ((l0.length : Int) > 65536)))) = some (r1, r2) := h
  clear h
  have HC2 := Aside0.mk H
  clear H
  go_enter Try.func20, Try.ntmps20
  go_upto_region 1 with (fail)
  go_cut [12] (fun v12 wc => ∃ (kq : Nat) (x12_1 : Bool), v12 = .bool x12_1 ∧ Aside0 (frame_Seal.j0 kq l0 x12_1 = some (r1, r2)) ∧ Aside0 (kq ≤ k) ∧ Aside0 (Kd.V (Kd.int .u8) 5 wc w.heap.size (fun k_ => (P0_ k_ ∨ w.heap.size ≤ k_)) (.slice A0 l0.length c0) l0) ∧ Aside0 (Below w.heap.size w wc))
  case first =>
    have H := HC2.out
    clear HC2
    by_cases c3 : (l0.length : Int) = 0
    · rw [if_pos c3] at H
      have c3b0 : ((l0.length : Int) == 0) = true := beq_iff_eq.mpr c3
      have c3b1 : ((l0.length : Int) != 0) = false := bne_eq_false_iff_eq.mpr c3
      clear c3
      (first | rw [c3b0] | (simp only [i64_w, i32_w]; rw [c3b0]) | skip)
      have H' := Aside0.mk H
      clear H
      go_wp2
      go_meet
      case rel => exact ⟨_, (true), (by first | rfl | (simp; done) | (simp [*]; done)), H', ⟨by first | omega | exact Nat.le_refl _⟩, ⟨by (with_reducible repeat (first | apply Kd.V_alloc | apply Kd.V_drewN | apply Kd.V_drew)); exact HO0.out⟩, ⟨by repeat (first | (with_reducible first | exact HB.out | apply below_alloc | apply pw_below_drewN | apply below_drew1) | exact HB.out)⟩⟩
    · rw [if_neg c3] at H
      have c3b0 : ((l0.length : Int) == 0) = false := beq_eq_false_iff_ne.mpr c3
      have c3b1 : ((l0.length : Int) != 0) = true := bne_iff_ne.mpr c3
      have c3b2 : ¬ (l0 = []) := fun h_ => c3 (by rw [h_]; rfl)
      (first | rw [c3b0] | (simp only [i64_w, i32_w]; rw [c3b0]) | skip)
      have H' := Aside0.mk H
      clear H
      go_wp2
      go_meet
      case rel => exact ⟨_, (decide ((l0.length : Int) > 65536)), (by first | rfl | (simp; done) | (simp [*]; done)), H', ⟨by first | omega | exact Nat.le_refl _⟩, ⟨by (with_reducible repeat (first | apply Kd.V_alloc | apply Kd.V_drewN | apply Kd.V_drew)); exact HO0.out⟩, ⟨by repeat (first | (with_reducible first | exact HB.out | apply below_alloc | apply pw_below_drewN | apply below_drew1) | exact HB.out)⟩⟩
  case rest =>
    clear HC2
    try clear c2
    try clear p2
    try clear c3
    try clear c3b0
    try clear c3b1
    try clear c3b2
    obtain ⟨kq, x12_1, rfl, HA, HJ1, HO_0, HB⟩ := hcut
    cases kq with
    | zero => exact absurd HA.out (by simp [frame_Seal.j0])
    | succ kj1 =>
      have H := HA.out
      clear HA
      simp only [frame_Seal.j0] at H
      by_cases c4 : x12_1 = true
      · subst c4
        have H1 : (some (([] : List Int), 1)) = some (r1, r2) := by rw [if_pos rfl] at H; exact H
        clear H
        have H := H1
        clear H1
        simp only [Option.some.injEq, Prod.mk.injEq] at H
        obtain ⟨rfl, rfl⟩ := H
        go_wp2
        go_ret2
        exact ⟨_, by first | rfl | (simp [errW_none, errW_some] <;> rfl) | (simp [*, errW_none, errW_some] <;> rfl), by first | exact Kd.R_nil _ _ _ _ _ | exact Kd.N_nil _ _ _ _ _ | exact Kd.V_nil _ _ _ _ _ | exact Kd.Q_nil _ _ _ _ _ | exact Kd.S_nil _ _ _ _ _, by repeat (first | (with_reducible first | exact HB.out | apply below_alloc | apply pw_below_drewN | apply below_drew1) | exact HB.out)⟩
      · replace c4 := Bool.eq_false_iff.mpr c4
        subst c4
        have H1 : ((frame_four.f (((l0.length : Int)) % 4294967296)).bind fun t131 => ((sum_Of.f kj1 t131).bind fun t134 => ((sum_More.f kj1 t134 l0).bind fun t135 => ((frame_four.f t135).bind fun t136 => ((frame_join.f kj1 (([t131, t136, l0] : List (List Int)))).bind fun t142 => (some (t142, 0))))))) = some (r1, r2) := by rw [if_neg (show ¬ (false = true) by decide)] at H; exact H
        clear H
        have H := H1
        clear H1
        replace H := Option.bind_eq_some_iff.mp H
        obtain ⟨t131, A50, H⟩ := H
        replace H : ((sum_Of.f kj1 t131).bind fun t134 => ((sum_More.f kj1 t134 l0).bind fun t135 => ((frame_four.f t135).bind fun t136 => ((frame_join.f kj1 (([t131, t136, l0] : List (List Int)))).bind fun t142 => (some (t142, 0)))))) = some (r1, r2) := H
        have A5 := Aside0.mk A50
        clear A50
        replace H := Option.bind_eq_some_iff.mp H
        obtain ⟨t134, A60, H⟩ := H
        replace H : ((sum_More.f kj1 t134 l0).bind fun t135 => ((frame_four.f t135).bind fun t136 => ((frame_join.f kj1 (([t131, t136, l0] : List (List Int)))).bind fun t142 => (some (t142, 0))))) = some (r1, r2) := H
        have A6 := Aside0.mk A60
        clear A60
        replace H := Option.bind_eq_some_iff.mp H
        obtain ⟨t135, A70, H⟩ := H
        replace H : ((frame_four.f t135).bind fun t136 => ((frame_join.f kj1 (([t131, t136, l0] : List (List Int)))).bind fun t142 => (some (t142, 0)))) = some (r1, r2) := H
        have A7 := Aside0.mk A70
        clear A70
        replace H := Option.bind_eq_some_iff.mp H
        obtain ⟨t136, A80, H⟩ := H
        replace H : ((frame_join.f kj1 (([t131, t136, l0] : List (List Int)))).bind fun t142 => (some (t142, 0))) = some (r1, r2) := H
        have A8 := Aside0.mk A80
        clear A80
        obtain ⟨y139, hy139⟩ : ∃ y_ : List (List Int), y_ = (([t131, t136, l0] : List (List Int))) := ⟨_, rfl⟩
        replace H : ((frame_join.f kj1 y139).bind fun t142 => (some (t142, 0))) = some (r1, r2) := by first | (rw [hy139]; with_reducible exact H) | (have H2_ := (Option.bind_some _ _).symm.trans H; rw [hy139]; with_reducible exact H2_) | (have H2_ := (Option.bind_some _ _).symm.trans H; with_reducible exact H2_) | with_reducible exact H | (rw [hy139]; exact H) | exact H
        have Ny139 := Aside0.mk hy139
        clear hy139
        replace H := Option.bind_eq_some_iff.mp H
        obtain ⟨t142, A90, H⟩ := H
        replace H : (some (t142, 0)) = some (r1, r2) := H
        have A9 := Aside0.mk A90
        clear A90
        simp only [Option.some.injEq, Prod.mk.injEq] at H
        obtain ⟨rfl, rfl⟩ := H
        go_wp2_with (first | ((with_reducible refine gate_callee (f := 43) rfl ?_); refine goesL_ (some 16) rfl rfl Try.func43 (by kernel_rfl) rfl #[.int .u32 (((l0.length : Int)) % 4294967296)] rfl (by (try simp only [List.map_toArray, List.map_cons, List.map_nil]); first | done | rfl | (simp only [List.length_drop, List.length_take]; rfl)) ?_; (with_reducible refine (frame_four.calls (((l0.length : Int)) % 4294967296) t131 _ A5.out).mono ?_); rintro e w10 ⟨v132, rfl, ho0, hb⟩; refine ⟨_, rfl, ?_⟩; have n0_ := Aside0.mk (Kd.V_elder' (by (with_reducible repeat (first | apply Kd.V_alloc | apply Kd.V_drewN | apply Kd.V_drew)); exact HO_0.out) (Kd.R_base ho0) hb); have n1_ := Aside0.mk (Kd.R_lower (Kd.R_newM (M := fun k_ => (w.heap.size ≤ k_)) ho0 (below_size (by repeat (first | (with_reducible first | exact HB.out | apply below_alloc | apply pw_below_drewN | apply below_drew1) | exact HB.out))) (fun k_ h_ => h_)) (below_size (by repeat (first | (with_reducible first | exact HB.out | apply below_alloc | apply pw_below_drewN | apply below_drew1) | exact HB.out)))); have n2_ := Aside0.mk (below_step (by repeat (first | (with_reducible first | exact HB.out | apply below_alloc | apply pw_below_drewN | apply below_drew1) | exact HB.out)) hb); clear HO_0; clear HB; have HO_0 := n0_; have HO133 := n1_; have HB := n2_; clear n0_ n1_ n2_; (try clear hb); (try clear hb2); (try clear hk); (try clear hi); (try clear ho0); obtain ⟨Ao11, co11, eo11⟩ := Kd.R_slice HO133.out; subst eo11) | ((with_reducible refine gate_callee (f := 46) rfl ?_); refine goesL_ (some 19) rfl rfl Try.func46 (by kernel_rfl) rfl #[.slice Ao11 t131.length co11] rfl (by (try simp only [List.map_toArray, List.map_cons, List.map_nil]); first | done | rfl | (simp only [List.length_drop, List.length_take]; rfl)) ?_; (with_reducible refine (sum_Of.calls kj1 _ _ t131 t134 _ ?side1 ?side2 A6.out).mono ?_); (case side1 => repeat (first | exact (Kd.R_reads' HO133.out).2.2 | (with_reducible refine Kd.C_alloc ?_ _) | (with_reducible refine Kd.C_drewN ?_ _) | (with_reducible refine Kd.C_drew ?_))); (case side2 => exact (Kd.R_reads' HO133.out).2.1); rintro e w12 ⟨rfl, hb⟩; refine ⟨_, rfl, ?_⟩; have n0_ := Aside0.mk (Kd.V_below (by (with_reducible repeat (first | apply Kd.V_alloc | apply Kd.V_drewN | apply Kd.V_drew)); exact HO_0.out) hb); have n1_ := Aside0.mk (Kd.R_below (by (with_reducible repeat (first | apply Kd.R_alloc | apply Kd.R_drewN | apply Kd.R_drew)); exact HO133.out) hb); have n2_ := Aside0.mk (below_step (by repeat (first | (with_reducible first | exact HB.out | apply below_alloc | apply pw_below_drewN | apply below_drew1) | exact HB.out)) hb); clear HO_0; clear HO133; clear HB; have HO_0 := n0_; have HO133 := n1_; have HB := n2_; clear n0_ n1_ n2_; (try clear hb); (try clear hb2); (try clear hk); (try clear hi)) | ((with_reducible refine gate_callee (f := 45) rfl ?_); refine goesL_ (some 21) rfl rfl Try.func45 (by kernel_rfl) rfl #[.int .u32 t134, .slice A0 l0.length c0] rfl (by (try simp only [List.map_toArray, List.map_cons, List.map_nil]); first | done | rfl | (simp only [List.length_drop, List.length_take]; rfl)) ?_; (with_reducible refine (sum_More.calls kj1 t134 _ _ l0 t135 _ ?side1 ?side2 A7.out).mono ?_); (case side1 => repeat (first | exact (Kd.V_reads' HO_0.out).2.2 | (with_reducible refine Kd.C_alloc ?_ _) | (with_reducible refine Kd.C_drewN ?_ _) | (with_reducible refine Kd.C_drew ?_))); (case side2 => exact (Kd.V_reads' HO_0.out).2.1); rintro e w13 ⟨rfl, hb⟩; refine ⟨_, rfl, ?_⟩; have n0_ := Aside0.mk (Kd.V_below (by (with_reducible repeat (first | apply Kd.V_alloc | apply Kd.V_drewN | apply Kd.V_drew)); exact HO_0.out) hb); have n1_ := Aside0.mk (Kd.R_below (by (with_reducible repeat (first | apply Kd.R_alloc | apply Kd.R_drewN | apply Kd.R_drew)); exact HO133.out) hb); have n2_ := Aside0.mk (below_step (by repeat (first | (with_reducible first | exact HB.out | apply below_alloc | apply pw_below_drewN | apply below_drew1) | exact HB.out)) hb); clear HO_0; clear HO133; clear HB; have HO_0 := n0_; have HO133 := n1_; have HB := n2_; clear n0_ n1_ n2_; (try clear hb); (try clear hb2); (try clear hk); (try clear hi)) | ((with_reducible refine gate_callee (f := 43) rfl ?_); refine goesL_ (some 22) rfl rfl Try.func43 (by kernel_rfl) rfl #[.int .u32 t135] rfl (by (try simp only [List.map_toArray, List.map_cons, List.map_nil]); first | done | rfl | (simp only [List.length_drop, List.length_take]; rfl)) ?_; (with_reducible refine (frame_four.calls t135 t136 _ A8.out).mono ?_); rintro e w14 ⟨v137, rfl, ho0, hb⟩; refine ⟨_, rfl, ?_⟩; have n0_ := Aside0.mk (Kd.V_elder' (by (with_reducible repeat (first | apply Kd.V_alloc | apply Kd.V_drewN | apply Kd.V_drew)); exact HO_0.out) (Kd.R_base ho0) hb); have n1_ := Aside0.mk (Kd.R_elder' (by (with_reducible repeat (first | apply Kd.R_alloc | apply Kd.R_drewN | apply Kd.R_drew)); exact HO133.out) (Kd.R_base ho0) hb); have n2_ := Aside0.mk (Kd.R_lower (Kd.R_new' (Kd.R_newM (M := fun k_ => (w.heap.size ≤ k_)) ho0 (below_size (by repeat (first | (with_reducible first | exact HB.out | apply below_alloc | apply pw_below_drewN | apply below_drew1) | exact HB.out))) (fun k_ h_ => h_)) (Kd.R_lt (by (with_reducible repeat (first | apply Kd.R_alloc | apply Kd.R_drewN | apply Kd.R_drew)); exact HO133.out))) (below_size (by repeat (first | (with_reducible first | exact HB.out | apply below_alloc | apply pw_below_drewN | apply below_drew1) | exact HB.out)))); have n3_ := Aside0.mk (below_step (by repeat (first | (with_reducible first | exact HB.out | apply below_alloc | apply pw_below_drewN | apply below_drew1) | exact HB.out)) hb); clear HO_0; clear HO133; clear HB; have HO_0 := n0_; have HO133 := n1_; have HO138 := n2_; have HB := n3_; clear n0_ n1_ n2_ n3_; (try clear hb); (try clear hb2); (try clear hk); (try clear hi); (try clear ho0); obtain ⟨Ao15, co15, eo15⟩ := Kd.R_slice HO138.out; subst eo15) | ((with_reducible refine gate_dst (N := 24) rfl ?_); (try (refine gate_guard (by rfl) ?_; dsimp only)); refine Kd.N_lit (Kd.slice 5 (Kd.int .u8)) _ 37 ?hg (N' := 24) ?hd (xs := ([t131, t136, l0] : List (List Int))) (inner := [.slice Ao11 t131.length co11, .slice Ao15 t136.length co15, .slice A0 l0.length c0]) (ok := (fun k_ => (P0_ k_ ∨ w.heap.size ≤ k_))) (okp := (fun k_ => (P0_ k_ ∨ w.heap.size ≤ k_))) ?hr ?hp (fun _ hk => hk) ((show ∀ k_, w14.heap.size ≤ k_ → (fun k_ => (P0_ k_ ∨ w.heap.size ≤ k_)) k_ from fun k_ hk => (.inr (Nat.le_trans (below_size (by repeat (first | (with_reducible first | exact HB.out | apply below_alloc | apply pw_below_drewN | apply below_drew1) | exact HB.out))) hk))) _ (Nat.le_refl _)) (Below.refl _ _) (Nat.le_refl _) (by simp) ?_; (case hd => rfl); (case hg => rfl); (case hr => first | (go_simp; done) | (go_simp; rfl)); (case hp => exact (Reps.one (show Kd.FK (Kd.slice 5 (Kd.int .u8)) _ _ t131 [.slice Ao11 t131.length co11] from (Kd.FK_slice_mk (Kd.R_reads' (Kd.R_mono (ok' := (fun k_ => (P0_ k_ ∨ w.heap.size ≤ k_))) (HO133.out) (fun k_ hk => (.inr (hk.1.1))))).2.1 (Kd.R_F (Kd.R_mono (ok' := (fun k_ => (P0_ k_ ∨ w.heap.size ≤ k_))) (HO133.out) (fun k_ hk => (.inr (hk.1.1))))))) (Reps.one (show Kd.FK (Kd.slice 5 (Kd.int .u8)) _ _ t136 [.slice Ao15 t136.length co15] from (Kd.FK_slice_mk (Kd.R_reads' (Kd.R_mono (ok' := (fun k_ => (P0_ k_ ∨ w.heap.size ≤ k_))) (HO138.out) (fun k_ hk => (.inr (hk.1.1))))).2.1 (Kd.R_F (Kd.R_mono (ok' := (fun k_ => (P0_ k_ ∨ w.heap.size ≤ k_))) (HO138.out) (fun k_ hk => (.inr (hk.1.1))))))) (Reps.one (show Kd.FK (Kd.slice 5 (Kd.int .u8)) _ _ l0 [.slice A0 l0.length c0] from (Kd.FK_slice_mk (Kd.V_reads' (Kd.V_mono (ok' := (fun k_ => (P0_ k_ ∨ w.heap.size ≤ k_))) (HO_0.out) (fun k_ hk => hk.1.1))).2.1 (Kd.V_F (Kd.V_mono (ok' := (fun k_ => (P0_ k_ ∨ w.heap.size ≤ k_))) (HO_0.out) (fun k_ hk => hk.1.1))))) (Reps.none _ _))))); intro v140 w16 ho17 hb hg_ hnew_; clear hg_ hnew_; (first | rw [← Ny139.out] at ho17 | (simp only [Int.reduceToNat] at ho17; rw [← Ny139.out] at ho17)); have n0_ := Aside0.mk (Kd.V_elder' (by (with_reducible repeat (first | apply Kd.V_alloc | apply Kd.V_drewN | apply Kd.V_drew)); exact HO_0.out) (Kd.N_base ho17) hb); have n1_ := Aside0.mk (Kd.N_lower ho17 (below_size (by repeat (first | (with_reducible first | exact HB.out | apply below_alloc | apply pw_below_drewN | apply below_drew1) | exact HB.out)))); have n2_ := Aside0.mk (below_step (by repeat (first | (with_reducible first | exact HB.out | apply below_alloc | apply pw_below_drewN | apply below_drew1) | exact HB.out)) hb); clear HO_0; clear HB; clear HO133; clear HO138; have HO_0 := n0_; have HO141 := n1_; have HB := n2_; clear n0_ n1_ n2_; clear hb ho17; obtain ⟨Ao18, co18, eo18⟩ := Kd.N_slice HO141.out; subst eo18) | ((with_reducible refine gate_callee (f := 44) rfl ?_); refine goesL_ (some 25) rfl rfl Try.func44 (by kernel_rfl) rfl #[.slice Ao18 y139.length co18] rfl (by (try simp only [List.map_toArray, List.map_cons, List.map_nil]); first | done | rfl | (simp only [List.length_drop, List.length_take]; rfl)) ?_; (with_reducible refine (frame_join.calls kj1 _ _ y139 t142 _ ?side1 ?side2 A9.out).mono ?_); (case side1 => repeat (first | exact (Kd.N_reads' HO141.out).2.2 | (with_reducible refine Kd.C_alloc ?_ _) | (with_reducible refine Kd.C_drewN ?_ _) | (with_reducible refine Kd.C_drew ?_))); (case side2 => exact (Kd.N_reads' HO141.out).2.1); rintro e w19 ⟨v143, rfl, ho0, hb⟩; refine ⟨_, rfl, ?_⟩; have n0_ := Aside0.mk (Kd.V_elder' (by (with_reducible repeat (first | apply Kd.V_alloc | apply Kd.V_drewN | apply Kd.V_drew)); exact HO_0.out) (Kd.R_base ho0) hb); have n1_ := Aside0.mk (Kd.N_elder' (by (with_reducible repeat (first | apply Kd.N_alloc | apply Kd.N_drewN | apply Kd.N_drew)); exact HO141.out) (Kd.R_base ho0) hb); have n2_ := Aside0.mk (Kd.R_lower (Kd.R_newM (M := fun k_ => (w.heap.size ≤ k_)) ho0 (below_size (by repeat (first | (with_reducible first | exact HB.out | apply below_alloc | apply pw_below_drewN | apply below_drew1) | exact HB.out))) (fun k_ h_ => h_)) (below_size (by repeat (first | (with_reducible first | exact HB.out | apply below_alloc | apply pw_below_drewN | apply below_drew1) | exact HB.out)))); have n3_ := Aside0.mk (below_step (by repeat (first | (with_reducible first | exact HB.out | apply below_alloc | apply pw_below_drewN | apply below_drew1) | exact HB.out)) hb); clear HO_0; clear HO141; clear HB; have HO_0 := n0_; have HO141 := n1_; have HO144 := n2_; have HB := n3_; clear n0_ n1_ n2_ n3_; (try clear hb); (try clear hb2); (try clear hk); (try clear hi); (try clear ho0)))
        go_ret2
        exact ⟨_, by first | rfl | (simp [errW_none, errW_some] <;> rfl) | (simp [*, errW_none, errW_some] <;> rfl), by (with_reducible repeat (first | apply Kd.R_alloc | apply Kd.R_drewN | apply Kd.R_drew)); exact Kd.R_mono HO144.out (fun _ hk => hk.1), by repeat (first | (with_reducible first | exact HB.out | apply below_alloc | apply pw_below_drewN | apply below_drew1) | exact HB.out)⟩

/-! ### frame_number: function 76 -/
def frame_number.f (l0 : List Int) : Option (Int) := if 0 < (l0.length : Int) then (if 1 < (l0.length : Int) then (if 2 < (l0.length : Int) then (if 3 < (l0.length : Int) then (some (Go.bits .or .u32 (Go.bits .or .u32 (Go.bits .or .u32 ((((rd l0 0) % 4294967296) * 16777216) % 4294967296) ((((rd l0 1) % 4294967296) * 65536) % 4294967296)) ((((rd l0 2) % 4294967296) * 256) % 4294967296)) ((rd l0 3) % 4294967296))) else (none)) else (none)) else (none)) else (none)
set_option maxHeartbeats 8000000 in
set_option maxRecDepth 100000 in
theorem frame_number.calls (A0 : Option Addr) (c0 : Nat) (l0 : List Int) (r : Int) (w : World) (hr0 : Kd.C (Kd.int .u8) w A0 l0.length l0) (hc0 : l0.length ≤ c0) (h : frame_number.f l0 = some r) :
    Calls Try.prog 76 #[.slice A0 l0.length c0] w fun e w' => e = .returned (.int .u32 r) ∧ Drawn0 w w' := by
  have HR0 := Aside0.mk hr0
  have HC0 := Aside0.mk hc0
  clear hr0 hc0
  have H : (if 0 < (l0.length : Int) then (if 1 < (l0.length : Int) then (if 2 < (l0.length : Int) then (if 3 < (l0.length : Int) then (some (Go.bits .or .u32 (Go.bits .or .u32 (Go.bits .or .u32 ((((rd l0 0) % 4294967296) * 16777216) % 4294967296) ((((rd l0 1) % 4294967296) * 65536) % 4294967296)) ((((rd l0 2) % 4294967296) * 256) % 4294967296)) ((rd l0 3) % 4294967296))) else (none)) else (none)) else (none)) else (none)) = some r := h
  clear h
  by_cases c2 : 0 < (l0.length : Int)
  · rw [if_pos c2] at H
    have c2b0 : decide (0 < (l0.length : Int)) = true := decide_eq_true c2
    have c2b1 : decide (0 < l0.length) = true := decide_eq_true (by omega)
    clear c2
    by_cases c3 : 1 < (l0.length : Int)
    · rw [if_pos c3] at H
      have c3b0 : decide (1 < (l0.length : Int)) = true := decide_eq_true c3
      have c3b1 : decide (1 < l0.length) = true := decide_eq_true (by omega)
      clear c3
      by_cases c4 : 2 < (l0.length : Int)
      · rw [if_pos c4] at H
        have c4b0 : decide (2 < (l0.length : Int)) = true := decide_eq_true c4
        have c4b1 : decide (2 < l0.length) = true := decide_eq_true (by omega)
        clear c4
        by_cases c5 : 3 < (l0.length : Int)
        · rw [if_pos c5] at H
          have c5b0 : decide (3 < (l0.length : Int)) = true := decide_eq_true c5
          have c5b1 : decide (3 < l0.length) = true := decide_eq_true (by omega)
          clear c5
          obtain rfl := Option.some.inj H
          have p146 : 0 ≤ (0 : Int) := (by omega)
          have q146 : 0 < (l0.length : Int) := of_decide_eq_true (by first | (with_reducible assumption) | assumption)
          obtain ⟨ad146, e146, hx146_0⟩ := Kd.at_int HR0.out 0 p146 q146
          cases e146
          have qi146 : (0 < l0.length) = True := eq_true (by omega)
          (try rw [show ((0 : Int)).toNat = 0 from rfl] at hx146_0)
          (try rw [Addr.add_zero'] at hx146_0)
          replace p146 := eq_true p146
          replace q146 := eq_true q146
          have p147 : 0 ≤ (1 : Int) := (by omega)
          have q147 : 1 < (l0.length : Int) := of_decide_eq_true (by first | (with_reducible assumption) | assumption)
          obtain ⟨ad147, e147, hx147_0⟩ := Kd.at_int HR0.out 1 p147 q147
          obtain rfl : ad146 = ad147 := (by injection e147)
          (try simp only [show (1 : Int).toNat = 1 from rfl, Nat.reduceMul, Nat.reduceEqDiff, Go.Addr.add, ↓reduceIte] at hx147_0)
          have qi147 : (1 < l0.length) = True := eq_true (by omega)
          (try rw [show ((1 : Int)).toNat = 1 from rfl] at hx147_0)
          replace p147 := eq_true p147
          replace q147 := eq_true q147
          have p148 : 0 ≤ (2 : Int) := (by omega)
          have q148 : 2 < (l0.length : Int) := of_decide_eq_true (by first | (with_reducible assumption) | assumption)
          obtain ⟨ad148, e148, hx148_0⟩ := Kd.at_int HR0.out 2 p148 q148
          obtain rfl : ad146 = ad148 := (by injection e148)
          (try simp only [show (2 : Int).toNat = 2 from rfl, Nat.reduceMul, Nat.reduceEqDiff, Go.Addr.add, ↓reduceIte] at hx148_0)
          have qi148 : (2 < l0.length) = True := eq_true (by omega)
          (try rw [show ((2 : Int)).toNat = 2 from rfl] at hx148_0)
          replace p148 := eq_true p148
          replace q148 := eq_true q148
          have p149 : 0 ≤ (3 : Int) := (by omega)
          have q149 : 3 < (l0.length : Int) := of_decide_eq_true (by first | (with_reducible assumption) | assumption)
          obtain ⟨ad149, e149, hx149_0⟩ := Kd.at_int HR0.out 3 p149 q149
          obtain rfl : ad146 = ad149 := (by injection e149)
          (try simp only [show (3 : Int).toNat = 3 from rfl, Nat.reduceMul, Nat.reduceEqDiff, Go.Addr.add, ↓reduceIte] at hx149_0)
          have qi149 : (3 < l0.length) = True := eq_true (by omega)
          (try rw [show ((3 : Int)).toNat = 3 from rfl] at hx149_0)
          replace p149 := eq_true p149
          replace q149 := eq_true q149
          go_enter Try.func76, Try.ntmps76
          go_wp2
          repeat (go_quiet (fail); try go_wp2)
          go_ret
          exact ⟨by first | rfl | (simp; done) | (simp [*]; done), by repeat (first | exact Drawn0.refl _ | apply Drawn0.step)⟩
        · rw [if_neg c5] at H
          exact absurd H (by simp)
      · rw [if_neg c4] at H
        exact absurd H (by simp)
    · rw [if_neg c3] at H
      exact absurd H (by simp)
  · rw [if_neg c2] at H
    exact absurd H (by simp)

/-! ### frame_first: function 61 -/
def frame_first.j0 : Nat → List Int → Int → Bool → Option (List Int × Bool)
  | 0, _, _, _ => none
  | k + 1, x0, x4, x24 => if x24 = true then (some (([] : List Int), false)) else (if 8 ≤ ((8 + x4) % 4294967296) then (if ((8 + x4) % 4294967296) ≤ (x0.length : Int) then ((frame_join.f k (([((x0.take (((8 + x4) % 4294967296) : Int).toNat).drop 8)] : List (List Int)))).bind fun t139 => (if 4 ≤ (x0.length : Int) then ((sum_Of.f k (x0.take 4)).bind fun t147 => ((sum_More.f k t147 t139).bind fun t148 => ((frame_number.f (x0.drop 4)).bind fun t154 => (if t148 = t154 then (if 0 ≤ (t139.length : Int) then (if (t139.length : Int) ≤ (t139.length : Int) then (some ((t139.take ((t139.length : Int) : Int).toNat), true)) else (none)) else (none)) else (some (([] : List Int), false)))))) else (none))) else (none)) else (none))
def frame_first.f (k : Nat) (l0 : List Int) : Option (List Int × Bool) := if (l0.length : Int) < 9 then (some (([] : List Int), false)) else ((frame_number.f l0).bind fun t130 => (if t130 = 0 then (frame_first.j0 k l0 t130 true) else (if t130 > 65536 then (frame_first.j0 k l0 t130 true) else (frame_first.j0 k l0 t130 (decide ((wrap64 (t130)) > (wrap64 ((l0.length : Int) - 8))))))))
theorem frame_first.mono_l : ∀ k, (∀ y0 y1 y2, LeO (frame_first.j0 k y0 y1 y2) (frame_first.j0 (k + 1) y0 y1 y2))
  | 0 => fun _ _ _ r h => by simp [frame_first.j0] at h
  | k + 1 => by
    have ih0 := frame_first.mono_l k
    · intro y0 y1 y2
      unfold frame_first.j0
      repeat' first
      | (with_reducible exact ih0 _ _ _)
      | (with_reducible exact frame_join.mono _ _)
      | (with_reducible exact sum_More.mono _ _ _)
      | (with_reducible exact sum_Of.mono _ _)
      | (with_reducible exact LeO.refl _)
      | (with_reducible exact LeO.none _)
      | (with_reducible refine LeO.ite ?_ ?_)
      | (with_reducible refine LeO.bind ?_ (fun _ => ?_))
      | exact ih0 _ _ _
      | exact frame_join.mono _ _
      | exact sum_More.mono _ _ _
      | exact sum_Of.mono _ _
      | exact LeO.none _
      | refine LeO.ite ?_ ?_
      | refine LeO.bind ?_ (fun _ => ?_)
theorem frame_first.mono : ∀ a0 k, LeO (frame_first.f k a0) (frame_first.f (k + 1) a0) := by
  intro a0 k
  have ih0 := frame_first.mono_l k
  unfold frame_first.f
  repeat' first
      | (with_reducible exact ih0 _ _ _)
      | (with_reducible exact frame_join.mono _ _)
      | (with_reducible exact sum_More.mono _ _ _)
      | (with_reducible exact sum_Of.mono _ _)
      | (with_reducible exact LeO.refl _)
      | (with_reducible exact LeO.none _)
      | (with_reducible refine LeO.ite ?_ ?_)
      | (with_reducible refine LeO.bind ?_ (fun _ => ?_))
      | exact ih0 _ _ _
      | exact frame_join.mono _ _
      | exact sum_More.mono _ _ _
      | exact sum_Of.mono _ _
      | exact LeO.none _
      | refine LeO.ite ?_ ?_
      | refine LeO.bind ?_ (fun _ => ?_)
def frame_first.T7 : Bool × List (List Nat × List Nat) := (true, [([], []), ([0], [0]), ([1], [1]), ([], []), ([2, 3, 2], [2, 3]), ([], []), ([5], [5]), ([6, 4], [6]), ([4, 7], [4, 7])])
def frame_first.B7 : List Nat := [0, 1, 3, 0, 15, 0, 32, 127, 255]
theorem frame_first.tab7 : rtab .any (opsOf Try.f61 7) = frame_first.T7 := by kernel_rfl
theorem frame_first.bits7 : waitsOk frame_first.T7.2 frame_first.B7 = true := by kernel_rfl
set_option maxHeartbeats 8000000 in
set_option maxRecDepth 100000 in
theorem frame_first.walkV (k : Nat) (P0_ : Nat → Prop) (A0 : Option Addr) (c0 : Nat) (l0 : List Int) (r1 : List Int) (r2 : Bool) (w : World) (hs0 : Kd.V (Kd.int .u8) 5 w w.heap.size (fun k_ => P0_ k_) (.slice A0 l0.length c0) l0) (h : frame_first.f k l0 = some (r1, r2)) :
    Calls Try.prog 61 #[.slice A0 l0.length c0] w fun e w' => ∃ v0_ : Value, e = .returned (.tuple #[v0_, .bool r2]) ∧ Kd.V (Kd.int .u8) 5 w' w.heap.size (fun k_ => (w.heap.size ≤ k_)) v0_ r1 ∧ Below w.heap.size w w' := by
  have HO0 := Aside0.mk (show Kd.V (Kd.int .u8) 5 w w.heap.size (fun k_ => (P0_ k_ ∨ w.heap.size ≤ k_)) (.slice A0 l0.length c0) l0 from Kd.V_mono hs0 (fun k_ hk => .inl hk))
  have HB := Aside0.mk (Below.refl w.heap.size w)
  have H : (if (l0.length : Int) < 9 then (some (([] : List Int), false)) else ((frame_number.f l0).bind fun t130 => (if t130 = 0 then (frame_first.j0 k l0 t130 true) else (if t130 > 65536 then (frame_first.j0 k l0 t130 true) else (frame_first.j0 k l0 t130 (decide ((wrap64 (t130)) > (wrap64 ((l0.length : Int) - 8))))))))) = some (r1, r2) := h
  clear h
  by_cases c2 : (l0.length : Int) < 9
  · rw [if_pos c2] at H
    have c2b0 : decide ((l0.length : Int) < 9) = true := decide_eq_true c2
    have c2b1 : decide (l0.length < 9) = true := decide_eq_true (by omega)
    clear c2
    simp only [Option.some.injEq, Prod.mk.injEq] at H
    obtain ⟨rfl, rfl⟩ := H
    go_enter Try.func61, Try.ntmps61
    go_wp2
    go_ret2
    exact ⟨_, by first | rfl | (simp [errW_none, errW_some] <;> rfl) | (simp [*, errW_none, errW_some] <;> rfl), by first | exact Kd.R_nil _ _ _ _ _ | exact Kd.N_nil _ _ _ _ _ | exact Kd.V_nil _ _ _ _ _ | exact Kd.Q_nil _ _ _ _ _ | exact Kd.S_nil _ _ _ _ _, by repeat (first | (with_reducible first | exact HB.out | apply below_alloc | apply pw_below_drewN | apply below_drew1) | exact HB.out)⟩
  · rw [if_neg c2] at H
    have c2b0 : decide ((l0.length : Int) < 9) = false := decide_eq_false c2
    have c2b1 : decide (l0.length < 9) = false := decide_eq_false (by omega)
    clear c2
    replace H := Option.bind_eq_some_iff.mp H
    obtain ⟨t130, A30, H⟩ := H
    replace H : (if t130 = 0 then (frame_first.j0 k l0 t130 true) else (if t130 > 65536 then (frame_first.j0 k l0 t130 true) else (frame_first.j0 k l0 t130 (decide ((wrap64 (t130)) > (wrap64 ((l0.length : Int) - 8))))))) = some (r1, r2) := H
    have A3 := Aside0.mk A30
    clear A30
    have HC4 := Aside0.mk H
    clear H
    go_enter Try.func61, Try.ntmps61
    go_upto_region 4 with (first | ((with_reducible refine gate_callee (f := 76) rfl ?_); refine goesL_ (some 10) rfl rfl Try.func76 (by kernel_rfl) rfl #[.slice A0 l0.length c0] rfl (by (try simp only [List.map_toArray, List.map_cons, List.map_nil]); first | done | rfl | (simp only [List.length_drop, List.length_take]; rfl)) ?_; (with_reducible refine (frame_number.calls _ _ l0 t130 _ ?side1 ?side2 A3.out).mono ?_); (case side1 => repeat (first | exact (Kd.V_reads' HO0.out).2.2 | (with_reducible refine Kd.C_alloc ?_ _) | (with_reducible refine Kd.C_drewN ?_ _) | (with_reducible refine Kd.C_drew ?_))); (case side2 => exact (Kd.V_reads' HO0.out).2.1); rintro e w' ⟨rfl, ⟨nd, rfl⟩⟩; refine ⟨_, rfl, ?_⟩))
    (try simp only [Act.put, List.setIfInBounds_toArray, List.set_cons_zero, List.set_cons_succ])
    go_cut [24] (fun v24 wc => ∃ (kq : Nat) (x24_3 : Bool), v24 = .bool x24_3 ∧ Aside0 (frame_first.j0 kq l0 t130 x24_3 = some (r1, r2)) ∧ Aside0 (kq ≤ k) ∧ Aside0 (Kd.V (Kd.int .u8) 5 wc w.heap.size (fun k_ => (P0_ k_ ∨ w.heap.size ≤ k_)) (.slice A0 l0.length c0) l0) ∧ Aside0 (Below w.heap.size w wc))
    case first =>
      have H := HC4.out
      clear HC4
      by_cases c5 : t130 = 0
      · rw [if_pos c5] at H
        have c5b0 : (t130 == 0) = true := beq_iff_eq.mpr c5
        have c5b1 : (t130 != 0) = false := bne_eq_false_iff_eq.mpr c5
        clear c5
        (first | rw [c5b0] | (simp only [i64_w, i32_w]; rw [c5b0]) | skip)
        have H' := Aside0.mk H
        clear H
        go_wp2
        go_meet
        case rel => exact ⟨_, (true), (by first | rfl | (simp; done) | (simp [*]; done)), H', ⟨by first | omega | exact Nat.le_refl _⟩, ⟨by (with_reducible repeat (first | apply Kd.V_alloc | apply Kd.V_drewN | apply Kd.V_drew)); exact HO0.out⟩, ⟨by repeat (first | (with_reducible first | exact HB.out | apply below_alloc | apply pw_below_drewN | apply below_drew1) | exact HB.out)⟩⟩
      · rw [if_neg c5] at H
        have c5b0 : (t130 == 0) = false := beq_eq_false_iff_ne.mpr c5
        have c5b1 : (t130 != 0) = true := bne_iff_ne.mpr c5
        (first | rw [c5b0] | (simp only [i64_w, i32_w]; rw [c5b0]) | skip)
        by_cases c6 : t130 > 65536
        · rw [if_pos c6] at H
          have c6b0 : decide (65536 < t130) = true := decide_eq_true c6
          clear c6
          have H' := Aside0.mk H
          clear H
          go_wp2
          go_meet
          case rel => exact ⟨_, (true), (by first | rfl | (simp; done) | (simp [*]; done)), H', ⟨by first | omega | exact Nat.le_refl _⟩, ⟨by (with_reducible repeat (first | apply Kd.V_alloc | apply Kd.V_drewN | apply Kd.V_drew)); exact HO0.out⟩, ⟨by repeat (first | (with_reducible first | exact HB.out | apply below_alloc | apply pw_below_drewN | apply below_drew1) | exact HB.out)⟩⟩
        · rw [if_neg c6] at H
          have c6b0 : decide (65536 < t130) = false := decide_eq_false c6
          clear c6
          have H' := Aside0.mk H
          clear H
          go_wp2
          go_meet
          case rel => exact ⟨_, (decide ((wrap64 (t130)) > (wrap64 ((l0.length : Int) - 8)))), (by first | rfl | (simp; done) | (simp [*]; done)), H', ⟨by first | omega | exact Nat.le_refl _⟩, ⟨by (with_reducible repeat (first | apply Kd.V_alloc | apply Kd.V_drewN | apply Kd.V_drew)); exact HO0.out⟩, ⟨by repeat (first | (with_reducible first | exact HB.out | apply below_alloc | apply pw_below_drewN | apply below_drew1) | exact HB.out)⟩⟩
    case rest =>
      clear HC4
      try clear c2
      try clear c2b0
      try clear c2b1
      try clear p2
      try clear c5
      try clear c5b0
      try clear c5b1
      try clear c6
      try clear c6b0
      try clear p6
      obtain ⟨kq, x24_3, rfl, HA, HJ3, HO_0, HB⟩ := hcut
      cases kq with
      | zero => exact absurd HA.out (by simp [frame_first.j0])
      | succ kj3 =>
        have H := HA.out
        clear HA
        simp only [frame_first.j0] at H
        by_cases c7 : x24_3 = true
        · subst c7
          have H1 : (some (([] : List Int), false)) = some (r1, r2) := by rw [if_pos rfl] at H; exact H
          clear H
          have H := H1
          clear H1
          simp only [Option.some.injEq, Prod.mk.injEq] at H
          obtain ⟨rfl, rfl⟩ := H
          go_wp2
          go_ret2
          exact ⟨_, by first | rfl | (simp [errW_none, errW_some] <;> rfl) | (simp [*, errW_none, errW_some] <;> rfl), by first | exact Kd.R_nil _ _ _ _ _ | exact Kd.N_nil _ _ _ _ _ | exact Kd.V_nil _ _ _ _ _ | exact Kd.Q_nil _ _ _ _ _ | exact Kd.S_nil _ _ _ _ _, by repeat (first | (with_reducible first | exact HB.out | apply below_alloc | apply pw_below_drewN | apply below_drew1) | exact HB.out)⟩
        · replace c7 := Bool.eq_false_iff.mpr c7
          subst c7
          have H1 : (if 8 ≤ ((8 + t130) % 4294967296) then (if ((8 + t130) % 4294967296) ≤ (l0.length : Int) then ((frame_join.f kj3 (([((l0.take (((8 + t130) % 4294967296) : Int).toNat).drop 8)] : List (List Int)))).bind fun t139 => (if 4 ≤ (l0.length : Int) then ((sum_Of.f kj3 (l0.take 4)).bind fun t147 => ((sum_More.f kj3 t147 t139).bind fun t148 => ((frame_number.f (l0.drop 4)).bind fun t154 => (if t148 = t154 then (if 0 ≤ (t139.length : Int) then (if (t139.length : Int) ≤ (t139.length : Int) then (some ((t139.take ((t139.length : Int) : Int).toNat), true)) else (none)) else (none)) else (some (([] : List Int), false)))))) else (none))) else (none)) else (none)) = some (r1, r2) := by rw [if_neg (show ¬ (false = true) by decide)] at H; exact H
          clear H
          have H := H1
          clear H1
          by_cases c8 : 8 ≤ ((8 + t130) % 4294967296)
          · rw [if_pos c8] at H
            have c8b0 := eq_true c8
            have c8b1 : decide (8 ≤ ((8 + t130) % 4294967296)) = true := decide_eq_true c8
            by_cases c9 : ((8 + t130) % 4294967296) ≤ (l0.length : Int)
            · rw [if_pos c9] at H
              have c9b0 := eq_true c9
              have c9b1 : decide (((8 + t130) % 4294967296) ≤ (l0.length : Int)) = true := decide_eq_true c9
              obtain ⟨y131, hy131⟩ : ∃ y_ : List Int, y_ = ((l0.take (((8 + t130) % 4294967296) : Int).toNat).drop 8) := ⟨_, rfl⟩
              replace H : ((frame_join.f kj3 (([y131] : List (List Int)))).bind fun t139 => (if 4 ≤ (l0.length : Int) then ((sum_Of.f kj3 (l0.take 4)).bind fun t147 => ((sum_More.f kj3 t147 t139).bind fun t148 => ((frame_number.f (l0.drop 4)).bind fun t154 => (if t148 = t154 then (if 0 ≤ (t139.length : Int) then (if (t139.length : Int) ≤ (t139.length : Int) then (some ((t139.take ((t139.length : Int) : Int).toNat), true)) else (none)) else (none)) else (some (([] : List Int), false)))))) else (none))) = some (r1, r2) := by first | (rw [hy131]; with_reducible exact H) | (have H2_ := (Option.bind_some _ _).symm.trans H; rw [hy131]; with_reducible exact H2_) | (have H2_ := (Option.bind_some _ _).symm.trans H; with_reducible exact H2_) | with_reducible exact H | (rw [hy131]; exact H) | exact H
              have Ny131 := Aside0.mk hy131
              clear hy131
              obtain ⟨y136, hy136⟩ : ∃ y_ : List (List Int), y_ = (([y131] : List (List Int))) := ⟨_, rfl⟩
              replace H : ((frame_join.f kj3 y136).bind fun t139 => (if 4 ≤ (l0.length : Int) then ((sum_Of.f kj3 (l0.take 4)).bind fun t147 => ((sum_More.f kj3 t147 t139).bind fun t148 => ((frame_number.f (l0.drop 4)).bind fun t154 => (if t148 = t154 then (if 0 ≤ (t139.length : Int) then (if (t139.length : Int) ≤ (t139.length : Int) then (some ((t139.take ((t139.length : Int) : Int).toNat), true)) else (none)) else (none)) else (some (([] : List Int), false)))))) else (none))) = some (r1, r2) := by first | (rw [hy136]; with_reducible exact H) | (have H2_ := (Option.bind_some _ _).symm.trans H; rw [hy136]; with_reducible exact H2_) | (have H2_ := (Option.bind_some _ _).symm.trans H; with_reducible exact H2_) | with_reducible exact H | (rw [hy136]; exact H) | exact H
              have Ny136 := Aside0.mk hy136
              clear hy136
              replace H := Option.bind_eq_some_iff.mp H
              obtain ⟨t139, A100, H⟩ := H
              replace H : (if 4 ≤ (l0.length : Int) then ((sum_Of.f kj3 (l0.take 4)).bind fun t147 => ((sum_More.f kj3 t147 t139).bind fun t148 => ((frame_number.f (l0.drop 4)).bind fun t154 => (if t148 = t154 then (if 0 ≤ (t139.length : Int) then (if (t139.length : Int) ≤ (t139.length : Int) then (some ((t139.take ((t139.length : Int) : Int).toNat), true)) else (none)) else (none)) else (some (([] : List Int), false)))))) else (none)) = some (r1, r2) := H
              have A10 := Aside0.mk A100
              clear A100
              by_cases c11 : 4 ≤ (l0.length : Int)
              · rw [if_pos c11] at H
                have c11b0 := eq_true c11
                have c11b1 : decide (4 ≤ (l0.length : Int)) = true := decide_eq_true c11
                clear c11
                obtain ⟨y142, hy142⟩ : ∃ y_ : List Int, y_ = (l0.take 4) := ⟨_, rfl⟩
                replace H : ((sum_Of.f kj3 y142).bind fun t147 => ((sum_More.f kj3 t147 t139).bind fun t148 => ((frame_number.f (l0.drop 4)).bind fun t154 => (if t148 = t154 then (if 0 ≤ (t139.length : Int) then (if (t139.length : Int) ≤ (t139.length : Int) then (some ((t139.take ((t139.length : Int) : Int).toNat), true)) else (none)) else (none)) else (some (([] : List Int), false)))))) = some (r1, r2) := by first | (rw [hy142]; with_reducible exact H) | (have H2_ := (Option.bind_some _ _).symm.trans H; rw [hy142]; with_reducible exact H2_) | (have H2_ := (Option.bind_some _ _).symm.trans H; with_reducible exact H2_) | with_reducible exact H | (rw [hy142]; exact H) | exact H
                have Ny142 := Aside0.mk hy142
                clear hy142
                replace H := Option.bind_eq_some_iff.mp H
                obtain ⟨t147, A120, H⟩ := H
                replace H : ((sum_More.f kj3 t147 t139).bind fun t148 => ((frame_number.f (l0.drop 4)).bind fun t154 => (if t148 = t154 then (if 0 ≤ (t139.length : Int) then (if (t139.length : Int) ≤ (t139.length : Int) then (some ((t139.take ((t139.length : Int) : Int).toNat), true)) else (none)) else (none)) else (some (([] : List Int), false))))) = some (r1, r2) := H
                have A12 := Aside0.mk A120
                clear A120
                replace H := Option.bind_eq_some_iff.mp H
                obtain ⟨t148, A130, H⟩ := H
                replace H : ((frame_number.f (l0.drop 4)).bind fun t154 => (if t148 = t154 then (if 0 ≤ (t139.length : Int) then (if (t139.length : Int) ≤ (t139.length : Int) then (some ((t139.take ((t139.length : Int) : Int).toNat), true)) else (none)) else (none)) else (some (([] : List Int), false)))) = some (r1, r2) := H
                have A13 := Aside0.mk A130
                clear A130
                have c14b0 := eq_true (of_decide_eq_true (by first | (with_reducible assumption) | assumption) : 4 ≤ (l0.length : Int))
                obtain ⟨y149, hy149⟩ : ∃ y_ : List Int, y_ = (l0.drop 4) := ⟨_, rfl⟩
                replace H : ((frame_number.f y149).bind fun t154 => (if t148 = t154 then (if 0 ≤ (t139.length : Int) then (if (t139.length : Int) ≤ (t139.length : Int) then (some ((t139.take ((t139.length : Int) : Int).toNat), true)) else (none)) else (none)) else (some (([] : List Int), false)))) = some (r1, r2) := by first | (rw [hy149]; with_reducible exact H) | (have H2_ := (Option.bind_some _ _).symm.trans H; rw [hy149]; with_reducible exact H2_) | (have H2_ := (Option.bind_some _ _).symm.trans H; with_reducible exact H2_) | with_reducible exact H | (rw [hy149]; exact H) | exact H
                have Ny149 := Aside0.mk hy149
                clear hy149
                replace H := Option.bind_eq_some_iff.mp H
                obtain ⟨t154, A150, H⟩ := H
                replace H : (if t148 = t154 then (if 0 ≤ (t139.length : Int) then (if (t139.length : Int) ≤ (t139.length : Int) then (some ((t139.take ((t139.length : Int) : Int).toNat), true)) else (none)) else (none)) else (some (([] : List Int), false))) = some (r1, r2) := H
                have A15 := Aside0.mk A150
                clear A150
                by_cases c16 : t148 = t154
                · rw [if_pos c16] at H
                  have c16b0 : (t148 == t154) = true := beq_iff_eq.mpr c16
                  have c16b1 : (t148 != t154) = false := bne_eq_false_iff_eq.mpr c16
                  clear c16
                  by_cases c17 : 0 ≤ (t139.length : Int)
                  · rw [if_pos c17] at H
                    have c17b0 := eq_true c17
                    have c17b1 : decide (0 ≤ (t139.length : Int)) = true := decide_eq_true c17
                    clear c17
                    by_cases c18 : (t139.length : Int) ≤ (t139.length : Int)
                    · rw [if_pos c18] at H
                      have c18b0 := eq_true c18
                      have c18b1 : decide ((t139.length : Int) ≤ (t139.length : Int)) = true := decide_eq_true c18
                      clear c18
                      obtain ⟨y155, hy155⟩ : ∃ y_ : List Int, y_ = (t139.take ((t139.length : Int) : Int).toNat) := ⟨_, rfl⟩
                      replace H : (some (y155, true)) = some (r1, r2) := by first | (rw [hy155]; with_reducible exact H) | (have H2_ := (Option.bind_some _ _).symm.trans H; rw [hy155]; with_reducible exact H2_) | (have H2_ := (Option.bind_some _ _).symm.trans H; with_reducible exact H2_) | with_reducible exact H | (rw [hy155]; exact H) | exact H
                      have Ny155 := Aside0.mk hy155
                      clear hy155
                      simp only [Option.some.injEq, Prod.mk.injEq] at H
                      obtain ⟨rfl, rfl⟩ := H
                      have q19 : (((8 + t130) % 4294967296) : Int) ≤ ((l0.length : Int) : Int) := of_decide_eq_true (by first | (with_reducible assumption) | assumption)
                      obtain ⟨i019, hi019, _, hsz19, _⟩ := info_parts info5
                      have hroom19 : l0.length ≤ c0 := (Kd.V_reads' HO_0.out).2.1
                      have hC19 : Kd.F (Kd.int .u8) _ _ A0 l0.length l0 := (Kd.V_at (base := w.heap.size) HO_0.out).2.2
                      have ql19 : (8 : Int) ≤ (((8 + t130) % 4294967296) : Int) := of_decide_eq_true (by first | (with_reducible assumption) | assumption)
                      have hcut19 := cut_mid (P := Try.prog) 37 5 .i64 .u32 Try.underlying37 hi019 1 hsz19 A0 l0.length c0 8 ((8 + t130) % 4294967296) (by omega) ql19 q19 hroom19
                      have hr19 := Kd.F_mid (lo := (8 : Int).toNat) (hi := (((8 + t130) % 4294967296) : Int).toNat) (c := c0) hC19 (by omega) (by omega) hroom19
                      obtain ⟨A19, hA19⟩ : ∃ A1, A1 = (if c0 = (8 : Int).toNat then A0 else (A0 : Option Addr).map (·.add ((8 : Int).toNat * 1))) := ⟨_, rfl⟩
                      obtain ⟨c19, hc19⟩ : ∃ c1, c1 = c0 - (8 : Int).toNat := ⟨_, rfl⟩
                      have hy19 : y131.length = (((8 + t130) % 4294967296) : Int).toNat - (8 : Int).toNat := (by rw [Ny131.out, List.length_drop, List.length_take] <;> omega)
                      rw [show ((l0).take (((8 + t130) % 4294967296) : Int).toNat).drop (8 : Int).toNat = y131 from Ny131.out.symm] at hr19
                      replace hr19 : Kd.F (Kd.int .u8) _ _ A19 y131.length y131 := (by rw [hA19]; exact hr19)
                      rw [← hy19, ← hA19, ← hc19] at hcut19
                      have HO135 := Aside0.mk (show Kd.V (Kd.int .u8) 5 _ w.heap.size _ (.slice A19 y131.length c19) y131 from Kd.V_mk (by rw [hy19, hc19]; exact Nat.sub_le_sub_right (Nat.le_trans (by omega) hroom19) _) hr19)
                      have HC135 := Aside0.mk (show y131.length ≤ c19 from by rw [hy19, hc19]; exact Nat.sub_le_sub_right (Nat.le_trans (by omega) hroom19) _)
                      clear hr19 hC19 hroom19 hi019 hsz19 hc19
                      have KY19 := Aside0.mk hy19
                      have KA19 := Aside0.mk hA19
                      clear hy19 hA19
                      replace q19 := eq_true q19
                      try go_wp2_with (first | ((with_reducible refine gate_dst (N := 29) rfl ?_); (try (refine gate_guard (by rfl) ?_; dsimp only)); refine Kd.N_lit (Kd.slice 5 (Kd.int .u8)) _ 37 ?hg (N' := 29) ?hd (xs := ([y131] : List (List Int))) (inner := [.slice A19 y131.length c19]) (ok := (fun k_ => (P0_ k_ ∨ w.heap.size ≤ k_))) (okp := (fun k_ => (P0_ k_ ∨ w.heap.size ≤ k_))) ?hr ?hp (fun _ hk => hk) ((show ∀ k_, wc.heap.size ≤ k_ → (fun k_ => (P0_ k_ ∨ w.heap.size ≤ k_)) k_ from fun k_ hk => (.inr (Nat.le_trans (below_size (by repeat (first | (with_reducible first | exact HB.out | apply below_alloc | apply pw_below_drewN | apply below_drew1) | exact HB.out))) hk))) _ (Nat.le_refl _)) (Below.refl _ _) (Nat.le_refl _) (by simp) ?_; (case hd => rfl); (case hg => rfl); (case hr => first | (go_simp; done) | (go_simp; rfl)); (case hp => exact (Reps.one (show Kd.FK (Kd.slice 5 (Kd.int .u8)) _ _ y131 [.slice A19 y131.length c19] from (Kd.FK_slice_mk (Kd.V_reads' (Kd.V_mono (ok' := (fun k_ => (P0_ k_ ∨ w.heap.size ≤ k_))) (HO135.out) (fun k_ hk => hk))).2.1 (Kd.V_F (Kd.V_mono (ok' := (fun k_ => (P0_ k_ ∨ w.heap.size ≤ k_))) (HO135.out) (fun k_ hk => hk))))) (Reps.none _ _))); intro v137 w20 ho21 hb hg_ hnew_; clear hg_ hnew_; (first | rw [← Ny136.out] at ho21 | (simp only [Int.reduceToNat] at ho21; rw [← Ny136.out] at ho21)); have n0_ := Aside0.mk (Kd.V_elder' (by (with_reducible repeat (first | apply Kd.V_alloc | apply Kd.V_drewN | apply Kd.V_drew)); exact HO_0.out) (Kd.N_base ho21) hb); have n1_ := Aside0.mk (Kd.V_elder' (by (with_reducible repeat (first | apply Kd.V_alloc | apply Kd.V_drewN | apply Kd.V_drew)); exact HO135.out) (Kd.N_base ho21) hb); have n2_ := Aside0.mk (Kd.N_lower ho21 (below_size (by repeat (first | (with_reducible first | exact HB.out | apply below_alloc | apply pw_below_drewN | apply below_drew1) | exact HB.out)))); have n3_ := Aside0.mk (below_step (by repeat (first | (with_reducible first | exact HB.out | apply below_alloc | apply pw_below_drewN | apply below_drew1) | exact HB.out)) hb); clear HO_0; clear HO135; clear HB; have HO_0 := n0_; have HO135 := n1_; have HO138 := n2_; have HB := n3_; clear n0_ n1_ n2_ n3_; clear hb ho21; obtain ⟨Ao22, co22, eo22⟩ := Kd.N_slice HO138.out; subst eo22) | ((with_reducible refine gate_callee (f := 44) rfl ?_); refine goesL_ (some 30) rfl rfl Try.func44 (by kernel_rfl) rfl #[.slice Ao22 y136.length co22] rfl (by (try simp only [List.map_toArray, List.map_cons, List.map_nil]); first | done | rfl | (simp only [List.length_drop, List.length_take]; rfl)) ?_; (with_reducible refine (frame_join.calls kj3 _ _ y136 t139 _ ?side1 ?side2 A10.out).mono ?_); (case side1 => repeat (first | exact (Kd.N_reads' HO138.out).2.2 | (with_reducible refine Kd.C_alloc ?_ _) | (with_reducible refine Kd.C_drewN ?_ _) | (with_reducible refine Kd.C_drew ?_))); (case side2 => exact (Kd.N_reads' HO138.out).2.1); rintro e w23 ⟨v140, rfl, ho0, hb⟩; refine ⟨_, rfl, ?_⟩; have n0_ := Aside0.mk (Kd.V_elder' (by (with_reducible repeat (first | apply Kd.V_alloc | apply Kd.V_drewN | apply Kd.V_drew)); exact HO_0.out) (Kd.R_base ho0) hb); have n1_ := Aside0.mk (Kd.V_elder' (by (with_reducible repeat (first | apply Kd.V_alloc | apply Kd.V_drewN | apply Kd.V_drew)); exact HO135.out) (Kd.R_base ho0) hb); have n2_ := Aside0.mk (Kd.N_elder' (by (with_reducible repeat (first | apply Kd.N_alloc | apply Kd.N_drewN | apply Kd.N_drew)); exact HO138.out) (Kd.R_base ho0) hb); have n3_ := Aside0.mk (Kd.R_lower (Kd.R_newM (M := fun k_ => (w.heap.size ≤ k_)) ho0 (below_size (by repeat (first | (with_reducible first | exact HB.out | apply below_alloc | apply pw_below_drewN | apply below_drew1) | exact HB.out))) (fun k_ h_ => h_)) (below_size (by repeat (first | (with_reducible first | exact HB.out | apply below_alloc | apply pw_below_drewN | apply below_drew1) | exact HB.out)))); have n4_ := Aside0.mk (below_step (by repeat (first | (with_reducible first | exact HB.out | apply below_alloc | apply pw_below_drewN | apply below_drew1) | exact HB.out)) hb); clear HO_0; clear HO135; clear HO138; clear HB; have HO_0 := n0_; have HO135 := n1_; have HO138 := n2_; have HO141 := n3_; have HB := n4_; clear n0_ n1_ n2_ n3_ n4_; (try clear hb); (try clear hb2); (try clear hk); (try clear hi); (try clear ho0)))
                      have n0_ := Aside0.mk (Kd.V_drew HO_0.out)
                      have n1_ := Aside0.mk (Kd.V_drew HO135.out)
                      have n2_ := Aside0.mk (Kd.N_drew HO138.out)
                      have n3_ := Aside0.mk (Kd.R_drew HO141.out)
                      have n4_ := Aside0.mk (below_drew1 HB.out)
                      clear HO_0
                      clear HO135
                      clear HO138
                      clear HO141
                      clear HB
                      have HO_0 := n0_
                      have HO135 := n1_
                      have HO138 := n2_
                      have HO141 := n3_
                      have HB := n4_
                      clear n0_ n1_ n2_ n3_ n4_
                      have q25 : (4 : Int) ≤ ((l0.length : Int) : Int) := of_decide_eq_true (by first | (with_reducible assumption) | assumption)
                      obtain ⟨i025, hi025, _, hsz25, _⟩ := info_parts info5
                      have hroom25 : l0.length ≤ c0 := (Kd.V_reads' HO_0.out).2.1
                      have hC25 : Kd.F (Kd.int .u8) _ _ A0 l0.length l0 := (Kd.V_at (base := w.heap.size) HO_0.out).2.2
                      have hcut25 := cut_to (P := Try.prog) 37 5 .i64 Try.underlying37 hi025 A0 l0.length c0 4 (by omega) q25 hroom25
                      have hr25 := Kd.F_take (m := 4) hC25 (by omega)
                      have hy25 : y142.length = (4 : Int).toNat := (by rw [Ny142.out, List.length_take]; omega)
                      rw [← Ny142.out] at hr25
                      rw [← hy25] at hcut25
                      have HO146 := Aside0.mk (show Kd.V (Kd.int .u8) 5 _ w.heap.size _ (.slice A0 y142.length c0) y142 from Kd.V_mk (by omega) hr25)
                      have HC146 := Aside0.mk (show y142.length ≤ c0 from by omega)
                      clear hr25 hC25 hroom25 hi025 hsz25
                      have KY25 := Aside0.mk hy25
                      clear hy25
                      replace q25 := eq_true q25
                      have q26 : (4 : Int) ≤ ((l0.length : Int) : Int) := of_decide_eq_true (by first | (with_reducible assumption) | assumption)
                      obtain ⟨i026, hi026, _, hsz26, _⟩ := info_parts info5
                      have hroom26 : l0.length ≤ c0 := (Kd.V_reads' HO_0.out).2.1
                      have hC26 : Kd.F (Kd.int .u8) _ _ A0 l0.length l0 := (Kd.V_at (base := w.heap.size) HO_0.out).2.2
                      have hcut26 := cut_from (P := Try.prog) 37 5 .i64 Try.underlying37 hi026 1 hsz26 A0 l0.length c0 4 (by omega) q26
                      have hr26 := Kd.F_cut (m := (4 : Int).toNat) (c := c0) hC26 (by omega) hroom26
                      obtain ⟨A26, hA26⟩ : ∃ A1, A1 = (if c0 = (4 : Int).toNat then A0 else (A0 : Option Addr).map (·.add ((4 : Int).toNat * 1))) := ⟨_, rfl⟩
                      obtain ⟨c26, hc26⟩ : ∃ c1, c1 = c0 - (4 : Int).toNat := ⟨_, rfl⟩
                      have hy26 : y149.length = l0.length - (4 : Int).toNat := (by rw [Ny149.out, List.length_drop] <;> omega)
                      rw [show (l0).drop (4 : Int).toNat = y149 from Ny149.out.symm] at hr26
                      replace hr26 : Kd.F (Kd.int .u8) _ _ A26 y149.length y149 := (by rw [hA26]; exact hr26)
                      rw [← hy26, ← hA26, ← hc26] at hcut26
                      have HO153 := Aside0.mk (show Kd.V (Kd.int .u8) 5 _ w.heap.size _ (.slice A26 y149.length c26) y149 from Kd.V_mk (by rw [hy26, hc26]; exact Nat.sub_le_sub_right hroom26 _) hr26)
                      have HC153 := Aside0.mk (show y149.length ≤ c26 from by rw [hy26, hc26]; exact Nat.sub_le_sub_right hroom26 _)
                      clear hr26 hC26 hroom26 hi026 hsz26 hc26
                      have KY26 := Aside0.mk hy26
                      have KA26 := Aside0.mk hA26
                      clear hy26 hA26
                      replace q26 := eq_true q26
                      refine start_ (n := 9) (S := fun w' => True) (ds := []) #[false, false, false, false, false, false, false, false, false] (by kernel_rfl) rfl rfl trivial (fun hHeld => ?_); refine with_tabW frame_first.tab7 frame_first.bits7 (fun HT_ HW_ => ?_)
                      generalize w23.drew = w24 at HO_0 HO135 HO138 HO141 HB HO146 HO153 hHeld ⊢
                      refine pure_ (i := 0) (N := some 31) (v := ?_) (a' := ?_) #[true, false, false, false, false, false, false, false, false] rfl rfl (any_of HT_.out (by kernel_rfl)) (fun _ _ _ h => h) (Or.inl ⟨by rfl, ?_⟩) ?_ ?_
                      rotate_left
                      · intro w'
                        go_simp
                        with_reducible rfl
                      rotate_left
                      · simp only [Act.put, List.setIfInBounds_toArray, List.set_cons_zero, List.set_cons_succ, i64_w, i32_w]
                        rfl
                      refine pure_ (i := 1) (N := some 32) (v := ?_) (a' := ?_) #[true, true, false, false, false, false, false, false, false] rfl rfl (any_of HT_.out (by kernel_rfl)) (fun _ _ _ h => h) (Or.inl ⟨by rfl, ?_⟩) ?_ ?_
                      rotate_left
                      · intro w'
                        go_simp
                        with_reducible rfl
                      rotate_left
                      · simp only [Act.put, List.setIfInBounds_toArray, List.set_cons_zero, List.set_cons_succ, i64_w, i32_w]
                        rfl
                      refine pure_ (i := 3) (N := some 34) (v := ?_) (a' := ?_) #[true, true, false, true, false, false, false, false, false] rfl rfl (any_of HT_.out (by kernel_rfl)) (fun _ _ _ h => h) (Or.inl ⟨by rfl, ?_⟩) ?_ ?_
                      rotate_left
                      · intro w'
                        go_simp
                        with_reducible rfl
                      rotate_left
                      · simp only [Act.put, List.setIfInBounds_toArray, List.set_cons_zero, List.set_cons_succ, i64_w, i32_w]
                        rfl
                      refine pure_ (i := 5) (N := some 36) (v := ?_) (a' := ?_) #[true, true, false, true, false, true, false, false, false] rfl rfl (any_of HT_.out (by kernel_rfl)) (fun _ _ _ h => h) (Or.inl ⟨by rfl, ?_⟩) ?_ ?_
                      rotate_left
                      · intro w'
                        go_simp
                        with_reducible rfl
                      rotate_left
                      · simp only [Act.put, List.setIfInBounds_toArray, List.set_cons_zero, List.set_cons_succ, i64_w, i32_w]
                        rfl
                      refine pure_ (i := 6) (N := some 37) (v := ?_) (a' := ?_) #[true, true, false, true, false, true, true, false, false] rfl rfl (any_of HT_.out (by kernel_rfl)) (fun _ _ _ h => h) (Or.inl ⟨by rfl, ?_⟩) ?_ ?_
                      rotate_left
                      · intro w'
                        go_simp
                        with_reducible rfl
                      rotate_left
                      · simp only [Act.put, List.setIfInBounds_toArray, List.set_cons_zero, List.set_cons_succ, i64_w, i32_w]
                        rfl
                      refine one_ (i := 2) (N := some 33) #[true, true, true, true, false, true, true, false, false] rfl rfl (one_of HT_.out (by kernel_rfl)) (by decide) (fun K hK => ?_)
                      refine goes_ Try.func46 (by kernel_rfl) rfl #[.slice A0 y142.length c0] (by rfl) rfl rfl (by (try simp only [List.map_toArray, List.map_cons, List.map_nil]); first | done | rfl | (simp only [List.length_drop, List.length_take]; rfl)) ?_
                      with_reducible refine (sum_Of.calls kj3 _ _ y142 t147 _ ?side1 ?side2 A12.out).mono ?_
                      (case side1 => repeat (first | exact (Kd.V_reads' HO146.out).2.2 | (with_reducible refine Kd.C_alloc ?_ _) | (with_reducible refine Kd.C_drewN ?_ _) | (with_reducible refine Kd.C_drew ?_)))
                      (case side2 => exact (Kd.V_reads' HO146.out).2.1)
                      rintro e w27 ⟨rfl, hb⟩
                      refine ⟨_, rfl, ?_⟩
                      have n0_ := Aside0.mk (Kd.V_below (by (with_reducible repeat (first | apply Kd.V_alloc | apply Kd.V_drewN | apply Kd.V_drew)); exact HO_0.out) hb)
                      have n1_ := Aside0.mk (Kd.V_below (by (with_reducible repeat (first | apply Kd.V_alloc | apply Kd.V_drewN | apply Kd.V_drew)); exact HO135.out) hb)
                      have n2_ := Aside0.mk (Kd.N_below (by (with_reducible repeat (first | apply Kd.N_alloc | apply Kd.N_drewN | apply Kd.N_drew)); exact HO138.out) hb)
                      have n3_ := Aside0.mk (Kd.R_below (by (with_reducible repeat (first | apply Kd.R_alloc | apply Kd.R_drewN | apply Kd.R_drew)); exact HO141.out) hb)
                      have n4_ := Aside0.mk (Kd.V_below (by (with_reducible repeat (first | apply Kd.V_alloc | apply Kd.V_drewN | apply Kd.V_drew)); exact HO146.out) hb)
                      have n5_ := Aside0.mk (Kd.V_below (by (with_reducible repeat (first | apply Kd.V_alloc | apply Kd.V_drewN | apply Kd.V_drew)); exact HO153.out) hb)
                      have n6_ := Aside0.mk (below_step (by repeat (first | (with_reducible first | exact HB.out | apply below_alloc | apply pw_below_drewN | apply below_drew1) | exact HB.out)) hb)
                      clear HO_0
                      clear HO135
                      clear HO138
                      clear HO141
                      clear HO146
                      clear HO153
                      clear HB
                      have HO_0 := n0_
                      have HO135 := n1_
                      have HO138 := n2_
                      have HO141 := n3_
                      have HO146 := n4_
                      have HO153 := n5_
                      have HB := n6_
                      clear n0_ n1_ n2_ n3_ n4_ n5_ n6_
                      (try clear hb)
                      (try clear hb2)
                      (try clear hk)
                      (try clear hi)
                      obtain ⟨Ao28, co28, eo28⟩ := Kd.R_slice HO141.out
                      (first | subst eo28 | (injection eo28 with f1_ f2_ f3_; have f4_ := f1_.symm; have f5_ := f3_.symm; clear f1_ f2_ f3_; subst f4_; subst f5_))
                      refine hK.out _ _ trivial (fun hHeld => ?_)
                      clear hK K
                      refine norm_ (a' := ?_) ?_ ?_
                      rotate_left
                      · show Act.put _ (some 33) _ = _
                        simp only [Act.put, List.setIfInBounds_toArray, List.set_cons_zero, List.set_cons_succ, i64_w, i32_w]
                        rfl
                      refine one_ (i := 4) (N := some 35) #[true, true, true, true, true, true, true, false, false] rfl rfl (one_of HT_.out (by kernel_rfl)) (by decide) (fun K hK => ?_)
                      refine goes_ Try.func45 (by kernel_rfl) rfl #[.int .u32 t147, .slice Ao28 t139.length co28] (by rfl) rfl rfl (by (try simp only [List.map_toArray, List.map_cons, List.map_nil]); first | done | rfl | (simp only [List.length_drop, List.length_take]; rfl)) ?_
                      with_reducible refine (sum_More.calls kj3 t147 _ _ t139 t148 _ ?side1 ?side2 A13.out).mono ?_
                      (case side1 => repeat (first | exact (Kd.R_reads' HO141.out).2.2 | (with_reducible refine Kd.C_alloc ?_ _) | (with_reducible refine Kd.C_drewN ?_ _) | (with_reducible refine Kd.C_drew ?_)))
                      (case side2 => exact (Kd.R_reads' HO141.out).2.1)
                      rintro e w29 ⟨rfl, hb⟩
                      refine ⟨_, rfl, ?_⟩
                      have n0_ := Aside0.mk (Kd.V_below (by (with_reducible repeat (first | apply Kd.V_alloc | apply Kd.V_drewN | apply Kd.V_drew)); exact HO_0.out) hb)
                      have n1_ := Aside0.mk (Kd.V_below (by (with_reducible repeat (first | apply Kd.V_alloc | apply Kd.V_drewN | apply Kd.V_drew)); exact HO135.out) hb)
                      have n2_ := Aside0.mk (Kd.N_below (by (with_reducible repeat (first | apply Kd.N_alloc | apply Kd.N_drewN | apply Kd.N_drew)); exact HO138.out) hb)
                      have n3_ := Aside0.mk (Kd.R_below (by (with_reducible repeat (first | apply Kd.R_alloc | apply Kd.R_drewN | apply Kd.R_drew)); exact HO141.out) hb)
                      have n4_ := Aside0.mk (Kd.V_below (by (with_reducible repeat (first | apply Kd.V_alloc | apply Kd.V_drewN | apply Kd.V_drew)); exact HO146.out) hb)
                      have n5_ := Aside0.mk (Kd.V_below (by (with_reducible repeat (first | apply Kd.V_alloc | apply Kd.V_drewN | apply Kd.V_drew)); exact HO153.out) hb)
                      have n6_ := Aside0.mk (below_step (by repeat (first | (with_reducible first | exact HB.out | apply below_alloc | apply pw_below_drewN | apply below_drew1) | exact HB.out)) hb)
                      clear HO_0
                      clear HO135
                      clear HO138
                      clear HO141
                      clear HO146
                      clear HO153
                      clear HB
                      have HO_0 := n0_
                      have HO135 := n1_
                      have HO138 := n2_
                      have HO141 := n3_
                      have HO146 := n4_
                      have HO153 := n5_
                      have HB := n6_
                      clear n0_ n1_ n2_ n3_ n4_ n5_ n6_
                      (try clear hb)
                      (try clear hb2)
                      (try clear hk)
                      (try clear hi)
                      refine hK.out _ _ trivial (fun hHeld => ?_)
                      clear hK K
                      refine norm_ (a' := ?_) ?_ ?_
                      rotate_left
                      · show Act.put _ (some 35) _ = _
                        simp only [Act.put, List.setIfInBounds_toArray, List.set_cons_zero, List.set_cons_succ, i64_w, i32_w]
                        rfl
                      refine one_ (i := 7) (N := some 38) #[true, true, true, true, true, true, true, true, false] rfl rfl (one_of HT_.out (by kernel_rfl)) (by decide) (fun K hK => ?_)
                      refine goes_ Try.func76 (by kernel_rfl) rfl #[.slice A26 y149.length c26] (by rfl) rfl rfl (by (try simp only [List.map_toArray, List.map_cons, List.map_nil]); first | done | rfl | (simp only [List.length_drop, List.length_take]; rfl)) ?_
                      with_reducible refine (frame_number.calls _ _ y149 t154 _ ?side1 ?side2 A15.out).mono ?_
                      (case side1 => repeat (first | exact (Kd.V_reads' HO153.out).2.2 | (with_reducible refine Kd.C_alloc ?_ _) | (with_reducible refine Kd.C_drewN ?_ _) | (with_reducible refine Kd.C_drew ?_)))
                      (case side2 => exact (Kd.V_reads' HO153.out).2.1)
                      rintro e w' ⟨rfl, ⟨nd, rfl⟩⟩
                      refine ⟨_, rfl, ?_⟩
                      refine hK.out _ _ trivial (fun hHeld => ?_)
                      clear hK K
                      refine norm_ (a' := ?_) ?_ ?_
                      rotate_left
                      · show Act.put _ (some 38) _ = _
                        simp only [Act.put, List.setIfInBounds_toArray, List.set_cons_zero, List.set_cons_succ, i64_w, i32_w]
                        rfl
                      refine pure_ (i := 8) (N := some 39) (v := ?_) (a' := ?_) #[true, true, true, true, true, true, true, true, true] rfl rfl (any_of HT_.out (by kernel_rfl)) (fun _ _ _ h => h) (Or.inl ⟨by rfl, ?_⟩) ?_ ?_
                      rotate_left
                      · intro w'
                        go_simp
                        with_reducible rfl
                      rotate_left
                      · simp only [Act.put, List.setIfInBounds_toArray, List.set_cons_zero, List.set_cons_succ, i64_w, i32_w]
                        rfl
                      refine done_ (done_of HT_.out (by kernel_rfl)) ?_
                      have hl30 : t139.length ≤ co28 := (Kd.R_reads' HO141.out).2.1
                      have hcut30 : ∀ W : World, (Instr.slice 37 (.slice Ao28 t139.length co28) none (some (.int .i64 (t139.length : Int))) (some (.int .i64 (t139.length : Int)))).run Try.prog W = .ok (.slice Ao28 t139.length t139.length) W := by
                        intro W
                        have hel : Try.prog.elem 37 = 5 := by simp [Program.elem, Try.underlying37]
                        obtain ⟨i030, hi030, _, hsz30, _⟩ := info_parts info5
                        rw [run_slice_hm W 37 Ao28 t139.length co28 (by rw [hel]; exact Try.underlying37) .i64 .i64 (t139.length : Int) (t139.length : Int) (by omega) (by omega) (by omega), hel]
                        have hid : ∀ B : Option Addr, B.map (fun x => x.add 0) = B := fun B => by cases B <;> simp [Addr.add]
                        simp [sizeOf, typeInfo, hi030, hsz30, sliced, Result.andThen, hid]
                      have HV30 := Aside0.mk (Kd.V_mk (e := 5) (base := w.heap.size) (c := t139.length) (Nat.le_refl _) (Kd.R_F HO141.out))
                      obtain rfl : y155 = t139 := by rw [Ny155.out]; exact List.take_of_length_le (by omega)
                      try go_wp2
                      go_ret2
                      exact ⟨_, by first | rfl | (simp [errW_none, errW_some] <;> rfl) | (simp [*, errW_none, errW_some] <;> rfl), by (with_reducible repeat (first | apply Kd.V_alloc | apply Kd.V_drewN | apply Kd.V_drew)); exact Kd.V_mono HV30.out (fun _ hk => hk.1), by repeat (first | (with_reducible first | exact HB.out | apply below_alloc | apply pw_below_drewN | apply below_drew1) | exact HB.out)⟩
                    · rw [if_neg c18] at H
                      exact absurd H (by simp)
                  · rw [if_neg c17] at H
                    exact absurd H (by simp)
                · rw [if_neg c16] at H
                  have c16b0 : (t148 == t154) = false := beq_eq_false_iff_ne.mpr c16
                  have c16b1 : (t148 != t154) = true := bne_iff_ne.mpr c16
                  simp only [Option.some.injEq, Prod.mk.injEq] at H
                  obtain ⟨rfl, rfl⟩ := H
                  have q31 : (((8 + t130) % 4294967296) : Int) ≤ ((l0.length : Int) : Int) := of_decide_eq_true (by first | (with_reducible assumption) | assumption)
                  obtain ⟨i031, hi031, _, hsz31, _⟩ := info_parts info5
                  have hroom31 : l0.length ≤ c0 := (Kd.V_reads' HO_0.out).2.1
                  have hC31 : Kd.F (Kd.int .u8) _ _ A0 l0.length l0 := (Kd.V_at (base := w.heap.size) HO_0.out).2.2
                  have ql31 : (8 : Int) ≤ (((8 + t130) % 4294967296) : Int) := of_decide_eq_true (by first | (with_reducible assumption) | assumption)
                  have hcut31 := cut_mid (P := Try.prog) 37 5 .i64 .u32 Try.underlying37 hi031 1 hsz31 A0 l0.length c0 8 ((8 + t130) % 4294967296) (by omega) ql31 q31 hroom31
                  have hr31 := Kd.F_mid (lo := (8 : Int).toNat) (hi := (((8 + t130) % 4294967296) : Int).toNat) (c := c0) hC31 (by omega) (by omega) hroom31
                  obtain ⟨A31, hA31⟩ : ∃ A1, A1 = (if c0 = (8 : Int).toNat then A0 else (A0 : Option Addr).map (·.add ((8 : Int).toNat * 1))) := ⟨_, rfl⟩
                  obtain ⟨c31, hc31⟩ : ∃ c1, c1 = c0 - (8 : Int).toNat := ⟨_, rfl⟩
                  have hy31 : y131.length = (((8 + t130) % 4294967296) : Int).toNat - (8 : Int).toNat := (by rw [Ny131.out, List.length_drop, List.length_take] <;> omega)
                  rw [show ((l0).take (((8 + t130) % 4294967296) : Int).toNat).drop (8 : Int).toNat = y131 from Ny131.out.symm] at hr31
                  replace hr31 : Kd.F (Kd.int .u8) _ _ A31 y131.length y131 := (by rw [hA31]; exact hr31)
                  rw [← hy31, ← hA31, ← hc31] at hcut31
                  have HO135 := Aside0.mk (show Kd.V (Kd.int .u8) 5 _ w.heap.size _ (.slice A31 y131.length c31) y131 from Kd.V_mk (by rw [hy31, hc31]; exact Nat.sub_le_sub_right (Nat.le_trans (by omega) hroom31) _) hr31)
                  have HC135 := Aside0.mk (show y131.length ≤ c31 from by rw [hy31, hc31]; exact Nat.sub_le_sub_right (Nat.le_trans (by omega) hroom31) _)
                  clear hr31 hC31 hroom31 hi031 hsz31 hc31
                  have KY31 := Aside0.mk hy31
                  have KA31 := Aside0.mk hA31
                  clear hy31 hA31
                  replace q31 := eq_true q31
                  try go_wp2_with (first | ((with_reducible refine gate_dst (N := 29) rfl ?_); (try (refine gate_guard (by rfl) ?_; dsimp only)); refine Kd.N_lit (Kd.slice 5 (Kd.int .u8)) _ 37 ?hg (N' := 29) ?hd (xs := ([y131] : List (List Int))) (inner := [.slice A31 y131.length c31]) (ok := (fun k_ => (P0_ k_ ∨ w.heap.size ≤ k_))) (okp := (fun k_ => (P0_ k_ ∨ w.heap.size ≤ k_))) ?hr ?hp (fun _ hk => hk) ((show ∀ k_, wc.heap.size ≤ k_ → (fun k_ => (P0_ k_ ∨ w.heap.size ≤ k_)) k_ from fun k_ hk => (.inr (Nat.le_trans (below_size (by repeat (first | (with_reducible first | exact HB.out | apply below_alloc | apply pw_below_drewN | apply below_drew1) | exact HB.out))) hk))) _ (Nat.le_refl _)) (Below.refl _ _) (Nat.le_refl _) (by simp) ?_; (case hd => rfl); (case hg => rfl); (case hr => first | (go_simp; done) | (go_simp; rfl)); (case hp => exact (Reps.one (show Kd.FK (Kd.slice 5 (Kd.int .u8)) _ _ y131 [.slice A31 y131.length c31] from (Kd.FK_slice_mk (Kd.V_reads' (Kd.V_mono (ok' := (fun k_ => (P0_ k_ ∨ w.heap.size ≤ k_))) (HO135.out) (fun k_ hk => hk))).2.1 (Kd.V_F (Kd.V_mono (ok' := (fun k_ => (P0_ k_ ∨ w.heap.size ≤ k_))) (HO135.out) (fun k_ hk => hk))))) (Reps.none _ _))); intro v137 w32 ho33 hb hg_ hnew_; clear hg_ hnew_; (first | rw [← Ny136.out] at ho33 | (simp only [Int.reduceToNat] at ho33; rw [← Ny136.out] at ho33)); have n0_ := Aside0.mk (Kd.V_elder' (by (with_reducible repeat (first | apply Kd.V_alloc | apply Kd.V_drewN | apply Kd.V_drew)); exact HO_0.out) (Kd.N_base ho33) hb); have n1_ := Aside0.mk (Kd.V_elder' (by (with_reducible repeat (first | apply Kd.V_alloc | apply Kd.V_drewN | apply Kd.V_drew)); exact HO135.out) (Kd.N_base ho33) hb); have n2_ := Aside0.mk (Kd.N_lower ho33 (below_size (by repeat (first | (with_reducible first | exact HB.out | apply below_alloc | apply pw_below_drewN | apply below_drew1) | exact HB.out)))); have n3_ := Aside0.mk (below_step (by repeat (first | (with_reducible first | exact HB.out | apply below_alloc | apply pw_below_drewN | apply below_drew1) | exact HB.out)) hb); clear HO_0; clear HO135; clear HB; have HO_0 := n0_; have HO135 := n1_; have HO138 := n2_; have HB := n3_; clear n0_ n1_ n2_ n3_; clear hb ho33; obtain ⟨Ao34, co34, eo34⟩ := Kd.N_slice HO138.out; subst eo34) | ((with_reducible refine gate_callee (f := 44) rfl ?_); refine goesL_ (some 30) rfl rfl Try.func44 (by kernel_rfl) rfl #[.slice Ao34 y136.length co34] rfl (by (try simp only [List.map_toArray, List.map_cons, List.map_nil]); first | done | rfl | (simp only [List.length_drop, List.length_take]; rfl)) ?_; (with_reducible refine (frame_join.calls kj3 _ _ y136 t139 _ ?side1 ?side2 A10.out).mono ?_); (case side1 => repeat (first | exact (Kd.N_reads' HO138.out).2.2 | (with_reducible refine Kd.C_alloc ?_ _) | (with_reducible refine Kd.C_drewN ?_ _) | (with_reducible refine Kd.C_drew ?_))); (case side2 => exact (Kd.N_reads' HO138.out).2.1); rintro e w35 ⟨v140, rfl, ho0, hb⟩; refine ⟨_, rfl, ?_⟩; have n0_ := Aside0.mk (Kd.V_elder' (by (with_reducible repeat (first | apply Kd.V_alloc | apply Kd.V_drewN | apply Kd.V_drew)); exact HO_0.out) (Kd.R_base ho0) hb); have n1_ := Aside0.mk (Kd.V_elder' (by (with_reducible repeat (first | apply Kd.V_alloc | apply Kd.V_drewN | apply Kd.V_drew)); exact HO135.out) (Kd.R_base ho0) hb); have n2_ := Aside0.mk (Kd.N_elder' (by (with_reducible repeat (first | apply Kd.N_alloc | apply Kd.N_drewN | apply Kd.N_drew)); exact HO138.out) (Kd.R_base ho0) hb); have n3_ := Aside0.mk (Kd.R_lower (Kd.R_newM (M := fun k_ => (w.heap.size ≤ k_)) ho0 (below_size (by repeat (first | (with_reducible first | exact HB.out | apply below_alloc | apply pw_below_drewN | apply below_drew1) | exact HB.out))) (fun k_ h_ => h_)) (below_size (by repeat (first | (with_reducible first | exact HB.out | apply below_alloc | apply pw_below_drewN | apply below_drew1) | exact HB.out)))); have n4_ := Aside0.mk (below_step (by repeat (first | (with_reducible first | exact HB.out | apply below_alloc | apply pw_below_drewN | apply below_drew1) | exact HB.out)) hb); clear HO_0; clear HO135; clear HO138; clear HB; have HO_0 := n0_; have HO135 := n1_; have HO138 := n2_; have HO141 := n3_; have HB := n4_; clear n0_ n1_ n2_ n3_ n4_; (try clear hb); (try clear hb2); (try clear hk); (try clear hi); (try clear ho0)))
                  have n0_ := Aside0.mk (Kd.V_drew HO_0.out)
                  have n1_ := Aside0.mk (Kd.V_drew HO135.out)
                  have n2_ := Aside0.mk (Kd.N_drew HO138.out)
                  have n3_ := Aside0.mk (Kd.R_drew HO141.out)
                  have n4_ := Aside0.mk (below_drew1 HB.out)
                  clear HO_0
                  clear HO135
                  clear HO138
                  clear HO141
                  clear HB
                  have HO_0 := n0_
                  have HO135 := n1_
                  have HO138 := n2_
                  have HO141 := n3_
                  have HB := n4_
                  clear n0_ n1_ n2_ n3_ n4_
                  have q37 : (4 : Int) ≤ ((l0.length : Int) : Int) := of_decide_eq_true (by first | (with_reducible assumption) | assumption)
                  obtain ⟨i037, hi037, _, hsz37, _⟩ := info_parts info5
                  have hroom37 : l0.length ≤ c0 := (Kd.V_reads' HO_0.out).2.1
                  have hC37 : Kd.F (Kd.int .u8) _ _ A0 l0.length l0 := (Kd.V_at (base := w.heap.size) HO_0.out).2.2
                  have hcut37 := cut_to (P := Try.prog) 37 5 .i64 Try.underlying37 hi037 A0 l0.length c0 4 (by omega) q37 hroom37
                  have hr37 := Kd.F_take (m := 4) hC37 (by omega)
                  have hy37 : y142.length = (4 : Int).toNat := (by rw [Ny142.out, List.length_take]; omega)
                  rw [← Ny142.out] at hr37
                  rw [← hy37] at hcut37
                  have HO146 := Aside0.mk (show Kd.V (Kd.int .u8) 5 _ w.heap.size _ (.slice A0 y142.length c0) y142 from Kd.V_mk (by omega) hr37)
                  have HC146 := Aside0.mk (show y142.length ≤ c0 from by omega)
                  clear hr37 hC37 hroom37 hi037 hsz37
                  have KY37 := Aside0.mk hy37
                  clear hy37
                  replace q37 := eq_true q37
                  have q38 : (4 : Int) ≤ ((l0.length : Int) : Int) := of_decide_eq_true (by first | (with_reducible assumption) | assumption)
                  obtain ⟨i038, hi038, _, hsz38, _⟩ := info_parts info5
                  have hroom38 : l0.length ≤ c0 := (Kd.V_reads' HO_0.out).2.1
                  have hC38 : Kd.F (Kd.int .u8) _ _ A0 l0.length l0 := (Kd.V_at (base := w.heap.size) HO_0.out).2.2
                  have hcut38 := cut_from (P := Try.prog) 37 5 .i64 Try.underlying37 hi038 1 hsz38 A0 l0.length c0 4 (by omega) q38
                  have hr38 := Kd.F_cut (m := (4 : Int).toNat) (c := c0) hC38 (by omega) hroom38
                  obtain ⟨A38, hA38⟩ : ∃ A1, A1 = (if c0 = (4 : Int).toNat then A0 else (A0 : Option Addr).map (·.add ((4 : Int).toNat * 1))) := ⟨_, rfl⟩
                  obtain ⟨c38, hc38⟩ : ∃ c1, c1 = c0 - (4 : Int).toNat := ⟨_, rfl⟩
                  have hy38 : y149.length = l0.length - (4 : Int).toNat := (by rw [Ny149.out, List.length_drop] <;> omega)
                  rw [show (l0).drop (4 : Int).toNat = y149 from Ny149.out.symm] at hr38
                  replace hr38 : Kd.F (Kd.int .u8) _ _ A38 y149.length y149 := (by rw [hA38]; exact hr38)
                  rw [← hy38, ← hA38, ← hc38] at hcut38
                  have HO153 := Aside0.mk (show Kd.V (Kd.int .u8) 5 _ w.heap.size _ (.slice A38 y149.length c38) y149 from Kd.V_mk (by rw [hy38, hc38]; exact Nat.sub_le_sub_right hroom38 _) hr38)
                  have HC153 := Aside0.mk (show y149.length ≤ c38 from by rw [hy38, hc38]; exact Nat.sub_le_sub_right hroom38 _)
                  clear hr38 hC38 hroom38 hi038 hsz38 hc38
                  have KY38 := Aside0.mk hy38
                  have KA38 := Aside0.mk hA38
                  clear hy38 hA38
                  replace q38 := eq_true q38
                  refine start_ (n := 9) (S := fun w' => True) (ds := []) #[false, false, false, false, false, false, false, false, false] (by kernel_rfl) rfl rfl trivial (fun hHeld => ?_); refine with_tabW frame_first.tab7 frame_first.bits7 (fun HT_ HW_ => ?_)
                  generalize w35.drew = w36 at HO_0 HO135 HO138 HO141 HB HO146 HO153 hHeld ⊢
                  refine pure_ (i := 0) (N := some 31) (v := ?_) (a' := ?_) #[true, false, false, false, false, false, false, false, false] rfl rfl (any_of HT_.out (by kernel_rfl)) (fun _ _ _ h => h) (Or.inl ⟨by rfl, ?_⟩) ?_ ?_
                  rotate_left
                  · intro w'
                    go_simp
                    with_reducible rfl
                  rotate_left
                  · simp only [Act.put, List.setIfInBounds_toArray, List.set_cons_zero, List.set_cons_succ, i64_w, i32_w]
                    rfl
                  refine pure_ (i := 1) (N := some 32) (v := ?_) (a' := ?_) #[true, true, false, false, false, false, false, false, false] rfl rfl (any_of HT_.out (by kernel_rfl)) (fun _ _ _ h => h) (Or.inl ⟨by rfl, ?_⟩) ?_ ?_
                  rotate_left
                  · intro w'
                    go_simp
                    with_reducible rfl
                  rotate_left
                  · simp only [Act.put, List.setIfInBounds_toArray, List.set_cons_zero, List.set_cons_succ, i64_w, i32_w]
                    rfl
                  refine pure_ (i := 3) (N := some 34) (v := ?_) (a' := ?_) #[true, true, false, true, false, false, false, false, false] rfl rfl (any_of HT_.out (by kernel_rfl)) (fun _ _ _ h => h) (Or.inl ⟨by rfl, ?_⟩) ?_ ?_
                  rotate_left
                  · intro w'
                    go_simp
                    with_reducible rfl
                  rotate_left
                  · simp only [Act.put, List.setIfInBounds_toArray, List.set_cons_zero, List.set_cons_succ, i64_w, i32_w]
                    rfl
                  refine pure_ (i := 5) (N := some 36) (v := ?_) (a' := ?_) #[true, true, false, true, false, true, false, false, false] rfl rfl (any_of HT_.out (by kernel_rfl)) (fun _ _ _ h => h) (Or.inl ⟨by rfl, ?_⟩) ?_ ?_
                  rotate_left
                  · intro w'
                    go_simp
                    with_reducible rfl
                  rotate_left
                  · simp only [Act.put, List.setIfInBounds_toArray, List.set_cons_zero, List.set_cons_succ, i64_w, i32_w]
                    rfl
                  refine pure_ (i := 6) (N := some 37) (v := ?_) (a' := ?_) #[true, true, false, true, false, true, true, false, false] rfl rfl (any_of HT_.out (by kernel_rfl)) (fun _ _ _ h => h) (Or.inl ⟨by rfl, ?_⟩) ?_ ?_
                  rotate_left
                  · intro w'
                    go_simp
                    with_reducible rfl
                  rotate_left
                  · simp only [Act.put, List.setIfInBounds_toArray, List.set_cons_zero, List.set_cons_succ, i64_w, i32_w]
                    rfl
                  refine one_ (i := 2) (N := some 33) #[true, true, true, true, false, true, true, false, false] rfl rfl (one_of HT_.out (by kernel_rfl)) (by decide) (fun K hK => ?_)
                  refine goes_ Try.func46 (by kernel_rfl) rfl #[.slice A0 y142.length c0] (by rfl) rfl rfl (by (try simp only [List.map_toArray, List.map_cons, List.map_nil]); first | done | rfl | (simp only [List.length_drop, List.length_take]; rfl)) ?_
                  with_reducible refine (sum_Of.calls kj3 _ _ y142 t147 _ ?side1 ?side2 A12.out).mono ?_
                  (case side1 => repeat (first | exact (Kd.V_reads' HO146.out).2.2 | (with_reducible refine Kd.C_alloc ?_ _) | (with_reducible refine Kd.C_drewN ?_ _) | (with_reducible refine Kd.C_drew ?_)))
                  (case side2 => exact (Kd.V_reads' HO146.out).2.1)
                  rintro e w39 ⟨rfl, hb⟩
                  refine ⟨_, rfl, ?_⟩
                  have n0_ := Aside0.mk (Kd.V_below (by (with_reducible repeat (first | apply Kd.V_alloc | apply Kd.V_drewN | apply Kd.V_drew)); exact HO_0.out) hb)
                  have n1_ := Aside0.mk (Kd.V_below (by (with_reducible repeat (first | apply Kd.V_alloc | apply Kd.V_drewN | apply Kd.V_drew)); exact HO135.out) hb)
                  have n2_ := Aside0.mk (Kd.N_below (by (with_reducible repeat (first | apply Kd.N_alloc | apply Kd.N_drewN | apply Kd.N_drew)); exact HO138.out) hb)
                  have n3_ := Aside0.mk (Kd.R_below (by (with_reducible repeat (first | apply Kd.R_alloc | apply Kd.R_drewN | apply Kd.R_drew)); exact HO141.out) hb)
                  have n4_ := Aside0.mk (Kd.V_below (by (with_reducible repeat (first | apply Kd.V_alloc | apply Kd.V_drewN | apply Kd.V_drew)); exact HO146.out) hb)
                  have n5_ := Aside0.mk (Kd.V_below (by (with_reducible repeat (first | apply Kd.V_alloc | apply Kd.V_drewN | apply Kd.V_drew)); exact HO153.out) hb)
                  have n6_ := Aside0.mk (below_step (by repeat (first | (with_reducible first | exact HB.out | apply below_alloc | apply pw_below_drewN | apply below_drew1) | exact HB.out)) hb)
                  clear HO_0
                  clear HO135
                  clear HO138
                  clear HO141
                  clear HO146
                  clear HO153
                  clear HB
                  have HO_0 := n0_
                  have HO135 := n1_
                  have HO138 := n2_
                  have HO141 := n3_
                  have HO146 := n4_
                  have HO153 := n5_
                  have HB := n6_
                  clear n0_ n1_ n2_ n3_ n4_ n5_ n6_
                  (try clear hb)
                  (try clear hb2)
                  (try clear hk)
                  (try clear hi)
                  obtain ⟨Ao40, co40, eo40⟩ := Kd.R_slice HO141.out
                  (first | subst eo40 | (injection eo40 with f1_ f2_ f3_; have f4_ := f1_.symm; have f5_ := f3_.symm; clear f1_ f2_ f3_; subst f4_; subst f5_))
                  refine hK.out _ _ trivial (fun hHeld => ?_)
                  clear hK K
                  refine norm_ (a' := ?_) ?_ ?_
                  rotate_left
                  · show Act.put _ (some 33) _ = _
                    simp only [Act.put, List.setIfInBounds_toArray, List.set_cons_zero, List.set_cons_succ, i64_w, i32_w]
                    rfl
                  refine one_ (i := 4) (N := some 35) #[true, true, true, true, true, true, true, false, false] rfl rfl (one_of HT_.out (by kernel_rfl)) (by decide) (fun K hK => ?_)
                  refine goes_ Try.func45 (by kernel_rfl) rfl #[.int .u32 t147, .slice Ao40 t139.length co40] (by rfl) rfl rfl (by (try simp only [List.map_toArray, List.map_cons, List.map_nil]); first | done | rfl | (simp only [List.length_drop, List.length_take]; rfl)) ?_
                  with_reducible refine (sum_More.calls kj3 t147 _ _ t139 t148 _ ?side1 ?side2 A13.out).mono ?_
                  (case side1 => repeat (first | exact (Kd.R_reads' HO141.out).2.2 | (with_reducible refine Kd.C_alloc ?_ _) | (with_reducible refine Kd.C_drewN ?_ _) | (with_reducible refine Kd.C_drew ?_)))
                  (case side2 => exact (Kd.R_reads' HO141.out).2.1)
                  rintro e w41 ⟨rfl, hb⟩
                  refine ⟨_, rfl, ?_⟩
                  have n0_ := Aside0.mk (Kd.V_below (by (with_reducible repeat (first | apply Kd.V_alloc | apply Kd.V_drewN | apply Kd.V_drew)); exact HO_0.out) hb)
                  have n1_ := Aside0.mk (Kd.V_below (by (with_reducible repeat (first | apply Kd.V_alloc | apply Kd.V_drewN | apply Kd.V_drew)); exact HO135.out) hb)
                  have n2_ := Aside0.mk (Kd.N_below (by (with_reducible repeat (first | apply Kd.N_alloc | apply Kd.N_drewN | apply Kd.N_drew)); exact HO138.out) hb)
                  have n3_ := Aside0.mk (Kd.R_below (by (with_reducible repeat (first | apply Kd.R_alloc | apply Kd.R_drewN | apply Kd.R_drew)); exact HO141.out) hb)
                  have n4_ := Aside0.mk (Kd.V_below (by (with_reducible repeat (first | apply Kd.V_alloc | apply Kd.V_drewN | apply Kd.V_drew)); exact HO146.out) hb)
                  have n5_ := Aside0.mk (Kd.V_below (by (with_reducible repeat (first | apply Kd.V_alloc | apply Kd.V_drewN | apply Kd.V_drew)); exact HO153.out) hb)
                  have n6_ := Aside0.mk (below_step (by repeat (first | (with_reducible first | exact HB.out | apply below_alloc | apply pw_below_drewN | apply below_drew1) | exact HB.out)) hb)
                  clear HO_0
                  clear HO135
                  clear HO138
                  clear HO141
                  clear HO146
                  clear HO153
                  clear HB
                  have HO_0 := n0_
                  have HO135 := n1_
                  have HO138 := n2_
                  have HO141 := n3_
                  have HO146 := n4_
                  have HO153 := n5_
                  have HB := n6_
                  clear n0_ n1_ n2_ n3_ n4_ n5_ n6_
                  (try clear hb)
                  (try clear hb2)
                  (try clear hk)
                  (try clear hi)
                  refine hK.out _ _ trivial (fun hHeld => ?_)
                  clear hK K
                  refine norm_ (a' := ?_) ?_ ?_
                  rotate_left
                  · show Act.put _ (some 35) _ = _
                    simp only [Act.put, List.setIfInBounds_toArray, List.set_cons_zero, List.set_cons_succ, i64_w, i32_w]
                    rfl
                  refine one_ (i := 7) (N := some 38) #[true, true, true, true, true, true, true, true, false] rfl rfl (one_of HT_.out (by kernel_rfl)) (by decide) (fun K hK => ?_)
                  refine goes_ Try.func76 (by kernel_rfl) rfl #[.slice A38 y149.length c38] (by rfl) rfl rfl (by (try simp only [List.map_toArray, List.map_cons, List.map_nil]); first | done | rfl | (simp only [List.length_drop, List.length_take]; rfl)) ?_
                  with_reducible refine (frame_number.calls _ _ y149 t154 _ ?side1 ?side2 A15.out).mono ?_
                  (case side1 => repeat (first | exact (Kd.V_reads' HO153.out).2.2 | (with_reducible refine Kd.C_alloc ?_ _) | (with_reducible refine Kd.C_drewN ?_ _) | (with_reducible refine Kd.C_drew ?_)))
                  (case side2 => exact (Kd.V_reads' HO153.out).2.1)
                  rintro e w' ⟨rfl, ⟨nd, rfl⟩⟩
                  refine ⟨_, rfl, ?_⟩
                  refine hK.out _ _ trivial (fun hHeld => ?_)
                  clear hK K
                  refine norm_ (a' := ?_) ?_ ?_
                  rotate_left
                  · show Act.put _ (some 38) _ = _
                    simp only [Act.put, List.setIfInBounds_toArray, List.set_cons_zero, List.set_cons_succ, i64_w, i32_w]
                    rfl
                  refine pure_ (i := 8) (N := some 39) (v := ?_) (a' := ?_) #[true, true, true, true, true, true, true, true, true] rfl rfl (any_of HT_.out (by kernel_rfl)) (fun _ _ _ h => h) (Or.inl ⟨by rfl, ?_⟩) ?_ ?_
                  rotate_left
                  · intro w'
                    go_simp
                    with_reducible rfl
                  rotate_left
                  · simp only [Act.put, List.setIfInBounds_toArray, List.set_cons_zero, List.set_cons_succ, i64_w, i32_w]
                    rfl
                  refine done_ (done_of HT_.out (by kernel_rfl)) ?_
                  try go_wp2
                  go_ret2
                  exact ⟨_, by first | rfl | (simp [errW_none, errW_some] <;> rfl) | (simp [*, errW_none, errW_some] <;> rfl), by first | exact Kd.R_nil _ _ _ _ _ | exact Kd.N_nil _ _ _ _ _ | exact Kd.V_nil _ _ _ _ _ | exact Kd.Q_nil _ _ _ _ _ | exact Kd.S_nil _ _ _ _ _, by repeat (first | (with_reducible first | exact HB.out | apply below_alloc | apply pw_below_drewN | apply below_drew1) | exact HB.out)⟩
              · rw [if_neg c11] at H
                exact absurd H (by simp)
            · rw [if_neg c9] at H
              exact absurd H (by simp)
          · rw [if_neg c8] at H
            exact absurd H (by simp)

theorem frame_first.calls (k : Nat) (A0 : Option Addr) (c0 : Nat) (l0 : List Int) (r1 : List Int) (r2 : Bool) (w : World) (hr0 : Kd.C (Kd.int .u8) w A0 l0.length l0) (hc0 : l0.length ≤ c0) (h : frame_first.f k l0 = some (r1, r2)) :
    Calls Try.prog 61 #[.slice A0 l0.length c0] w fun e w' => ∃ v0_ : Value, e = .returned (.tuple #[v0_, .bool r2]) ∧ Kd.V (Kd.int .u8) 5 w' w.heap.size (fun k_ => (w.heap.size ≤ k_)) v0_ r1 ∧ Below w.heap.size w w' :=
  frame_first.walkV k (fun k => k < w.heap.size) A0 c0 l0 r1 r2 w (Kd.V_mk hc0 (Kd.C_F (by exact Kd.heap_int _) hr0)) h

/-! ### frame_Open: function 34 -/
def frame_Open.f (k : Nat) (l0 : List Int) : Option (List Int × Int) := (frame_first.f k l0).bind fun bt150 => (if bt150.2 = true then (if (wrap64 ((bt150.1.length : Int) + 8)) = (l0.length : Int) then (some (bt150.1, 0)) else (some (([] : List Int), 2))) else (some (([] : List Int), 2)))
theorem frame_Open.mono : ∀ a0 k, LeO (frame_Open.f k a0) (frame_Open.f (k + 1) a0) := by
  intro a0 k
  unfold frame_Open.f
  repeat' first
      | (with_reducible exact frame_first.mono _ _)
      | (with_reducible exact LeO.refl _)
      | (with_reducible exact LeO.none _)
      | (with_reducible refine LeO.ite ?_ ?_)
      | (with_reducible refine LeO.bind ?_ (fun _ => ?_))
      | exact frame_first.mono _ _
      | exact LeO.none _
      | refine LeO.ite ?_ ?_
      | refine LeO.bind ?_ (fun _ => ?_)
set_option maxHeartbeats 8000000 in
set_option maxRecDepth 100000 in
theorem frame_Open.calls (k : Nat) (A0 : Option Addr) (c0 : Nat) (l0 : List Int) (r1 : List Int) (r2 : Int) (w : World) (hr0 : Kd.C (Kd.int .u8) w A0 l0.length l0) (hc0 : l0.length ≤ c0) (h : frame_Open.f k l0 = some (r1, r2)) :
    Calls Try.prog 34 #[.slice A0 l0.length c0] w fun e w' => ∃ v0_ : Value, e = .returned (.tuple #[v0_, .int .i64 r2]) ∧ Kd.V (Kd.int .u8) 5 w' w.heap.size (fun k_ => (w.heap.size ≤ k_)) v0_ r1 ∧ Below w.heap.size w w' := by
  have HR0 := Aside0.mk hr0
  have HC0 := Aside0.mk hc0
  clear hr0 hc0
  have HB := Aside0.mk (Below.refl w.heap.size w)
  have H : ((frame_first.f k l0).bind fun bt150 => (if bt150.2 = true then (if (wrap64 ((bt150.1.length : Int) + 8)) = (l0.length : Int) then (some (bt150.1, 0)) else (some (([] : List Int), 2))) else (some (([] : List Int), 2)))) = some (r1, r2) := h
  clear h
  replace H := Option.bind_eq_some_iff.mp H
  obtain ⟨⟨t150, t153⟩, A20, H⟩ := H
  replace H : (if t153 = true then (if (wrap64 ((t150.length : Int) + 8)) = (l0.length : Int) then (some (t150, 0)) else (some (([] : List Int), 2))) else (some (([] : List Int), 2))) = some (r1, r2) := H
  have A2 := Aside0.mk A20
  clear A20
  by_cases c3 : t153 = true
  · subst c3
    have H1 : (if (wrap64 ((t150.length : Int) + 8)) = (l0.length : Int) then (some (t150, 0)) else (some (([] : List Int), 2))) = some (r1, r2) := by rw [if_pos rfl] at H; exact H
    clear H
    have H := H1
    clear H1
    by_cases c4 : (wrap64 ((t150.length : Int) + 8)) = (l0.length : Int)
    · rw [if_pos c4] at H
      have c4b0 : ((wrap64 ((t150.length : Int) + 8)) == (l0.length : Int)) = true := beq_iff_eq.mpr c4
      have c4b1 : ((wrap64 ((t150.length : Int) + 8)) != (l0.length : Int)) = false := bne_eq_false_iff_eq.mpr c4
      clear c4
      simp only [Option.some.injEq, Prod.mk.injEq] at H
      obtain ⟨rfl, rfl⟩ := H
      go_enter Try.func34, Try.ntmps34
      go_wp2_with (first | ((with_reducible refine gate_callee (f := 61) rfl ?_); refine goesL_ (some 8) rfl rfl Try.func61 (by kernel_rfl) rfl #[.slice A0 l0.length c0] rfl (by (try simp only [List.map_toArray, List.map_cons, List.map_nil]); first | done | rfl | (simp only [List.length_drop, List.length_take]; rfl)) ?_; (with_reducible refine (frame_first.calls k _ _ l0 t150 true _ ?side1 ?side2 A2.out).mono ?_); (case side1 => repeat (first | exact HR0.out | (with_reducible refine Kd.C_alloc ?_ _) | (with_reducible refine Kd.C_drewN ?_ _) | (with_reducible refine Kd.C_drew ?_))); (case side2 => exact HC0.out); rintro e w5 ⟨v151, rfl, ho0, hb⟩; refine ⟨_, rfl, ?_⟩; have n0_ := Aside0.mk (Kd.V_lower (Kd.V_mono (ok' := fun k_ => (w.heap.size ≤ k_)) ho0 (fun k_ hk_ => (Nat.le_trans (below_size (by repeat (first | (with_reducible first | exact HB.out | apply below_alloc | apply pw_below_drewN | apply below_drew1) | exact HB.out))) hk_))) (below_size (by repeat (first | (with_reducible first | exact HB.out | apply below_alloc | apply pw_below_drewN | apply below_drew1) | exact HB.out)))); have n1_ := Aside0.mk (below_step (by repeat (first | (with_reducible first | exact HB.out | apply below_alloc | apply pw_below_drewN | apply below_drew1) | exact HB.out)) hb); clear HB; have HO152 := n0_; have HB := n1_; clear n0_ n1_; (try clear hb); (try clear hb2); (try clear hk); (try clear hi); (try clear ho0); obtain ⟨Ao6, co6, eo6⟩ := Kd.V_slice HO152.out; subst eo6))
      go_ret2
      exact ⟨_, by first | rfl | (simp [errW_none, errW_some] <;> rfl) | (simp [*, errW_none, errW_some] <;> rfl), by (with_reducible repeat (first | apply Kd.V_alloc | apply Kd.V_drewN | apply Kd.V_drew)); exact HO152.out, by repeat (first | (with_reducible first | exact HB.out | apply below_alloc | apply pw_below_drewN | apply below_drew1) | exact HB.out)⟩
    · rw [if_neg c4] at H
      have c4b0 : ((wrap64 ((t150.length : Int) + 8)) == (l0.length : Int)) = false := beq_eq_false_iff_ne.mpr c4
      have c4b1 : ((wrap64 ((t150.length : Int) + 8)) != (l0.length : Int)) = true := bne_iff_ne.mpr c4
      simp only [Option.some.injEq, Prod.mk.injEq] at H
      obtain ⟨rfl, rfl⟩ := H
      go_enter Try.func34, Try.ntmps34
      go_wp2_with (first | ((with_reducible refine gate_callee (f := 61) rfl ?_); refine goesL_ (some 8) rfl rfl Try.func61 (by kernel_rfl) rfl #[.slice A0 l0.length c0] rfl (by (try simp only [List.map_toArray, List.map_cons, List.map_nil]); first | done | rfl | (simp only [List.length_drop, List.length_take]; rfl)) ?_; (with_reducible refine (frame_first.calls k _ _ l0 t150 true _ ?side1 ?side2 A2.out).mono ?_); (case side1 => repeat (first | exact HR0.out | (with_reducible refine Kd.C_alloc ?_ _) | (with_reducible refine Kd.C_drewN ?_ _) | (with_reducible refine Kd.C_drew ?_))); (case side2 => exact HC0.out); rintro e w7 ⟨v151, rfl, ho0, hb⟩; refine ⟨_, rfl, ?_⟩; have n0_ := Aside0.mk (Kd.V_lower (Kd.V_mono (ok' := fun k_ => (w.heap.size ≤ k_)) ho0 (fun k_ hk_ => (Nat.le_trans (below_size (by repeat (first | (with_reducible first | exact HB.out | apply below_alloc | apply pw_below_drewN | apply below_drew1) | exact HB.out))) hk_))) (below_size (by repeat (first | (with_reducible first | exact HB.out | apply below_alloc | apply pw_below_drewN | apply below_drew1) | exact HB.out)))); have n1_ := Aside0.mk (below_step (by repeat (first | (with_reducible first | exact HB.out | apply below_alloc | apply pw_below_drewN | apply below_drew1) | exact HB.out)) hb); clear HB; have HO152 := n0_; have HB := n1_; clear n0_ n1_; (try clear hb); (try clear hb2); (try clear hk); (try clear hi); (try clear ho0); obtain ⟨Ao8, co8, eo8⟩ := Kd.V_slice HO152.out; subst eo8))
      go_ret2
      exact ⟨_, by first | rfl | (simp [errW_none, errW_some] <;> rfl) | (simp [*, errW_none, errW_some] <;> rfl), Kd.V_nil _ _ _ _ _, by repeat (first | (with_reducible first | exact HB.out | apply below_alloc | apply pw_below_drewN | apply below_drew1) | exact HB.out)⟩
  · replace c3 := Bool.eq_false_iff.mpr c3
    subst c3
    have H1 : (some (([] : List Int), 2)) = some (r1, r2) := by rw [if_neg (show ¬ (false = true) by decide)] at H; exact H
    clear H
    have H := H1
    clear H1
    simp only [Option.some.injEq, Prod.mk.injEq] at H
    obtain ⟨rfl, rfl⟩ := H
    go_enter Try.func34, Try.ntmps34
    go_wp2_with (first | ((with_reducible refine gate_callee (f := 61) rfl ?_); refine goesL_ (some 8) rfl rfl Try.func61 (by kernel_rfl) rfl #[.slice A0 l0.length c0] rfl (by (try simp only [List.map_toArray, List.map_cons, List.map_nil]); first | done | rfl | (simp only [List.length_drop, List.length_take]; rfl)) ?_; (with_reducible refine (frame_first.calls k _ _ l0 t150 false _ ?side1 ?side2 A2.out).mono ?_); (case side1 => repeat (first | exact HR0.out | (with_reducible refine Kd.C_alloc ?_ _) | (with_reducible refine Kd.C_drewN ?_ _) | (with_reducible refine Kd.C_drew ?_))); (case side2 => exact HC0.out); rintro e w9 ⟨v151, rfl, ho0, hb⟩; refine ⟨_, rfl, ?_⟩; have n0_ := Aside0.mk (Kd.V_lower (Kd.V_mono (ok' := fun k_ => (w.heap.size ≤ k_)) ho0 (fun k_ hk_ => (Nat.le_trans (below_size (by repeat (first | (with_reducible first | exact HB.out | apply below_alloc | apply pw_below_drewN | apply below_drew1) | exact HB.out))) hk_))) (below_size (by repeat (first | (with_reducible first | exact HB.out | apply below_alloc | apply pw_below_drewN | apply below_drew1) | exact HB.out)))); have n1_ := Aside0.mk (below_step (by repeat (first | (with_reducible first | exact HB.out | apply below_alloc | apply pw_below_drewN | apply below_drew1) | exact HB.out)) hb); clear HB; have HO152 := n0_; have HB := n1_; clear n0_ n1_; (try clear hb); (try clear hb2); (try clear hk); (try clear hi); (try clear ho0)))
    go_ret2
    exact ⟨_, by first | rfl | (simp [errW_none, errW_some] <;> rfl) | (simp [*, errW_none, errW_some] <;> rfl), Kd.V_nil _ _ _ _ _, by repeat (first | (with_reducible first | exact HB.out | apply below_alloc | apply pw_below_drewN | apply below_drew1) | exact HB.out)⟩

end Go.Proofs.Ytcbehfbfaonanaa.PFr
end

/- The references of the frames and the sums, function by function (printed out of the translation). -/
section
namespace Go.Proofs.Ytcbehfbfaonanaa.PFr
open Go.RowKit Go.Proofs.YtcbehfbfaonanaaW.PrintWords Go.Proofs.YtcbehfbfaonanaaW.PrintLast Go.Proofs.YtcbehfbfaonanaaW.PrintMore
attribute [local go_sem] max2_int min2_int max_two min_two max_three min_three max_four min_four   -- for this text's walks alone
set_option linter.unusedVariables false
set_option linter.unusedSimpArgs false


/-! ### meridianref03_Four: function 56 -/
def meridianref03_Four.f (a0 : Int) : Option (List Int) := some (([(wrap64 (Int.tdiv a0 16777216)) % 256, (Int.tmod (wrap64 (Int.tdiv a0 65536)) 256) % 256, (Int.tmod (wrap64 (Int.tdiv a0 256)) 256) % 256, (Int.tmod a0 256) % 256] : List Int))
set_option maxHeartbeats 8000000 in
set_option maxRecDepth 100000 in
theorem meridianref03_Four.calls (a0 : Int) (r : List Int) (w : World) (h : meridianref03_Four.f a0 = some r) :
    Calls Try.prog 56 #[.int .i64 a0] w fun e w' => ∃ v0_ : Value, e = .returned (v0_) ∧ Kd.R (Kd.int .u8) 5 w' w.heap.size (fun _ => True) v0_ r ∧ Below w.heap.size w w' := by
  have HB := Aside0.mk (Below.refl w.heap.size w)
  have H : (some (([(wrap64 (Int.tdiv a0 16777216)) % 256, (Int.tmod (wrap64 (Int.tdiv a0 65536)) 256) % 256, (Int.tmod (wrap64 (Int.tdiv a0 256)) 256) % 256, (Int.tmod a0 256) % 256] : List Int))) = some r := h
  clear h
  obtain ⟨y536, hy536⟩ : ∃ y_ : List Int, y_ = (([(wrap64 (Int.tdiv a0 16777216)) % 256, (Int.tmod (wrap64 (Int.tdiv a0 65536)) 256) % 256, (Int.tmod (wrap64 (Int.tdiv a0 256)) 256) % 256, (Int.tmod a0 256) % 256] : List Int)) := ⟨_, rfl⟩
  replace H : (some y536) = some r := by first | (rw [hy536]; with_reducible exact H) | (have H2_ := (Option.bind_some _ _).symm.trans H; rw [hy536]; with_reducible exact H2_) | (have H2_ := (Option.bind_some _ _).symm.trans H; with_reducible exact H2_) | with_reducible exact H | (rw [hy536]; exact H) | exact H
  have Ny536 := Aside0.mk hy536
  clear hy536
  obtain rfl := Option.some.inj H
  go_enter Try.func56, Try.ntmps56
  go_wp2_with (first | ((with_reducible refine gate_dst (N := 17) rfl ?_); refine Kd.R_lit (Kd.int .u8) _ 5 ?hg (N := 17) ?hd (xs := ([(wrap64 (Int.tdiv a0 16777216)) % 256, (Int.tmod (wrap64 (Int.tdiv a0 65536)) 256) % 256, (Int.tmod (wrap64 (Int.tdiv a0 256)) 256) % 256, (Int.tmod a0 256) % 256] : List Int)) (inner := [.int .u8 ((wrap64 (Int.tdiv a0 16777216)) % 256), .int .u8 ((Int.tmod (wrap64 (Int.tdiv a0 65536)) 256) % 256), .int .u8 ((Int.tmod (wrap64 (Int.tdiv a0 256)) 256) % 256), .int .u8 ((Int.tmod a0 256) % 256)]) (ok := fun _ => True) (okp := fun _ => True) ?hr ?hp (fun _ hk => hk) trivial (Below.refl _ _) (Nat.le_refl _) (by simp) ?_; (case hd => rfl); (case hg => rfl); (case hr => first | (go_simp; done) | (go_simp; rfl)); (case hp => exact (Reps.one (show Kd.M (Kd.int .u8) _ _ _ ((wrap64 (Int.tdiv a0 16777216)) % 256) [.int .u8 ((wrap64 (Int.tdiv a0 16777216)) % 256)] from rfl) (Reps.one (show Kd.M (Kd.int .u8) _ _ _ ((Int.tmod (wrap64 (Int.tdiv a0 65536)) 256) % 256) [.int .u8 ((Int.tmod (wrap64 (Int.tdiv a0 65536)) 256) % 256)] from rfl) (Reps.one (show Kd.M (Kd.int .u8) _ _ _ ((Int.tmod (wrap64 (Int.tdiv a0 256)) 256) % 256) [.int .u8 ((Int.tmod (wrap64 (Int.tdiv a0 256)) 256) % 256)] from rfl) (Reps.one (show Kd.M (Kd.int .u8) _ _ _ ((Int.tmod a0 256) % 256) [.int .u8 ((Int.tmod a0 256) % 256)] from rfl) (Reps.none _ _)))))); intro v537 w2 ho3 hb hg_ hnew_; clear hg_ hnew_; (first | rw [← Ny536.out] at ho3 | (simp only [Int.reduceToNat] at ho3; rw [← Ny536.out] at ho3)); have n0_ := Aside0.mk (Kd.R_lower ho3 (below_size (by repeat (first | (with_reducible first | exact HB.out | apply below_alloc | apply pw_below_drewN | apply below_drew1) | exact HB.out)))); have n1_ := Aside0.mk (below_step (by repeat (first | (with_reducible first | exact HB.out | apply below_alloc | apply pw_below_drewN | apply below_drew1) | exact HB.out)) hb); clear HB; have HO538 := n0_; have HB := n1_; clear n0_ n1_; clear hb ho3))
  go_ret
  exact ⟨_, by first | rfl | (simp [errW_none, errW_some] <;> rfl) | (simp [*, errW_none, errW_some] <;> rfl), by (with_reducible repeat (first | apply Kd.R_alloc | apply Kd.R_drewN | apply Kd.R_drew)); exact HO538.out, by repeat (first | (with_reducible first | exact HB.out | apply below_alloc | apply pw_below_drewN | apply below_drew1) | exact HB.out)⟩

/-! ### meridianref01_Register: function 82 -/
def meridianref01_Register.l0 : Nat → Int → Int → Option (Int)
  | 0, _, _ => none
  | k + 1, x0, x5 => if x5 < 8 then (if (Int.tmod x0 2) = 1 then (meridianref01_Register.l0 k (Go.bits .xor .u32 ((Int.tdiv x0 2) % 4294967296) 3988292384) (wrap64 (x5 + 1))) else (meridianref01_Register.l0 k ((Int.tdiv x0 2) % 4294967296) (wrap64 (x5 + 1)))) else (some x0)
def meridianref01_Register.f (k : Nat) (a0 : Int) (a1 : Int) : Option (Int) := meridianref01_Register.l0 k (Go.bits .xor .u32 a0 ((a1) % 4294967296)) 0
theorem meridianref01_Register.mono_l : ∀ k, (∀ y0 y1, LeO (meridianref01_Register.l0 k y0 y1) (meridianref01_Register.l0 (k + 1) y0 y1))
  | 0 => fun _ _ r h => by simp [meridianref01_Register.l0] at h
  | k + 1 => by
    have ih0 := meridianref01_Register.mono_l k
    · intro y0 y1
      unfold meridianref01_Register.l0
      repeat' first
      | (with_reducible exact ih0 _ _)
      | (with_reducible exact LeO.refl _)
      | (with_reducible exact LeO.none _)
      | (with_reducible refine LeO.ite ?_ ?_)
      | (with_reducible refine LeO.bind ?_ (fun _ => ?_))
      | exact ih0 _ _
      | exact LeO.none _
      | refine LeO.ite ?_ ?_
      | refine LeO.bind ?_ (fun _ => ?_)
theorem meridianref01_Register.mono : ∀ a0 a1 k, LeO (meridianref01_Register.f k a0 a1) (meridianref01_Register.f (k + 1) a0 a1) := by
  intro a0 a1 k
  have ih0 := meridianref01_Register.mono_l k
  unfold meridianref01_Register.f
  repeat' first
      | (with_reducible exact ih0 _ _)
      | (with_reducible exact LeO.refl _)
      | (with_reducible exact LeO.none _)
      | (with_reducible refine LeO.ite ?_ ?_)
      | (with_reducible refine LeO.bind ?_ (fun _ => ?_))
      | exact ih0 _ _
      | exact LeO.none _
      | refine LeO.ite ?_ ?_
      | refine LeO.bind ?_ (fun _ => ?_)
set_option maxHeartbeats 8000000 in
set_option maxRecDepth 100000 in
theorem meridianref01_Register.calls (k : Nat) (a0 : Int) (a1 : Int) (r : Int) (w : World) (h : meridianref01_Register.f k a0 a1 = some r) :
    Calls Try.prog 82 #[.int .u32 a0, .int .u8 a1] w fun e w' => e = .returned (.int .u32 r) ∧ Drawn0 w w' := by
  have H : (meridianref01_Register.l0 k (Go.bits .xor .u32 a0 ((a1) % 4294967296)) 0) = some r := h
  clear h
  have H' := Aside0.mk H
  clear H
  go_enter Try.func82, Try.ntmps82
  go_wp2
  go_loopg [0, 5] k (fun kq v0 v5 w' => ∃ (x0_1 : Int) (x5_1 : Int), v0 = .int .u32 x0_1 ∧ v5 = .int .i64 x5_1 ∧ Aside0 (meridianref01_Register.l0 kq x0_1 x5_1 = some r) ∧ Aside0 (kq ≤ k) ∧ Drawn0 w w')
  case atStart => exact ⟨(Go.bits .xor .u32 a0 ((a1) % 4294967296)), (0), (by first | rfl | (simp; done) | (simp [*]; done)), (by first | rfl | (simp; done) | (simp [*]; done)), H', ⟨Nat.le_refl _⟩, by repeat (first | exact Drawn0.refl _ | apply Drawn0.step)⟩
  case round =>
    clear H'
    try clear p2
    obtain ⟨x0_1, x5_1, rfl, rfl, HA, HK1, ⟨m1, rfl⟩⟩ := hrel
    cases gk with
    | zero => exact absurd HA.out (by simp [meridianref01_Register.l0])
    | succ k1 =>
      have H := HA.out
      clear HA
      simp only [meridianref01_Register.l0] at H
      by_cases c3 : x5_1 < 8
      · rw [if_pos c3] at H
        have c3b0 : decide (x5_1 < 8) = true := decide_eq_true c3
        clear c3
        by_cases c4 : (Int.tmod x0_1 2) = 1
        · rw [if_pos c4] at H
          have c4b0 : ((Int.tmod x0_1 2) == 1) = true := beq_iff_eq.mpr c4
          have c4b1 : ((Int.tmod x0_1 2) != 1) = false := bne_eq_false_iff_eq.mpr c4
          clear c4
          have H' := Aside0.mk H
          clear H
          go_wp2
          go_roundg k1
          case measure => have := HK1.out; omega
          case rel => exact ⟨(Go.bits .xor .u32 ((Int.tdiv x0_1 2) % 4294967296) 3988292384), (wrap64 (x5_1 + 1)), (by first | rfl | (simp; done) | (simp [*]; done)), (by first | rfl | (simp; done) | (simp [*]; done)), H', ⟨by have := HK1.out; omega⟩, by repeat (first | exact Drawn0.refl _ | apply Drawn0.step)⟩
        · rw [if_neg c4] at H
          have c4b0 : ((Int.tmod x0_1 2) == 1) = false := beq_eq_false_iff_ne.mpr c4
          have c4b1 : ((Int.tmod x0_1 2) != 1) = true := bne_iff_ne.mpr c4
          have H' := Aside0.mk H
          clear H
          go_wp2
          go_roundg k1
          case measure => have := HK1.out; omega
          case rel => exact ⟨((Int.tdiv x0_1 2) % 4294967296), (wrap64 (x5_1 + 1)), (by first | rfl | (simp; done) | (simp [*]; done)), (by first | rfl | (simp; done) | (simp [*]; done)), H', ⟨by have := HK1.out; omega⟩, by repeat (first | exact Drawn0.refl _ | apply Drawn0.step)⟩
      · rw [if_neg c3] at H
        have c3b0 : decide (x5_1 < 8) = false := decide_eq_false c3
        clear c3
        obtain rfl := Option.some.inj H
        go_wp2
        go_ret
        exact ⟨by first | rfl | (simp; done) | (simp [*]; done), by repeat (first | exact Drawn0.refl _ | apply Drawn0.step)⟩

/-! ### meridianref01_More: function 74 -/
def meridianref01_More.l0 : Nat → List Int → Int → Int → Option (Int)
  | 0, _, _, _ => none
  | k + 1, x1, x5, x6 => if x6 < (x1.length : Int) then (if 0 ≤ x6 then ((meridianref01_Register.f k x5 (rd x1 x6)).bind fun t540 => (meridianref01_More.l0 k x1 t540 (wrap64 (x6 + 1)))) else (none)) else (some ((4294967295 - x5) % 4294967296))
def meridianref01_More.f (k : Nat) (a0 : Int) (l1 : List Int) : Option (Int) := meridianref01_More.l0 k l1 ((4294967295 - a0) % 4294967296) 0
theorem meridianref01_More.mono_l : ∀ k, (∀ y0 y1 y2, LeO (meridianref01_More.l0 k y0 y1 y2) (meridianref01_More.l0 (k + 1) y0 y1 y2))
  | 0 => fun _ _ _ r h => by simp [meridianref01_More.l0] at h
  | k + 1 => by
    have ih0 := meridianref01_More.mono_l k
    · intro y0 y1 y2
      unfold meridianref01_More.l0
      repeat' first
      | (with_reducible exact ih0 _ _ _)
      | (with_reducible exact meridianref01_Register.mono _ _ _)
      | (with_reducible exact LeO.refl _)
      | (with_reducible exact LeO.none _)
      | (with_reducible refine LeO.ite ?_ ?_)
      | (with_reducible refine LeO.bind ?_ (fun _ => ?_))
      | exact ih0 _ _ _
      | exact meridianref01_Register.mono _ _ _
      | exact LeO.none _
      | refine LeO.ite ?_ ?_
      | refine LeO.bind ?_ (fun _ => ?_)
theorem meridianref01_More.mono : ∀ a0 a1 k, LeO (meridianref01_More.f k a0 a1) (meridianref01_More.f (k + 1) a0 a1) := by
  intro a0 a1 k
  have ih0 := meridianref01_More.mono_l k
  unfold meridianref01_More.f
  repeat' first
      | (with_reducible exact ih0 _ _ _)
      | (with_reducible exact meridianref01_Register.mono _ _ _)
      | (with_reducible exact LeO.refl _)
      | (with_reducible exact LeO.none _)
      | (with_reducible refine LeO.ite ?_ ?_)
      | (with_reducible refine LeO.bind ?_ (fun _ => ?_))
      | exact ih0 _ _ _
      | exact meridianref01_Register.mono _ _ _
      | exact LeO.none _
      | refine LeO.ite ?_ ?_
      | refine LeO.bind ?_ (fun _ => ?_)
set_option maxHeartbeats 8000000 in
set_option maxRecDepth 100000 in
theorem meridianref01_More.calls (k : Nat) (a0 : Int) (A1 : Option Addr) (c1 : Nat) (l1 : List Int) (r : Int) (w : World) (hr1 : Kd.C (Kd.int .u8) w A1 l1.length l1) (hc1 : l1.length ≤ c1) (h : meridianref01_More.f k a0 l1 = some r) :
    Calls Try.prog 74 #[.int .u32 a0, .slice A1 l1.length c1] w fun e w' => e = .returned (.int .u32 r) ∧ Drawn0 w w' := by
  have HR1 := Aside0.mk hr1
  have HC1 := Aside0.mk hc1
  clear hr1 hc1
  have H : (meridianref01_More.l0 k l1 ((4294967295 - a0) % 4294967296) 0) = some r := h
  clear h
  have H' := Aside0.mk H
  clear H
  go_enter Try.func74, Try.ntmps74
  go_wp2
  go_loopg [5, 6] k (fun kq v5 v6 w' => ∃ (x5_1 : Int) (x6_1 : Int), v5 = .int .u32 x5_1 ∧ v6 = .int .i64 x6_1 ∧ Aside0 (meridianref01_More.l0 kq l1 x5_1 x6_1 = some r) ∧ Aside0 (kq ≤ k) ∧ Drawn0 w w')
  case atStart => exact ⟨((4294967295 - a0) % 4294967296), (0), (by first | rfl | (simp; done) | (simp [*]; done)), (by first | rfl | (simp; done) | (simp [*]; done)), H', ⟨Nat.le_refl _⟩, by repeat (first | exact Drawn0.refl _ | apply Drawn0.step)⟩
  case round =>
    clear H'
    try clear c1
    try clear p2
    obtain ⟨x5_1, x6_1, rfl, rfl, HA, HK1, ⟨m1, rfl⟩⟩ := hrel
    cases gk with
    | zero => exact absurd HA.out (by simp [meridianref01_More.l0])
    | succ k1 =>
      have H := HA.out
      clear HA
      simp only [meridianref01_More.l0] at H
      by_cases c3 : x6_1 < (l1.length : Int)
      · rw [if_pos c3] at H
        have c3b0 : decide (x6_1 < (l1.length : Int)) = true := decide_eq_true c3
        clear c3
        by_cases c4 : 0 ≤ x6_1
        · rw [if_pos c4] at H
          have c4b0 : decide (0 ≤ x6_1) = true := decide_eq_true c4
          clear c4
          replace H := Option.bind_eq_some_iff.mp H
          obtain ⟨t540, A50, H⟩ := H
          replace H : (meridianref01_More.l0 k1 l1 t540 (wrap64 (x6_1 + 1))) = some r := H
          have A5 := Aside0.mk A50
          clear A50
          have H' := Aside0.mk H
          clear H
          have p539 : 0 ≤ (x6_1 : Int) := of_decide_eq_true (by first | (with_reducible assumption) | assumption)
          have q539 : x6_1 < (l1.length : Int) := of_decide_eq_true (by first | (with_reducible assumption) | assumption)
          obtain ⟨ad539, e539, hx539_0⟩ := Kd.at_int HR1.out x6_1 p539 q539
          cases e539
          replace p539 := eq_true p539
          replace q539 := eq_true q539
          go_wp2_with (first | ((with_reducible refine gate_callee (f := 82) rfl ?_); refine goesL_ (some 20) rfl rfl Try.func82 (by kernel_rfl) rfl #[.int .u32 x5_1, .int .u8 (rd l1 x6_1)] rfl (by (try simp only [List.map_toArray, List.map_cons, List.map_nil]); first | done | rfl | (simp only [List.length_drop, List.length_take]; rfl)) ?_; (with_reducible refine (meridianref01_Register.calls k1 x5_1 (rd l1 x6_1) t540 _ A5.out).mono ?_); rintro e w' ⟨rfl, ⟨nd, rfl⟩⟩; refine ⟨_, rfl, ?_⟩))
          go_roundg k1
          case measure => have := HK1.out; omega
          case rel => exact ⟨(t540), (wrap64 (x6_1 + 1)), (by first | rfl | (simp; done) | (simp [*]; done)), (by first | rfl | (simp; done) | (simp [*]; done)), H', ⟨by have := HK1.out; omega⟩, by repeat (first | exact Drawn0.refl _ | apply Drawn0.step)⟩
        · rw [if_neg c4] at H
          exact absurd H (by simp)
      · rw [if_neg c3] at H
        have c3b0 : decide (x6_1 < (l1.length : Int)) = false := decide_eq_false c3
        clear c3
        obtain rfl := Option.some.inj H
        go_wp2
        go_ret
        exact ⟨by first | rfl | (simp; done) | (simp [*]; done), by repeat (first | exact Drawn0.refl _ | apply Drawn0.step)⟩

/-! ### meridianref01_Of: function 57 -/
def meridianref01_Of.f (k : Nat) (l0 : List Int) : Option (Int) := (meridianref01_More.f k 0 l0).bind fun t541 => (some t541)
theorem meridianref01_Of.mono : ∀ a0 k, LeO (meridianref01_Of.f k a0) (meridianref01_Of.f (k + 1) a0) := by
  intro a0 k
  unfold meridianref01_Of.f
  repeat' first
      | (with_reducible exact meridianref01_More.mono _ _ _)
      | (with_reducible exact LeO.refl _)
      | (with_reducible exact LeO.none _)
      | (with_reducible refine LeO.ite ?_ ?_)
      | (with_reducible refine LeO.bind ?_ (fun _ => ?_))
      | exact meridianref01_More.mono _ _ _
      | exact LeO.none _
      | refine LeO.ite ?_ ?_
      | refine LeO.bind ?_ (fun _ => ?_)
set_option maxHeartbeats 8000000 in
set_option maxRecDepth 100000 in
theorem meridianref01_Of.calls (k : Nat) (A0 : Option Addr) (c0 : Nat) (l0 : List Int) (r : Int) (w : World) (hr0 : Kd.C (Kd.int .u8) w A0 l0.length l0) (hc0 : l0.length ≤ c0) (h : meridianref01_Of.f k l0 = some r) :
    Calls Try.prog 57 #[.slice A0 l0.length c0] w fun e w' => e = .returned (.int .u32 r) ∧ Drawn0 w w' := by
  have HR0 := Aside0.mk hr0
  have HC0 := Aside0.mk hc0
  clear hr0 hc0
  have H : ((meridianref01_More.f k 0 l0).bind fun t541 => (some t541)) = some r := h
  clear h
  replace H := Option.bind_eq_some_iff.mp H
  obtain ⟨t541, A20, H⟩ := H
  replace H : (some t541) = some r := H
  have A2 := Aside0.mk A20
  clear A20
  obtain rfl := Option.some.inj H
  go_enter Try.func57, Try.ntmps57
  go_wp2_with (first | ((with_reducible refine gate_callee (f := 74) rfl ?_); refine goesL_ (some 4) rfl rfl Try.func74 (by kernel_rfl) rfl #[.int .u32 0, .slice A0 l0.length c0] rfl (by (try simp only [List.map_toArray, List.map_cons, List.map_nil]); first | done | rfl | (simp only [List.length_drop, List.length_take]; rfl)) ?_; (with_reducible refine (meridianref01_More.calls k 0 _ _ l0 t541 _ ?side1 ?side2 A2.out).mono ?_); (case side1 => repeat (first | exact HR0.out | (with_reducible refine Kd.C_alloc ?_ _) | (with_reducible refine Kd.C_drewN ?_ _) | (with_reducible refine Kd.C_drew ?_))); (case side2 => exact HC0.out); rintro e w' ⟨rfl, ⟨nd, rfl⟩⟩; refine ⟨_, rfl, ?_⟩))
  go_ret
  exact ⟨by first | rfl | (simp; done) | (simp [*]; done), by repeat (first | exact Drawn0.refl _ | apply Drawn0.step)⟩

/-! ### meridianref03_Seal: function 24 -/
def meridianref03_Seal.j0 : Nat → List Int → Bool → Option (List Int × Bool)
  | 0, _, _ => none
  | k + 1, x0, x13 => if x13 = true then (some (([] : List Int), false)) else ((meridianref03_Four.f (x0.length : Int)).bind fun t542 => (if t542.length + x0.length < 140737488355328 then ((meridianref03_Four.f (x0.length : Int)).bind fun t548 => ((meridianref01_Of.f k (t542 ++ x0)).bind fun t551 => ((meridianref03_Four.f (wrap64 (t551))).bind fun t552 => (if t548.length + t552.length < 140737488355328 then ((some (t548 ++ t552 : List Int)).bind fun y555 => (if y555.length + x0.length < 140737488355328 then (some ((y555 ++ x0), true)) else (none))) else (none))))) else (none)))
def meridianref03_Seal.f (k : Nat) (l0 : List Int) : Option (List Int × Bool) := if (l0.length : Int) < 1 then (meridianref03_Seal.j0 k l0 true) else (meridianref03_Seal.j0 k l0 (decide ((l0.length : Int) > 65536)))
theorem meridianref03_Seal.mono_l : ∀ k, (∀ y0 y1, LeO (meridianref03_Seal.j0 k y0 y1) (meridianref03_Seal.j0 (k + 1) y0 y1))
  | 0 => fun _ _ r h => by simp [meridianref03_Seal.j0] at h
  | k + 1 => by
    have ih0 := meridianref03_Seal.mono_l k
    · intro y0 y1
      unfold meridianref03_Seal.j0
      repeat' first
      | (with_reducible exact ih0 _ _)
      | (with_reducible exact meridianref01_Of.mono _ _)
      | (with_reducible exact LeO.refl _)
      | (with_reducible exact LeO.none _)
      | (with_reducible refine LeO.ite ?_ ?_)
      | (with_reducible refine LeO.bind ?_ (fun _ => ?_))
      | exact ih0 _ _
      | exact meridianref01_Of.mono _ _
      | exact LeO.none _
      | refine LeO.ite ?_ ?_
      | refine LeO.bind ?_ (fun _ => ?_)
theorem meridianref03_Seal.mono : ∀ a0 k, LeO (meridianref03_Seal.f k a0) (meridianref03_Seal.f (k + 1) a0) := by
  intro a0 k
  have ih0 := meridianref03_Seal.mono_l k
  unfold meridianref03_Seal.f
  repeat' first
      | (with_reducible exact ih0 _ _)
      | (with_reducible exact meridianref01_Of.mono _ _)
      | (with_reducible exact LeO.refl _)
      | (with_reducible exact LeO.none _)
      | (with_reducible refine LeO.ite ?_ ?_)
      | (with_reducible refine LeO.bind ?_ (fun _ => ?_))
      | exact ih0 _ _
      | exact meridianref01_Of.mono _ _
      | exact LeO.none _
      | refine LeO.ite ?_ ?_
      | refine LeO.bind ?_ (fun _ => ?_)
set_option maxHeartbeats 8000000 in
set_option maxRecDepth 100000 in
theorem meridianref03_Seal.calls (k : Nat) (A0 : Option Addr) (c0 : Nat) (l0 : List Int) (r1 : List Int) (r2 : Bool) (w : World) (hr0 : Kd.C (Kd.int .u8) w A0 l0.length l0) (hc0 : l0.length ≤ c0) (h : meridianref03_Seal.f k l0 = some (r1, r2)) :
    Calls Try.prog 24 #[.slice A0 l0.length c0] w fun e w' => ∃ v0_ : Value, e = .returned (.tuple #[v0_, .bool r2]) ∧ Kd.R (Kd.int .u8) 5 w' w.heap.size (fun _ => True) v0_ r1 ∧ Below w.heap.size w w' := by
  have HR0 := Aside0.mk hr0
  have HC0 := Aside0.mk hc0
  clear hr0 hc0
  have HB := Aside0.mk (Below.refl w.heap.size w)
  have H : (if (l0.length : Int) < 1 then (meridianref03_Seal.j0 k l0 true) else (meridianref03_Seal.j0 k l0 (decide ((l0.length : Int) > 65536)))) = some (r1, r2) := h
  clear h
  have HC2 := Aside0.mk H
  clear H
  go_enter Try.func24, Try.ntmps24
  go_upto_region 1 with (fail)
  go_cut [13] (fun v13 wc => ∃ (kq : Nat) (x13_1 : Bool), v13 = .bool x13_1 ∧ Aside0 (meridianref03_Seal.j0 kq l0 x13_1 = some (r1, r2)) ∧ Aside0 (kq ≤ k) ∧ Aside0 (Below w.heap.size w wc))
  case first =>
    have H := HC2.out
    clear HC2
    by_cases c3 : (l0.length : Int) < 1
    · rw [if_pos c3] at H
      have c3b0 : decide ((l0.length : Int) < 1) = true := decide_eq_true c3
      have c3b1 : decide (l0.length < 1) = true := decide_eq_true (by omega)
      clear c3
      (first | rw [c3b0] | (simp only [i64_w, i32_w]; rw [c3b0]) | skip)
      have H' := Aside0.mk H
      clear H
      go_wp2
      go_meet
      case rel => exact ⟨_, (true), (by first | rfl | (simp; done) | (simp [*]; done)), H', ⟨by first | omega | exact Nat.le_refl _⟩, ⟨by repeat (first | (with_reducible first | exact HB.out | apply below_alloc | apply pw_below_drewN | apply below_drew1) | exact HB.out)⟩⟩
    · rw [if_neg c3] at H
      have c3b0 : decide ((l0.length : Int) < 1) = false := decide_eq_false c3
      have c3b1 : decide (l0.length < 1) = false := decide_eq_false (by omega)
      clear c3
      (first | rw [c3b0] | (simp only [i64_w, i32_w]; rw [c3b0]) | skip)
      have H' := Aside0.mk H
      clear H
      go_wp2
      go_meet
      case rel => exact ⟨_, (decide ((l0.length : Int) > 65536)), (by first | rfl | (simp; done) | (simp [*]; done)), H', ⟨by first | omega | exact Nat.le_refl _⟩, ⟨by repeat (first | (with_reducible first | exact HB.out | apply below_alloc | apply pw_below_drewN | apply below_drew1) | exact HB.out)⟩⟩
  case rest =>
    clear HC2
    try clear c2
    try clear p2
    try clear c3
    try clear c3b0
    try clear c3b1
    obtain ⟨kq, x13_1, rfl, HA, HJ1, HB⟩ := hcut
    cases kq with
    | zero => exact absurd HA.out (by simp [meridianref03_Seal.j0])
    | succ kj1 =>
      have H := HA.out
      clear HA
      simp only [meridianref03_Seal.j0] at H
      by_cases c4 : x13_1 = true
      · subst c4
        have H1 : (some (([] : List Int), false)) = some (r1, r2) := by rw [if_pos rfl] at H; exact H
        clear H
        have H := H1
        clear H1
        simp only [Option.some.injEq, Prod.mk.injEq] at H
        obtain ⟨rfl, rfl⟩ := H
        go_wp2
        go_ret2
        exact ⟨_, by first | rfl | (simp [errW_none, errW_some] <;> rfl) | (simp [*, errW_none, errW_some] <;> rfl), by first | exact Kd.R_nil _ _ _ _ _ | exact Kd.N_nil _ _ _ _ _ | exact Kd.V_nil _ _ _ _ _ | exact Kd.Q_nil _ _ _ _ _ | exact Kd.S_nil _ _ _ _ _, by repeat (first | (with_reducible first | exact HB.out | apply below_alloc | apply pw_below_drewN | apply below_drew1) | exact HB.out)⟩
      · replace c4 := Bool.eq_false_iff.mpr c4
        subst c4
        have H1 : ((meridianref03_Four.f (l0.length : Int)).bind fun t542 => (if t542.length + l0.length < 140737488355328 then ((meridianref03_Four.f (l0.length : Int)).bind fun t548 => ((meridianref01_Of.f kj1 (t542 ++ l0)).bind fun t551 => ((meridianref03_Four.f (wrap64 (t551))).bind fun t552 => (if t548.length + t552.length < 140737488355328 then ((some (t548 ++ t552 : List Int)).bind fun y555 => (if y555.length + l0.length < 140737488355328 then (some ((y555 ++ l0), true)) else (none))) else (none))))) else (none))) = some (r1, r2) := by rw [if_neg (show ¬ (false = true) by decide)] at H; exact H
        clear H
        have H := H1
        clear H1
        replace H := Option.bind_eq_some_iff.mp H
        obtain ⟨t542, A50, H⟩ := H
        replace H : (if t542.length + l0.length < 140737488355328 then ((meridianref03_Four.f (l0.length : Int)).bind fun t548 => ((meridianref01_Of.f kj1 (t542 ++ l0)).bind fun t551 => ((meridianref03_Four.f (wrap64 (t551))).bind fun t552 => (if t548.length + t552.length < 140737488355328 then ((some (t548 ++ t552 : List Int)).bind fun y555 => (if y555.length + l0.length < 140737488355328 then (some ((y555 ++ l0), true)) else (none))) else (none))))) else (none)) = some (r1, r2) := H
        have A5 := Aside0.mk A50
        clear A50
        by_cases c6 : t542.length + l0.length < 140737488355328
        · rw [if_pos c6] at H
          have LMc6 := Aside0.mk c6
          clear c6
          obtain ⟨y545, hy545⟩ : ∃ y_ : List Int, y_ = (t542 ++ l0) := ⟨_, rfl⟩
          replace H : ((meridianref03_Four.f (l0.length : Int)).bind fun t548 => ((meridianref01_Of.f kj1 y545).bind fun t551 => ((meridianref03_Four.f (wrap64 (t551))).bind fun t552 => (if t548.length + t552.length < 140737488355328 then ((some (t548 ++ t552 : List Int)).bind fun y555 => (if y555.length + l0.length < 140737488355328 then (some ((y555 ++ l0), true)) else (none))) else (none))))) = some (r1, r2) := by first | (rw [hy545]; with_reducible exact H) | (have H2_ := (Option.bind_some _ _).symm.trans H; rw [hy545]; with_reducible exact H2_) | (have H2_ := (Option.bind_some _ _).symm.trans H; with_reducible exact H2_) | with_reducible exact H | (rw [hy545]; exact H) | exact H
          have Ny545 := Aside0.mk hy545
          clear hy545
          replace H := Option.bind_eq_some_iff.mp H
          obtain ⟨t548, A70, H⟩ := H
          replace H : ((meridianref01_Of.f kj1 y545).bind fun t551 => ((meridianref03_Four.f (wrap64 (t551))).bind fun t552 => (if t548.length + t552.length < 140737488355328 then ((some (t548 ++ t552 : List Int)).bind fun y555 => (if y555.length + l0.length < 140737488355328 then (some ((y555 ++ l0), true)) else (none))) else (none)))) = some (r1, r2) := H
          have A7 := Aside0.mk A70
          clear A70
          replace H := Option.bind_eq_some_iff.mp H
          obtain ⟨t551, A80, H⟩ := H
          replace H : ((meridianref03_Four.f (wrap64 (t551))).bind fun t552 => (if t548.length + t552.length < 140737488355328 then ((some (t548 ++ t552 : List Int)).bind fun y555 => (if y555.length + l0.length < 140737488355328 then (some ((y555 ++ l0), true)) else (none))) else (none))) = some (r1, r2) := H
          have A8 := Aside0.mk A80
          clear A80
          replace H := Option.bind_eq_some_iff.mp H
          obtain ⟨t552, A90, H⟩ := H
          replace H : (if t548.length + t552.length < 140737488355328 then ((some (t548 ++ t552 : List Int)).bind fun y555 => (if y555.length + l0.length < 140737488355328 then (some ((y555 ++ l0), true)) else (none))) else (none)) = some (r1, r2) := H
          have A9 := Aside0.mk A90
          clear A90
          by_cases c10 : t548.length + t552.length < 140737488355328
          · rw [if_pos c10] at H
            have LMc10 := Aside0.mk c10
            clear c10
            obtain ⟨y555, hy555⟩ : ∃ y_ : List Int, y_ = (t548 ++ t552) := ⟨_, rfl⟩
            replace H : (if y555.length + l0.length < 140737488355328 then (some ((y555 ++ l0), true)) else (none)) = some (r1, r2) := by first | (rw [hy555]; with_reducible exact H) | (have H2_ := (Option.bind_some _ _).symm.trans H; rw [hy555]; with_reducible exact H2_) | (have H2_ := (Option.bind_some _ _).symm.trans H; with_reducible exact H2_) | with_reducible exact H | (rw [hy555]; exact H) | exact H
            have Ny555 := Aside0.mk hy555
            clear hy555
            by_cases c11 : y555.length + l0.length < 140737488355328
            · rw [if_pos c11] at H
              have LMc11 := Aside0.mk c11
              clear c11
              obtain ⟨y558, hy558⟩ : ∃ y_ : List Int, y_ = (y555 ++ l0) := ⟨_, rfl⟩
              replace H : (some (y558, true)) = some (r1, r2) := by first | (rw [hy558]; with_reducible exact H) | (have H2_ := (Option.bind_some _ _).symm.trans H; rw [hy558]; with_reducible exact H2_) | (have H2_ := (Option.bind_some _ _).symm.trans H; with_reducible exact H2_) | with_reducible exact H | (rw [hy558]; exact H) | exact H
              have Ny558 := Aside0.mk hy558
              clear hy558
              simp only [Option.some.injEq, Prod.mk.injEq] at H
              obtain ⟨rfl, rfl⟩ := H
              go_wp2_with (first | ((with_reducible refine gate_callee (f := 56) rfl ?_); refine goesL_ (some 16) rfl rfl Try.func56 (by kernel_rfl) rfl #[.int .i64 (l0.length : Int)] rfl (by (try simp only [List.map_toArray, List.map_cons, List.map_nil]); first | done | rfl | (simp only [List.length_drop, List.length_take]; rfl)) ?_; (with_reducible refine (meridianref03_Four.calls (l0.length : Int) t542 _ A5.out).mono ?_); rintro e w12 ⟨v543, rfl, ho0, hb⟩; refine ⟨_, rfl, ?_⟩; have n0_ := Aside0.mk (Kd.R_lower ho0 (below_size (by repeat (first | (with_reducible first | exact HB.out | apply below_alloc | apply pw_below_drewN | apply below_drew1) | exact HB.out)))); have n1_ := Aside0.mk (below_step (by repeat (first | (with_reducible first | exact HB.out | apply below_alloc | apply pw_below_drewN | apply below_drew1) | exact HB.out)) hb); clear HB; have HO544 := n0_; have HB := n1_; clear n0_ n1_; (try clear hb); (try clear hb2); (try clear hk); (try clear hi); (try clear ho0)) | ((with_reducible refine gate_builtin (b := .append) (xs := #[.tmp 16, .tmp 17]) rfl ?_); (try (refine gate_guard (by rfl) ?_; dsimp only)); at_builtin; refine Kd.R_append_rows (Kd.int .u8) (w0 := w) w.heap.size rfl (.tmp 16) (.tmp 17) 37 5 (.int .u8 0) 1 rfl Try.underlying37 info5 rfl (by decide) (by omega) v543 t542 l0 _ _ _ (fun _ => True) (fun _ => False) rfl rfl ?aO ?aR (fun _ _ h => h) (fun _ h => h.elim) ?aF ?aB ?aS ?aL ?_; (case aR => repeat (first | exact (Kd.C_below HR0.out HB.out) | (with_reducible refine Kd.C_alloc ?_ _) | (with_reducible refine Kd.C_drewN ?_ _) | (with_reducible refine Kd.C_drew ?_))); (case aB => exact (by repeat (first | (with_reducible first | exact HB.out | apply below_alloc | apply pw_below_drewN | apply below_drew1) | exact HB.out))); (case aF => exact (fun _ _ => trivial)); (case aO => exact (by (with_reducible repeat (first | apply Kd.R_alloc | apply Kd.R_drewN | apply Kd.R_drew)); exact HO544.out)); (case aS => exact (below_size (by repeat (first | (with_reducible first | exact HB.out | apply below_alloc | apply pw_below_drewN | apply below_drew1) | exact HB.out)))); (case aL => have := LMc6.out; omega); intro v546 w13 ho hb hg hat; rw [← Ny545.out] at ho; have n0_ := Aside0.mk (hb); have n1_ := Aside0.mk (ho); clear HB; clear HO544; have HB := n0_; have HO547 := n1_; clear n0_ n1_; clear ho hb hg hat) | ((with_reducible refine gate_callee (f := 56) rfl ?_); refine goesL_ (some 21) rfl rfl Try.func56 (by kernel_rfl) rfl #[.int .i64 (l0.length : Int)] rfl (by (try simp only [List.map_toArray, List.map_cons, List.map_nil]); first | done | rfl | (simp only [List.length_drop, List.length_take]; rfl)) ?_; (with_reducible refine (meridianref03_Four.calls (l0.length : Int) t548 _ A7.out).mono ?_); rintro e w14 ⟨v549, rfl, ho0, hb⟩; refine ⟨_, rfl, ?_⟩; have n0_ := Aside0.mk (Kd.R_elder' (by (with_reducible repeat (first | apply Kd.R_alloc | apply Kd.R_drewN | apply Kd.R_drew)); exact HO547.out) (Kd.R_base ho0) hb); have n1_ := Aside0.mk (Kd.R_lower (Kd.R_new' ho0 (Kd.R_lt (by (with_reducible repeat (first | apply Kd.R_alloc | apply Kd.R_drewN | apply Kd.R_drew)); exact HO547.out))) (below_size (by repeat (first | (with_reducible first | exact HB.out | apply below_alloc | apply pw_below_drewN | apply below_drew1) | exact HB.out)))); have n2_ := Aside0.mk (below_step (by repeat (first | (with_reducible first | exact HB.out | apply below_alloc | apply pw_below_drewN | apply below_drew1) | exact HB.out)) hb); clear HO547; clear HB; have HO547 := n0_; have HO550 := n1_; have HB := n2_; clear n0_ n1_ n2_; (try clear hb); (try clear hb2); (try clear hk); (try clear hi); (try clear ho0); obtain ⟨Ao15, co15, eo15⟩ := Kd.R_slice HO547.out; subst eo15) | ((with_reducible refine gate_callee (f := 57) rfl ?_); refine goesL_ (some 23) rfl rfl Try.func57 (by kernel_rfl) rfl #[.slice Ao15 y545.length co15] rfl (by (try simp only [List.map_toArray, List.map_cons, List.map_nil]); first | done | rfl | (simp only [List.length_drop, List.length_take]; rfl)) ?_; (with_reducible refine (meridianref01_Of.calls kj1 _ _ y545 t551 _ ?side1 ?side2 A8.out).mono ?_); (case side1 => repeat (first | exact (Kd.R_reads' HO547.out).2.2 | (with_reducible refine Kd.C_alloc ?_ _) | (with_reducible refine Kd.C_drewN ?_ _) | (with_reducible refine Kd.C_drew ?_))); (case side2 => exact (Kd.R_reads' HO547.out).2.1); rintro e w' ⟨rfl, ⟨nd, rfl⟩⟩; refine ⟨_, rfl, ?_⟩) | ((with_reducible refine gate_callee (f := 56) rfl ?_); refine goesL_ (some 25) rfl rfl Try.func56 (by kernel_rfl) rfl #[.int .i64 (wrap64 (t551))] rfl (by (try simp only [List.map_toArray, List.map_cons, List.map_nil]); first | done | rfl | (simp only [List.length_drop, List.length_take]; rfl)) ?_; (with_reducible refine (meridianref03_Four.calls (wrap64 (t551)) t552 _ A9.out).mono ?_); rintro e w16 ⟨v553, rfl, ho0, hb⟩; refine ⟨_, rfl, ?_⟩; have n0_ := Aside0.mk (Kd.R_elder' (by (with_reducible repeat (first | apply Kd.R_alloc | apply Kd.R_drewN | apply Kd.R_drew)); exact HO547.out) (Kd.R_base ho0) hb); have n1_ := Aside0.mk (Kd.R_elder' (by (with_reducible repeat (first | apply Kd.R_alloc | apply Kd.R_drewN | apply Kd.R_drew)); exact HO550.out) (Kd.R_base ho0) hb); have n2_ := Aside0.mk (Kd.R_lower (Kd.R_new' (Kd.R_new' ho0 (Kd.R_lt (by (with_reducible repeat (first | apply Kd.R_alloc | apply Kd.R_drewN | apply Kd.R_drew)); exact HO547.out))) (Kd.R_lt (by (with_reducible repeat (first | apply Kd.R_alloc | apply Kd.R_drewN | apply Kd.R_drew)); exact HO550.out))) (below_size (by repeat (first | (with_reducible first | exact HB.out | apply below_alloc | apply pw_below_drewN | apply below_drew1) | exact HB.out)))); have n3_ := Aside0.mk (below_step (by repeat (first | (with_reducible first | exact HB.out | apply below_alloc | apply pw_below_drewN | apply below_drew1) | exact HB.out)) hb); clear HO547; clear HO550; clear HB; have HO547 := n0_; have HO550 := n1_; have HO554 := n2_; have HB := n3_; clear n0_ n1_ n2_ n3_; (try clear hb); (try clear hb2); (try clear hk); (try clear hi); (try clear ho0); obtain ⟨Ao18, co18, eo18⟩ := Kd.R_slice HO554.out; subst eo18) | ((with_reducible refine gate_builtin (b := .append) (xs := #[.tmp 21, .tmp 25]) rfl ?_); (try (refine gate_guard (by rfl) ?_; dsimp only)); at_builtin; refine Kd.R_append_rows (Kd.int .u8) (w0 := w) w.heap.size rfl (.tmp 21) (.tmp 25) 37 5 (.int .u8 0) 1 rfl Try.underlying37 info5 rfl (by decide) (by omega) v549 t548 t552 _ _ _ (fun k_ => some k_ ≠ (.slice Ao15 y545.length co15 : Value).ownBlock ∧ some k_ ≠ (.slice Ao18 t552.length co18 : Value).ownBlock) (fun _ => False) rfl rfl ?aO ?aR (fun _ _ h => h) (fun _ h => h.elim) ?aF ?aB ?aS ?aL ?_; (case aR => repeat (first | exact (Kd.R_reads' HO554.out).2.2 | (with_reducible refine Kd.C_alloc ?_ _) | (with_reducible refine Kd.C_drewN ?_ _) | (with_reducible refine Kd.C_drew ?_))); (case aB => exact (by repeat (first | (with_reducible first | exact HB.out | apply below_alloc | apply pw_below_drewN | apply below_drew1) | exact HB.out))); (case aF => exact (fun k_ hk => ⟨Kd.fresh' (Kd.R_lt (by (with_reducible repeat (first | apply Kd.R_alloc | apply Kd.R_drewN | apply Kd.R_drew)); exact HO547.out)) k_ hk, Kd.fresh' (Kd.R_lt (by (with_reducible repeat (first | apply Kd.R_alloc | apply Kd.R_drewN | apply Kd.R_drew)); exact HO554.out)) k_ hk⟩)); (case aO => exact (by (with_reducible repeat (first | apply Kd.R_alloc | apply Kd.R_drewN | apply Kd.R_drew)); exact Kd.R_mono HO550.out (fun _ hk => ⟨hk.1.2, hk.2⟩))); (case aS => exact (below_size (by repeat (first | (with_reducible first | exact HB.out | apply below_alloc | apply pw_below_drewN | apply below_drew1) | exact HB.out)))); (case aL => have := LMc10.out; omega); intro v556 w17 ho hb hg hat; rw [← Ny555.out] at ho; have n0_ := Aside0.mk (Kd.R_after (ok := (fun k_ => some k_ ≠ (.slice Ao18 t552.length co18 : Value).ownBlock)) (by (with_reducible repeat (first | apply Kd.R_alloc | apply Kd.R_drewN | apply Kd.R_drew)); exact Kd.R_mono HO547.out (fun _ hk => ⟨hk.2, hk.1.2⟩)) hg hat); have n1_ := Aside0.mk (Kd.R_after (ok := (fun k_ => some k_ ≠ (.slice Ao15 y545.length co15 : Value).ownBlock)) (by (with_reducible repeat (first | apply Kd.R_alloc | apply Kd.R_drewN | apply Kd.R_drew)); exact Kd.R_mono HO554.out (fun _ hk => ⟨hk.1.2, hk.2⟩)) hg hat); have n2_ := Aside0.mk (hb); have n3_ := Aside0.mk (ho); clear HO547; clear HO554; clear HB; clear HO550; have HO547 := n0_; have HO554 := n1_; have HB := n2_; have HO557 := n3_; clear n0_ n1_ n2_ n3_; clear ho hb hg hat) | ((with_reducible refine gate_builtin (b := .append) (xs := #[.tmp 27, .tmp 28]) rfl ?_); (try (refine gate_guard (by rfl) ?_; dsimp only)); at_builtin; refine Kd.R_append_rows (Kd.int .u8) (w0 := w) w.heap.size rfl (.tmp 27) (.tmp 28) 37 5 (.int .u8 0) 1 rfl Try.underlying37 info5 rfl (by decide) (by omega) v556 y555 l0 _ _ _ (fun k_ => some k_ ≠ (.slice Ao15 y545.length co15 : Value).ownBlock ∧ some k_ ≠ (.slice Ao18 t552.length co18 : Value).ownBlock) (fun _ => False) rfl rfl ?aO ?aR (fun _ _ h => h) (fun _ h => h.elim) ?aF ?aB ?aS ?aL ?_; (case aR => repeat (first | exact (Kd.C_below HR0.out HB.out) | (with_reducible refine Kd.C_alloc ?_ _) | (with_reducible refine Kd.C_drewN ?_ _) | (with_reducible refine Kd.C_drew ?_))); (case aB => exact (by repeat (first | (with_reducible first | exact HB.out | apply below_alloc | apply pw_below_drewN | apply below_drew1) | exact HB.out))); (case aF => exact (fun k_ hk => ⟨Kd.fresh' (Kd.R_lt (by (with_reducible repeat (first | apply Kd.R_alloc | apply Kd.R_drewN | apply Kd.R_drew)); exact HO547.out)) k_ hk, Kd.fresh' (Kd.R_lt (by (with_reducible repeat (first | apply Kd.R_alloc | apply Kd.R_drewN | apply Kd.R_drew)); exact HO554.out)) k_ hk⟩)); (case aO => exact (by (with_reducible repeat (first | apply Kd.R_alloc | apply Kd.R_drewN | apply Kd.R_drew)); exact HO557.out)); (case aS => exact (below_size (by repeat (first | (with_reducible first | exact HB.out | apply below_alloc | apply pw_below_drewN | apply below_drew1) | exact HB.out)))); (case aL => have := LMc11.out; omega); intro v559 w19 ho hb hg hat; rw [← Ny558.out] at ho; have n0_ := Aside0.mk (Kd.R_after (ok := (fun k_ => some k_ ≠ (.slice Ao18 t552.length co18 : Value).ownBlock)) (by (with_reducible repeat (first | apply Kd.R_alloc | apply Kd.R_drewN | apply Kd.R_drew)); exact HO547.out) hg hat); have n1_ := Aside0.mk (Kd.R_after (ok := (fun k_ => some k_ ≠ (.slice Ao15 y545.length co15 : Value).ownBlock)) (by (with_reducible repeat (first | apply Kd.R_alloc | apply Kd.R_drewN | apply Kd.R_drew)); exact HO554.out) hg hat); have n2_ := Aside0.mk (hb); have n3_ := Aside0.mk (ho); clear HO547; clear HO554; clear HB; clear HO557; have HO547 := n0_; have HO554 := n1_; have HB := n2_; have HO560 := n3_; clear n0_ n1_ n2_ n3_; clear ho hb hg hat))
              go_ret2
              exact ⟨_, by first | rfl | (simp [errW_none, errW_some] <;> rfl) | (simp [*, errW_none, errW_some] <;> rfl), by (with_reducible repeat (first | apply Kd.R_alloc | apply Kd.R_drewN | apply Kd.R_drew)); exact Kd.R_mono HO560.out (fun _ hk => trivial), by repeat (first | (with_reducible first | exact HB.out | apply below_alloc | apply pw_below_drewN | apply below_drew1) | exact HB.out)⟩
            · rw [if_neg c11] at H
              exact absurd H (by simp)
          · rw [if_neg c10] at H
            exact absurd H (by simp)
        · rw [if_neg c6] at H
          exact absurd H (by simp)

/-! ### meridianref01_Same: function 14 -/
def meridianref01_Same.f (l0 : List Int) (l1 : List Int) : Option (Bool) := some ((strOfNums l0).toList == (strOfNums l1).toList)
set_option maxHeartbeats 8000000 in
set_option maxRecDepth 100000 in
theorem meridianref01_Same.calls (A0 : Option Addr) (c0 : Nat) (l0 : List Int) (A1 : Option Addr) (c1 : Nat) (l1 : List Int) (r : Bool) (w : World) (hr0 : Kd.C (Kd.int .u8) w A0 l0.length l0) (hc0 : l0.length ≤ c0) (hr1 : Kd.C (Kd.int .u8) w A1 l1.length l1) (hc1 : l1.length ≤ c1) (h : meridianref01_Same.f l0 l1 = some r) :
    Calls Try.prog 14 #[.slice A0 l0.length c0, .slice A1 l1.length c1] w fun e w' => e = .returned (.bool r) ∧ Drawn0 w w' := by
  have HR0 := Aside0.mk hr0
  have HC0 := Aside0.mk hc0
  clear hr0 hc0
  have HR1 := Aside0.mk hr1
  have HC1 := Aside0.mk hc1
  clear hr1 hc1
  have H : (some ((strOfNums l0).toList == (strOfNums l1).toList)) = some r := h
  clear h
  obtain rfl := Option.some.inj H
  have hcv3 := Kd.C_string (P := Try.prog) (A := A0) (c := c0) Try.underlying37 Try.underlying5 Try.underlying9 HR0.out
  have hcv4 := Kd.C_string (P := Try.prog) (A := A1) (c := c1) Try.underlying37 Try.underlying5 Try.underlying9 HR1.out
  go_enter Try.func14, Try.ntmps14
  go_wp2
  go_ret
  exact ⟨by first | rfl | (simp; done) | (simp [*]; done), by repeat (first | exact Drawn0.refl _ | apply Drawn0.step)⟩

end Go.Proofs.Ytcbehfbfaonanaa.PFr
end

/- Plain laws of the sum: the register as 32 bits, a byte as eight single steps; what More, Of and the reference come to. -/
section
namespace Go.Proofs.Ytcbehfbfaonanaa.PFr
open Go.RowKit Go.Proofs.YtcbehfbfaonanaaW.PrintWords Go.Proofs.YtcbehfbfaonanaaW.PrintLast Go.Proofs.YtcbehfbfaonanaaW.PrintMore
set_option linter.unusedVariables false
set_option linter.unusedSimpArgs false

abbrev B := BitVec 32
def V (r : B) : Int := (r.toNat : Int)
theorem V_lt (r : B) : 0 ≤ V r ∧ V r < 4294967296 := by unfold V; have := r.isLt; omega
theorem V_inj {a b : B} (h : V a = V b) : a = b := by unfold V at h; exact BitVec.eq_of_toNat_eq (by omega)
theorem ofInt_V (r : B) : BitVec.ofInt 32 (V r) = r := by
  unfold V
  rw [BitVec.ofInt_natCast]
  simp
theorem V_ofInt {x : Int} (h0 : 0 ≤ x) (h1 : x < 4294967296) : V (BitVec.ofInt 32 x) = x := by
  unfold V
  rw [BitVec.toNat_ofInt]
  omega
theorem V_of {x : Int} (h0 : 0 ≤ x) (h1 : x < 4294967296) : ∃ r, x = V r := ⟨_, (V_ofInt h0 h1).symm⟩
theorem V_xor (a b : B) : Go.bits .xor .u32 (V a) (V b) = V (a ^^^ b) := by
  show IntKind.u32.wrap (((BitVec.ofInt 32 (V a) ^^^ BitVec.ofInt 32 (V b)).toNat : Nat) : Int) = _
  rw [ofInt_V, ofInt_V, IntKind.wrap_u32]
  have := V_lt (a ^^^ b)
  unfold V at *
  omega
theorem V_and (a b : B) : Go.bits .and .u32 (V a) (V b) = V (a &&& b) := by
  show IntKind.u32.wrap (((BitVec.ofInt 32 (V a) &&& BitVec.ofInt 32 (V b)).toNat : Nat) : Int) = _
  rw [ofInt_V, ofInt_V, IntKind.wrap_u32]
  have := V_lt (a &&& b)
  unfold V at *
  omega
theorem V_div16 (a : B) : (V a / (16 : Int) : Int) = V (a >>> 4) := by
  unfold V
  rw [BitVec.toNat_ushiftRight, Nat.shiftRight_eq_div_pow]
  omega
theorem V_ones : (4294967295 : Int) = V (BitVec.allOnes 32) := by decide
theorem V_15 : (15 : Int) = V 15#32 := by decide
theorem V_not (a : B) : Go.bits .xor .u32 4294967295 (V a) = V (~~~ a) := by
  rw [V_ones, V_xor, BitVec.allOnes_xor]

/-- one step of the register -/
def bit (a : B) : B := if a.getLsbD 0 then (a >>> 1) ^^^ 0xEDB88320#32 else a >>> 1
theorem bit_xor (a b : B) : bit (a ^^^ b) = bit a ^^^ bit b := by
  unfold bit
  rw [BitVec.getLsbD_xor, BitVec.ushiftRight_xor_distrib]
  cases a.getLsbD 0 <;> cases b.getLsbD 0 <;> simp
  · rw [BitVec.xor_assoc]
  · rw [BitVec.xor_assoc, BitVec.xor_assoc, BitVec.xor_comm 0xEDB88320#32]
  · rw [show a >>> 1 ^^^ 0xEDB88320#32 ^^^ (b >>> 1 ^^^ 0xEDB88320#32) = a >>> 1 ^^^ b >>> 1 ^^^ (0xEDB88320#32 ^^^ 0xEDB88320#32) from by ac_rfl]
    simp
def bits4 (a : B) : B := bit (bit (bit (bit a)))
def bits8 (a : B) : B := bits4 (bits4 a)
theorem bits4_xor (a b : B) : bits4 (a ^^^ b) = bits4 a ^^^ bits4 b := by unfold bits4; simp only [bit_xor]
theorem bits8_xor (a b : B) : bits8 (a ^^^ b) = bits8 a ^^^ bits8 b := by unfold bits8; simp only [bits4_xor]
def tabB (j : Nat) : B := match j with
  | 0 => 0 | 1 => 498536548 | 2 => 997073096 | 3 => 651767980 | 4 => 1994146192 | 5 => 1802195444 | 6 => 1303535960 | 7 => 1342533948 | 8 => 3988292384 | 9 => 4027552580
  | 10 => 3604390888 | 11 => 3412177804 | 12 => 2607071920 | 13 => 2262029012 | 14 => 2685067896 | _ => 3183342108
theorem tabB_is (j : Nat) (hj : j < 16) : bits4 (BitVec.ofNat 32 j) = tabB j ∧ sum_half.t.getD j 0 = V (tabB j) := by
  have : ∀ j : Fin 16, bits4 (BitVec.ofNat 32 j.val) = tabB j.val ∧ sum_half.t.getD j.val 0 = V (tabB j.val) := by decide +kernel
  exact this ⟨j, hj⟩
theorem low_shift (a : B) (h : a &&& 15#32 = 0#32) : bits4 a = a >>> 4 := by
  have key : ∀ i, i < 4 → a.getLsbD i = false := by
    intro i hi
    have h1 : (a &&& 15#32).getLsbD i = false := by rw [h]; simp
    rw [BitVec.getLsbD_and] at h1
    have h2 : (15#32 : B).getLsbD i = true := by
      have : ∀ i : Fin 4, (15#32 : B).getLsbD i.val = true := by decide
      exact this ⟨i, hi⟩
    simpa [h2] using h1
  have s1 : ∀ b : B, b.getLsbD 0 = false → bit b = b >>> 1 := fun b hb => by unfold bit; rw [hb]; rfl
  unfold bits4
  rw [s1 a (key 0 (by omega))]
  rw [s1 (a >>> 1) (by rw [BitVec.getLsbD_ushiftRight]; exact key 1 (by omega))]
  rw [← BitVec.shiftRight_add, s1 (a >>> (1 + 1)) (by rw [BitVec.getLsbD_ushiftRight]; exact key 2 (by omega))]
  rw [← BitVec.shiftRight_add, s1 (a >>> (1 + 1 + 1)) (by rw [BitVec.getLsbD_ushiftRight]; exact key 3 (by omega))]
  rw [← BitVec.shiftRight_add]
theorem nib (a : B) : (a >>> 4) ^^^ tabB (a &&& 15#32).toNat = bits4 a := by
  have h15 : (a &&& 15#32).toNat < 16 := by
    rw [BitVec.toNat_and]
    have : (15#32 : B).toNat = 2 ^ 4 - 1 := by decide
    rw [this, Nat.and_two_pow_sub_one_eq_mod]
    omega
  obtain ⟨t1, _⟩ := tabB_is _ h15
  have e : BitVec.ofNat 32 (a &&& 15#32).toNat = a &&& 15#32 := by simp
  rw [e] at t1
  have hx : a = (a ^^^ (a &&& 15#32)) ^^^ (a &&& 15#32) := by rw [BitVec.xor_assoc]; simp
  have hz : (a ^^^ (a &&& 15#32)) &&& 15#32 = 0#32 := by
    ext i hi
    simp
  conv => rhs; rw [hx]
  rw [bits4_xor, low_shift _ hz, t1, BitVec.ushiftRight_xor_distrib]
  have : (a &&& 15#32) >>> 4 = 0#32 := by
    apply BitVec.eq_of_toNat_eq
    rw [BitVec.toNat_ushiftRight, Nat.shiftRight_eq_div_pow]
    simp only [BitVec.toNat_ofNat]
    all_goals omega
  rw [this]
  simp
theorem half_V (a : B) : sum_half.f (V a) = some (V (tabB (a &&& 15#32).toNat)) := by
  unfold sum_half.f
  rw [V_15, V_and]
  have h15 : (a &&& 15#32).toNat < 16 := by
    rw [BitVec.toNat_and]
    have : (15#32 : B).toNat = 2 ^ 4 - 1 := by decide
    rw [this, Nat.and_two_pow_sub_one_eq_mod]
    omega
  rw [← (tabB_is _ h15).2]
  unfold V
  rw [Int.toNat_natCast]

/-- a byte's step, and a text's -/
def byt (r : B) (c : Int) : B := bits8 (r ^^^ BitVec.ofInt 32 c)
def reg (r : B) (l : List Int) : B := l.foldl byt r
def IsB (x : Int) : Prop := 0 ≤ x ∧ x < 256
theorem reg_cons (r : B) (c : Int) (l : List Int) : reg r (c :: l) = reg (byt r c) l := rfl
theorem reg_append (r : B) (a b : List Int) : reg r (a ++ b) = reg (reg r a) b := by unfold reg; rw [List.foldl_append]

theorem drop_rd (l : List Int) (i : Nat) (h : i < l.length) : l.drop i = rd l i :: l.drop (i + 1) := by
  rw [List.drop_eq_getElem_cons h]
  unfold rd
  rw [Int.toNat_natCast, List.getD_eq_getElem?_getD, List.getElem?_eq_getElem h]
  rfl
theorem w64 {x : Int} (h : -9223372036854775808 ≤ x) (h2 : x ≤ 9223372036854775807) : wrap64 x = x := by unfold wrap64; omega

theorem more_l0 (l : List Int) (hb : ∀ x ∈ l, IsB x) (hl : l.length ≤ 1000000000000000000) (d : Nat) : ∀ (i : Nat) (r : B), i + d = l.length →
    Ev (fun k => sum_More.l0 k (V r) l (l.length : Int) (i : Int)) (V (~~~ reg r (l.drop i))) := by
  induction d with
  | zero =>
    intro i r hi
    refine Ev.step (f := fun _ => some (V (~~~ r))) (fun k => ?_) ?_
    · simp only [sum_More.l0]; rw [if_neg (by omega), V_not]
    · rw [List.drop_eq_nil_of_le (by omega)]; exact Ev.now _
  | succ d ih =>
    intro i r hi
    have hlt : i < l.length := by omega
    have hm : rd l i ∈ l := by
      have : rd l i :: l.drop (i + 1) = l.drop i := (drop_rd l i hlt).symm
      exact List.mem_of_mem_drop (i := i) (by rw [← this]; exact List.mem_cons_self)
    obtain ⟨b0, b1⟩ := hb _ hm
    rw [drop_rd l i hlt, reg_cons]
    refine Ev.step (fun k => ?_) (ih (i + 1) (byt r (rd l i)) (by omega))
    simp only [sum_More.l0]
    rw [if_pos (by omega), if_pos (by omega), if_pos (by omega)]
    obtain ⟨c, hc⟩ := V_of (x := rd l i) b0 (by omega)
    have e1 : rd l i % 4294967296 = V c := by rw [hc] at b0 b1 ⊢; omega
    rw [e1, V_xor, half_V, Option.bind_some, V_div16, V_xor, nib, half_V, Option.bind_some, V_div16, V_xor, nib, w64 (by omega) (by omega)]
    unfold byt bits8
    rw [hc, ofInt_V]
    rfl

theorem more_f (l : List Int) (hb : ∀ x ∈ l, IsB x) (hl : l.length ≤ 1000000000000000000) (s : B) : Ev (fun k => sum_More.f k (V s) l) (V (~~~ reg (~~~ s) l)) := by
  unfold sum_More.f
  rw [V_not]
  exact more_l0 l hb hl l.length 0 (~~~ s) (by omega)
theorem of_f (l : List Int) (hb : ∀ x ∈ l, IsB x) (hl : l.length ≤ 1000000000000000000) : Ev (fun k => sum_Of.f k l) (V (~~~ reg (BitVec.allOnes 32) l)) := by
  unfold sum_Of.f
  refine Ev.bind (a := V (~~~ reg (BitVec.allOnes 32) l)) ?_ (Ev.now _)
  have := more_f l hb hl 0#32
  rw [show V 0#32 = 0 from rfl] at this
  rw [show (~~~ (0#32 : B)) = BitVec.allOnes 32 from by decide] at this
  exact this
end Go.Proofs.Ytcbehfbfaonanaa.PFr
end


/- Plain laws of the frame: a number in four bytes and back; join; Seal and the reference's Seal make the same frame. -/
section
namespace Go.Proofs.Ytcbehfbfaonanaa.PFr
open Go.RowKit Go.Proofs.YtcbehfbfaonanaaW.PrintWords Go.Proofs.YtcbehfbfaonanaaW.PrintLast Go.Proofs.YtcbehfbfaonanaaW.PrintMore
set_option linter.unusedVariables false
set_option linter.unusedSimpArgs false

/-- a number in four bytes, and back -/
def num4 (a : Int) : List Int := [(a / 16777216) % 256, (a / 65536) % 256, (a / 256) % 256, a % 256]
def val4 (l : List Int) : Int := rd l 0 * 16777216 + rd l 1 * 65536 + rd l 2 * 256 + rd l 3
theorem num4_isB (a : Int) : ∀ x ∈ num4 a, IsB x := by
  intro x hx
  unfold num4 at hx
  simp at hx
  unfold IsB
  omega
theorem num4_length (a : Int) : (num4 a).length = 4 := rfl
theorem rd_app (a : Int) (t : List Int) : rd (num4 a ++ t) 0 = (a / 16777216) % 256 ∧ rd (num4 a ++ t) 1 = (a / 65536) % 256 ∧ rd (num4 a ++ t) 2 = (a / 256) % 256 ∧ rd (num4 a ++ t) 3 = a % 256 := ⟨rfl, rfl, rfl, rfl⟩
theorem val4_num4 {a : Int} (h0 : 0 ≤ a) (h1 : a < 4294967296) (t : List Int) : val4 (num4 a ++ t) = a := by
  unfold val4
  obtain ⟨e0, e1, e2, e3⟩ := rd_app a t
  rw [e0, e1, e2, e3]
  omega
theorem num4_val4 {l : List Int} (hb : ∀ x ∈ l, IsB x) (h : 4 ≤ l.length) : num4 (val4 l) = l.take 4 ∧ 0 ≤ val4 l ∧ val4 l < 4294967296 := by
  match l, h with
  | a :: b :: c :: d :: t, _ =>
    have ha := hb a (by simp)
    have hb' := hb b (by simp)
    have hc := hb c (by simp)
    have hd := hb d (by simp)
    unfold IsB at ha hb' hc hd
    have e : val4 (a :: b :: c :: d :: t) = a * 16777216 + b * 65536 + c * 256 + d := rfl
    rw [e]
    refine ⟨?_, by omega, by omega⟩
    unfold num4
    rw [show (a * 16777216 + b * 65536 + c * 256 + d) / 16777216 % 256 = a from by omega, show (a * 16777216 + b * 65536 + c * 256 + d) / 65536 % 256 = b from by omega, show (a * 16777216 + b * 65536 + c * 256 + d) / 256 % 256 = c from by omega, show (a * 16777216 + b * 65536 + c * 256 + d) % 256 = d from by omega]
    rfl
theorem four_f (a : Int) : frame_four.f a = some (num4 a) := rfl
theorem or_add {a b : Nat} (i : Nat) (hb : b < 2 ^ i) (ha : a * 2 ^ i < 4294967296) (hb2 : b < 4294967296) : Go.bits .or .u32 ((a * 2 ^ i : Nat) : Int) (b : Int) = ((a * 2 ^ i + b : Nat) : Int) := by
  show IntKind.u32.wrap (((BitVec.ofInt 32 ((a * 2 ^ i : Nat) : Int) ||| BitVec.ofInt 32 (b : Int)).toNat : Nat) : Int) = _
  rw [Go.IntKind.wrap_u32, BitVec.toNat_or, BitVec.ofInt_natCast, BitVec.ofInt_natCast, BitVec.toNat_ofNat, BitVec.toNat_ofNat, Nat.mod_eq_of_lt (by omega : a * 2 ^ i < 2 ^ 32), Nat.mod_eq_of_lt (by omega : b < 2 ^ 32)]
  rw [← Nat.shiftLeft_eq, ← Nat.shiftLeft_add_eq_or_of_lt hb, Nat.shiftLeft_eq]
  have hlt : a * 2 ^ i + b < 4294967296 := by
    have hor : a <<< i + b = a <<< i ||| b := Nat.shiftLeft_add_eq_or_of_lt hb a
    have h32 : a <<< i ||| b < 2 ^ 32 := Nat.or_lt_two_pow (by rw [Nat.shiftLeft_eq]; omega) (by omega)
    rw [← hor, Nat.shiftLeft_eq] at h32
    omega
  omega
theorem number_f {l : List Int} (hb : ∀ x ∈ l, IsB x) (h : 4 ≤ l.length) : frame_number.f l = some (val4 l) := by
  match l, h with
  | x0 :: x1 :: x2 :: x3 :: t, _ =>
    have h0 := hb x0 (by simp)
    have h1 := hb x1 (by simp)
    have h2 := hb x2 (by simp)
    have h3 := hb x3 (by simp)
    unfold IsB at h0 h1 h2 h3
    unfold frame_number.f
    have e : val4 (x0 :: x1 :: x2 :: x3 :: t) = x0 * 16777216 + x1 * 65536 + x2 * 256 + x3 := rfl
    have r0 : rd (x0 :: x1 :: x2 :: x3 :: t) 0 = x0 := rfl
    have r1 : rd (x0 :: x1 :: x2 :: x3 :: t) 1 = x1 := rfl
    have r2 : rd (x0 :: x1 :: x2 :: x3 :: t) 2 = x2 := rfl
    have r3 : rd (x0 :: x1 :: x2 :: x3 :: t) 3 = x3 := rfl
    simp only [List.length_cons]
    rw [if_pos (by omega), if_pos (by omega), if_pos (by omega), if_pos (by omega), e, r0, r1, r2, r3]
    obtain ⟨a, rfl⟩ := Int.eq_ofNat_of_zero_le h0.1
    obtain ⟨b, rfl⟩ := Int.eq_ofNat_of_zero_le h1.1
    obtain ⟨c, rfl⟩ := Int.eq_ofNat_of_zero_le h2.1
    obtain ⟨d, rfl⟩ := Int.eq_ofNat_of_zero_le h3.1
    rw [show ((a : Int) % 4294967296) * 16777216 % 4294967296 = ((a * 2 ^ 24 : Nat) : Int) from by omega, show ((b : Int) % 4294967296) * 65536 % 4294967296 = ((b * 65536 : Nat) : Int) from by omega,
      show ((c : Int) % 4294967296) * 256 % 4294967296 = ((c * 256 : Nat) : Int) from by omega, show ((d : Int) % 4294967296) = (d : Int) from by omega]
    rw [or_add 24 (by omega) (by omega) (by omega)]
    rw [show a * 2 ^ 24 + b * 65536 = (a * 256 + b) * 2 ^ 16 from by omega, or_add 16 (by omega) (by omega) (by omega)]
    rw [show (a * 256 + b) * 2 ^ 16 + c * 256 = ((a * 256 + b) * 256 + c) * 2 ^ 8 from by omega, or_add 8 (by omega) (by omega) (by omega)]
    refine congrArg some ?_
    have e2 : ((a * 256 + b) * 256 + c) * 2 ^ 8 + d = a * 16777216 + b * 65536 + c * 256 + d := by omega
    rw [e2]
    simp only [Int.natCast_add, Int.natCast_mul]
    rfl

/-- the pieces of a list of texts, one behind the other -/
theorem join_l0 (L : List (List Int)) (hs : (L.map List.length).sum < 140737488355328) (hL : L.length < 1000000000000) (d : Nat) : ∀ (i : Nat) (acc : List Int), i + d = L.length → acc.length + ((L.drop i).map List.length).sum < 140737488355328 →
    Ev (fun k => frame_join.l0 k acc L (L.length : Int) (i : Int)) (acc ++ (L.drop i).flatten) := by
  induction d with
  | zero =>
    intro i acc hi _
    refine Ev.step (f := fun _ => some acc) (fun k => ?_) ?_
    · simp only [frame_join.l0]; rw [if_neg (by omega)]
    · rw [List.drop_eq_nil_of_le (by omega), List.flatten_nil, List.append_nil]; exact Ev.now _
  | succ d ih =>
    intro i acc hi hacc
    have hlt : i < L.length := by omega
    have e : L.drop i = rd_L10 L i :: L.drop (i + 1) := by
      rw [List.drop_eq_getElem_cons hlt]
      unfold rd_L10
      rw [Int.toNat_natCast, List.getD_eq_getElem?_getD, List.getElem?_eq_getElem hlt]
      rfl
    rw [e] at hacc ⊢
    rw [List.map_cons, List.sum_cons] at hacc
    rw [List.flatten_cons, ← List.append_assoc]
    refine Ev.step (fun k => ?_) (ih (i + 1) (acc ++ rd_L10 L i) (by omega) (by rw [List.length_append]; omega))
    simp only [frame_join.l0]
    rw [if_pos (by omega), if_pos (by omega), if_pos (by omega), if_pos (by omega), w64 (by omega) (by omega)]
    rfl
theorem join_f (L : List (List Int)) (hs : (L.map List.length).sum < 140737488355328) (hL : L.length < 1000000000000) : Ev (fun k => frame_join.f k L) L.flatten := by
  unfold frame_join.f
  have := join_l0 L hs hL L.length 0 [] (by omega) (by simpa using hs)
  simpa using this

/-- a text's sum; a frame -/
def crc (l : List Int) : Int := V (~~~ reg (BitVec.allOnes 32) l)
def sealL (p : List Int) : List Int := num4 (p.length : Int) ++ num4 (crc (num4 (p.length : Int) ++ p)) ++ p
abbrev Ok (p : List Int) : Prop := 1 ≤ p.length ∧ p.length ≤ 65536
theorem crc_range (l : List Int) : 0 ≤ crc l ∧ crc l < 4294967296 := V_lt _
theorem sealL_length (p : List Int) : (sealL p).length = 8 + p.length := by
  unfold sealL
  rw [List.length_append, List.length_append, num4_length, num4_length]
theorem sealL_isB {p : List Int} (hb : ∀ x ∈ p, IsB x) : ∀ x ∈ sealL p, IsB x := by
  intro x hx
  unfold sealL at hx
  rw [List.mem_append, List.mem_append] at hx
  rcases hx with (h | h) | h
  · exact num4_isB _ x h
  · exact num4_isB _ x h
  · exact hb x h
theorem app_isB {a b : List Int} (ha : ∀ x ∈ a, IsB x) (hb : ∀ x ∈ b, IsB x) : ∀ x ∈ a ++ b, IsB x := by
  intro x hx
  rcases List.mem_append.mp hx with h | h
  · exact ha x h
  · exact hb x h
theorem take_isB {a : List Int} (ha : ∀ x ∈ a, IsB x) (n : Nat) : ∀ x ∈ a.take n, IsB x := fun x hx => ha x (List.mem_of_mem_take hx)
theorem drop_isB {a : List Int} (ha : ∀ x ∈ a, IsB x) (n : Nat) : ∀ x ∈ a.drop n, IsB x := fun x hx => ha x (List.mem_of_mem_drop hx)
theorem crc2 {a p : List Int} (ha : ∀ x ∈ a, IsB x) (hp : ∀ x ∈ p, IsB x) (hl : a.length ≤ 1000000) (hl2 : p.length ≤ 1000000000000000) :
    ∀ {β : Type} {g : Nat → Int → Option β} {r : β}, Ev (fun k => g k (crc (a ++ p))) r → Ev (fun k => (sum_Of.f k a).bind fun t => (sum_More.f k t p).bind fun t2 => g k t2) r := by
  intro β g r h
  refine Ev.bind (f := fun k t => (sum_More.f k t p).bind fun t2 => g k t2) (of_f a ha (by omega)) ?_
  refine Ev.bind (f := fun k t2 => g k t2) (more_f p hp (by omega) _) ?_
  have e : V (~~~ reg (~~~ ~~~ reg (BitVec.allOnes 32) a) p) = crc (a ++ p) := by
    unfold crc
    rw [reg_append, BitVec.not_not]
  rw [e]
  exact h
theorem seal_f {p : List Int} (hb : ∀ x ∈ p, IsB x) (hl : p.length ≤ 140737488351232) : Ev (fun k => frame_Seal.f k p) (if Ok p then (sealL p, 0) else ([], 1)) := by
  unfold frame_Seal.f
  by_cases h0 : p.length = 0
  · rw [if_neg (by unfold Ok; omega)]
    refine Ev.step (f := fun _ => some ([], 1)) (fun k => ?_) (Ev.now _)
    rw [if_pos (by omega)]
    simp [frame_Seal.j0]
  by_cases h1 : p.length > 65536
  · rw [if_neg (by unfold Ok; omega)]
    refine Ev.step (f := fun _ => some ([], 1)) (fun k => ?_) (Ev.now _)
    rw [if_neg (by omega), decide_eq_true (by omega : (p.length : Int) > 65536)]
    simp [frame_Seal.j0]
  rw [if_pos (by unfold Ok; omega)]
  refine Ev.step (f := fun k => (sum_Of.f k (num4 (p.length : Int))).bind fun t115 => ((sum_More.f k t115 p).bind fun t116 => ((frame_four.f t116).bind fun t117 => ((frame_join.f k (([num4 (p.length : Int), t117, p] : List (List Int)))).bind fun t123 => (some (t123, (0 : Int))))))) (fun k => ?_) ?_
  · rw [if_neg (by omega), decide_eq_false (by omega)]
    simp only [frame_Seal.j0]
    rw [if_neg (by decide), four_f, Option.bind_some, show (p.length : Int) % 4294967296 = (p.length : Int) from by omega]
  refine crc2 (num4_isB _) hb (by rw [num4_length]; omega) (by omega) (g := fun k t116 => ((frame_four.f t116).bind fun t117 => ((frame_join.f k (([num4 (p.length : Int), t117, p] : List (List Int)))).bind fun t123 => (some (t123, (0 : Int)))))) ?_
  refine Ev.congr (f := fun k => (frame_join.f k [num4 (p.length : Int), num4 (crc (num4 (p.length : Int) ++ p)), p]).bind fun t123 => (some (t123, (0 : Int)))) (fun k => by rw [four_f, Option.bind_some]) ?_
  refine Ev.bind (f := fun _ t123 => some (t123, (0 : Int))) (join_f [num4 (p.length : Int), num4 (crc (num4 (p.length : Int) ++ p)), p] ?_ ?_) ?_
  · simp only [List.map_cons, List.map_nil, List.sum_cons, List.sum_nil, num4_length]; omega
  · simp
  · have : List.flatten [num4 (p.length : Int), num4 (crc (num4 (p.length : Int) ++ p)), p] = sealL p := by
      unfold sealL
      simp
    rw [this]
    exact Ev.now _
end Go.Proofs.Ytcbehfbfaonanaa.PFr
end

/- Plain laws of the frame: Open, Cut, and the reference's: one answer. -/
section
namespace Go.Proofs.Ytcbehfbfaonanaa.PFr
open Go.RowKit Go.Proofs.YtcbehfbfaonanaaW.PrintWords Go.Proofs.YtcbehfbfaonanaaW.PrintLast Go.Proofs.YtcbehfbfaonanaaW.PrintMore
set_option linter.unusedVariables false
set_option linter.unusedSimpArgs false

def openL (b : List Int) : Option (List Int) := if Ok (b.drop 8) ∧ b = sealL (b.drop 8) then some (b.drop 8) else none
def firstL (l : List Int) : Option (List Int) := if 9 ≤ l.length ∧ val4 l ≤ (l.length : Int) - 8 then openL (l.take (8 + val4 l).toNat) else none
def ans (o : Option (List Int)) : List Int × Bool := match o with | some p => (p, true) | none => ([], false)
def ansE (o : Option (List Int)) : List Int × Int := match o with | some p => (p, 0) | none => ([], 2)
theorem openL_some {b p : List Int} (h : openL b = some p) : Ok p ∧ b = sealL p ∧ p = b.drop 8 := by
  unfold openL at h
  split at h
  · rename_i c
    cases h
    exact ⟨c.1, c.2, rfl⟩
  · cases h
theorem sealL_drop (p : List Int) : (sealL p).drop 8 = p := by unfold sealL num4; rfl
theorem openL_sealL {p : List Int} (h : Ok p) : openL (sealL p) = some p := by
  unfold openL
  rw [sealL_drop, if_pos ⟨h, rfl⟩]
theorem val4_sealL {p : List Int} (h : Ok p) (t : List Int) : val4 (sealL p ++ t) = p.length := by
  unfold Ok at h
  unfold sealL
  rw [List.append_assoc, List.append_assoc]
  exact val4_num4 (by omega) (by omega) _
theorem openL_first {b p : List Int} : openL b = some p ↔ firstL b = some p ∧ p.length + 8 = b.length := by
  constructor
  · intro h
    obtain ⟨ok, e, _⟩ := openL_some h
    have hl : b.length = 8 + p.length := by rw [e, sealL_length]
    have hv : val4 b = p.length := by have := val4_sealL ok []; rw [List.append_nil] at this; rw [e]; exact this
    have ok' := ok
    unfold Ok at ok'
    refine ⟨?_, by omega⟩
    unfold firstL
    rw [if_pos ⟨by omega, by omega⟩, hv, List.take_of_length_le (by omega)]
    exact h
  · rintro ⟨h, hl⟩
    unfold firstL at h
    split at h
    · obtain ⟨ok, e, _⟩ := openL_some h
      have h2 : (b.take (8 + val4 b).toNat).length = 8 + p.length := by rw [e, sealL_length]
      rw [List.length_take] at h2
      rw [List.take_of_length_le (by omega)] at h
      exact h
    · cases h
theorem first_f {l : List Int} (hb : ∀ x ∈ l, IsB x) (hl : l.length ≤ 140737488351232) : Ev (fun k => frame_first.f k l) (ans (firstL l)) := by
  unfold frame_first.f
  by_cases h9 : l.length < 9
  · refine Ev.congr (f := fun _ => some ([], false)) (fun k => by rw [if_pos (by omega)]) ?_
    unfold firstL
    rw [if_neg (by omega)]
    exact Ev.now _
  obtain ⟨e4, v0, v1⟩ := num4_val4 hb (by omega)
  have pl : ((l.take (8 + val4 l).toNat).drop 8).length = min (8 + val4 l).toNat l.length - 8 := by rw [List.length_drop, List.length_take]
  have none_of : ¬ (1 ≤ val4 l ∧ val4 l ≤ 65536 ∧ val4 l ≤ (l.length : Int) - 8) → firstL l = none := by
    intro h
    unfold firstL
    split
    · unfold openL
      rw [if_neg]
      rintro ⟨ok, _⟩
      unfold Ok at ok
      rw [pl] at ok
      omega
    · rfl
  by_cases hn0 : val4 l = 0
  · rw [none_of (by omega)]
    refine Ev.step (f := fun _ => some ([], false)) (fun k => ?_) (Ev.now _)
    rw [if_neg (by omega), number_f hb (by omega), Option.bind_some, if_pos hn0]
    simp [frame_first.j0]
  by_cases hn1 : val4 l > 65536
  · rw [none_of (by omega)]
    refine Ev.step (f := fun _ => some ([], false)) (fun k => ?_) (Ev.now _)
    rw [if_neg (by omega), number_f hb (by omega), Option.bind_some, if_neg hn0, if_pos hn1]
    simp [frame_first.j0]
  by_cases hn2 : val4 l > (l.length : Int) - 8
  · rw [none_of (by omega)]
    refine Ev.step (f := fun _ => some ([], false)) (fun k => ?_) (Ev.now _)
    rw [if_neg (by omega), number_f hb (by omega), Option.bind_some, if_neg hn0, if_neg hn1, w64 (by omega) (by omega), w64 (by omega) (by omega), decide_eq_true hn2]
    simp [frame_first.j0]
  -- the middle
  obtain ⟨pay, hpay⟩ : ∃ p, p = (l.take (8 + val4 l).toNat).drop 8 := ⟨_, rfl⟩
  have hbp : ∀ x ∈ pay, IsB x := by rw [hpay]; exact drop_isB (take_isB hb _) _
  rw [← hpay] at pl
  have lp : pay.length = (val4 l).toNat := by omega
  have okp : Ok pay := by unfold Ok; omega
  have hq8 : l.take (8 + val4 l).toNat = l.take 4 ++ (l.drop 4).take 4 ++ pay := by
    have h1 : l.take (8 + val4 l).toNat = (l.take (8 + val4 l).toNat).take 8 ++ (l.take (8 + val4 l).toNat).drop 8 := (List.take_append_drop 8 _).symm
    rw [← hpay, List.take_take, Nat.min_eq_left (by omega)] at h1
    rw [h1]
    congr 1
    have : l.take 8 = (l.take 8).take 4 ++ (l.take 8).drop 4 := (List.take_append_drop 4 _).symm
    rw [this, List.take_take, List.drop_take]
    rfl
  have hd : ∀ x ∈ l.drop 4, IsB x := drop_isB hb 4
  obtain ⟨f4, u0, u1⟩ := num4_val4 hd (by rw [List.length_drop]; omega)
  have hc := crc_range (num4 (pay.length : Int) ++ pay)
  have e4' : num4 (pay.length : Int) = l.take 4 := by rw [lp, ← e4]; congr 1; omega
  have key : firstL l = if crc (l.take 4 ++ pay) = val4 (l.drop 4) then some pay else none := by
    unfold firstL
    rw [if_pos ⟨by omega, by omega⟩]
    unfold openL
    rw [← hpay]
    by_cases c : crc (l.take 4 ++ pay) = val4 (l.drop 4)
    · rw [if_pos c, if_pos]
      refine ⟨okp, ?_⟩
      rw [hq8]
      unfold sealL
      rw [e4', c, f4]
    · rw [if_neg c, if_neg]
      rintro ⟨_, h⟩
      rw [hq8] at h
      unfold sealL at h
      have h2 := List.append_cancel_right h
      rw [e4'] at h2
      have h3 := List.append_cancel_left h2
      rw [← f4] at h3
      have h4 := val4_num4 u0 u1 []
      rw [h3, val4_num4 (crc_range _).1 (crc_range _).2] at h4
      exact c h4
  rw [key]
  refine Ev.step (f := fun k => (frame_join.f k [pay]).bind fun t139 => (if 4 ≤ (l.length : Int) then ((sum_Of.f k (l.take 4)).bind fun t147 => ((sum_More.f k t147 t139).bind fun t148 => ((frame_number.f (l.drop 4)).bind fun t154 => (if t148 = t154 then (if 0 ≤ (t139.length : Int) then (if (t139.length : Int) ≤ (t139.length : Int) then (some ((t139.take ((t139.length : Int) : Int).toNat), true)) else (none)) else (none)) else (some (([] : List Int), false)))))) else (none))) (fun k => ?_) ?_
  · rw [if_neg (by omega), number_f hb (by omega), Option.bind_some, if_neg hn0, if_neg hn1, w64 (by omega) (by omega), w64 (by omega) (by omega), decide_eq_false hn2]
    simp only [frame_first.j0]
    rw [if_neg (by decide), show (8 + val4 l) % 4294967296 = 8 + val4 l from by omega, if_pos (by omega), if_pos (by omega), ← hpay]
  have hj := join_f [pay] (by simp only [List.map_cons, List.map_nil, List.sum_cons, List.sum_nil]; omega) (by simp)
  rw [show List.flatten [pay] = pay from by simp] at hj
  refine Ev.bind (f := fun k t139 => (if 4 ≤ (l.length : Int) then ((sum_Of.f k (l.take 4)).bind fun t147 => ((sum_More.f k t147 t139).bind fun t148 => ((frame_number.f (l.drop 4)).bind fun t154 => (if t148 = t154 then (if 0 ≤ (t139.length : Int) then (if (t139.length : Int) ≤ (t139.length : Int) then (some ((t139.take ((t139.length : Int) : Int).toNat), true)) else (none)) else (none)) else (some (([] : List Int), false)))))) else (none))) hj ?_
  refine Ev.congr (f := fun k => (sum_Of.f k (l.take 4)).bind fun t147 => ((sum_More.f k t147 pay).bind fun t148 => ((frame_number.f (l.drop 4)).bind fun t154 => (if t148 = t154 then (if 0 ≤ (pay.length : Int) then (if (pay.length : Int) ≤ (pay.length : Int) then (some ((pay.take ((pay.length : Int) : Int).toNat), true)) else (none)) else (none)) else (some (([] : List Int), false)))))) (fun k => by rw [if_pos (by omega)]) ?_
  refine crc2 (take_isB hb 4) hbp (by rw [List.length_take]; omega) (by omega) (g := fun k t148 => ((frame_number.f (l.drop 4)).bind fun t154 => (if t148 = t154 then (if 0 ≤ (pay.length : Int) then (if (pay.length : Int) ≤ (pay.length : Int) then (some ((pay.take ((pay.length : Int) : Int).toNat), true)) else (none)) else (none)) else (some (([] : List Int), false))))) ?_
  refine Ev.congr (f := fun _ => some (ans (if crc (l.take 4 ++ pay) = val4 (l.drop 4) then some pay else none))) (fun k => ?_) (Ev.now _)
  rw [number_f hd (by rw [List.length_drop]; omega), Option.bind_some]
  by_cases c : crc (l.take 4 ++ pay) = val4 (l.drop 4)
  · rw [if_pos c, if_pos c, if_pos (by omega), if_pos (by omega), Int.toNat_natCast, List.take_length]
    rfl
  · rw [if_neg c, if_neg c]
    rfl
theorem open_f {l : List Int} (hb : ∀ x ∈ l, IsB x) (hl : l.length ≤ 140737488351232) : Ev (fun k => frame_Open.f k l) (ansE (openL l)) := by
  unfold frame_Open.f
  refine Ev.bind (f := fun _ bt130 => (if bt130.2 = true then (if (wrap64 ((bt130.1.length : Int) + 8)) = (l.length : Int) then (some (bt130.1, (0 : Int))) else (some (([] : List Int), (2 : Int)))) else (some (([] : List Int), (2 : Int))))) (first_f hb hl) ?_
  refine Ev.congr (f := fun _ => some (ansE (openL l))) (fun k => ?_) (Ev.now _)
  cases hf : firstL l with
  | none =>
    have : openL l = none := by
      cases ho : openL l with
      | none => rfl
      | some p => have := (openL_first.mp ho).1; rw [hf] at this; cases this
    rw [this]
    show (if false = true then _ else _) = _
    rw [if_neg (by decide)]
    rfl
  | some p =>
    show (if true = true then (if (wrap64 ((p.length : Int) + 8)) = (l.length : Int) then (some (p, (0 : Int))) else (some (([] : List Int), 2))) else _) = _
    have hp : p.length ≤ l.length := by
      unfold firstL at hf
      split at hf
      · obtain ⟨_, _, e⟩ := openL_some hf
        rw [e, List.length_drop, List.length_take]; omega
      · cases hf
    rw [if_pos rfl, w64 (by omega) (by omega)]
    by_cases c : p.length + 8 = l.length
    · rw [if_pos (by omega), openL_first.mpr ⟨hf, c⟩]
      rfl
    · rw [if_neg (by omega)]
      have : openL l = none := by
        cases ho : openL l with
        | none => rfl
        | some q =>
          obtain ⟨h1, h2⟩ := openL_first.mp ho
          rw [hf] at h1
          cases h1
          exact absurd h2 c
      rw [this]
      rfl
end Go.Proofs.Ytcbehfbfaonanaa.PFr
end

/- Contracts: frame.Seal, frame.Open; wire.Right, wire.Encode, wire.Decode. -/
section
namespace Go.Proofs.Ytcbehfbfaonanaa.Wr
open Go.RowKit Go.Proofs.YtcbehfbfaonanaaW.PrintWords Go.Proofs.YtcbehfbfaonanaaW.PrintLast Go.Proofs.YtcbehfbfaonanaaW.PrintMore Go.Proofs.Ytcbehfbfaonanaa.Pk
open Go.Proofs.Ytcbehfbfaonanaa.PFr (sealL openL ansE Ok frame_Seal.calls frame_Open.calls seal_f open_f)
set_option linter.unusedVariables false
set_option linter.unusedSimpArgs false

/-- The bytes l are read of the slice v. -/
def BRd (w : World) (v : Value) (l : List Int) : Prop := ∃ A c, v = .slice A l.length c ∧ (Kd.int .u8).C w A l.length l ∧ l.length ≤ c
theorem BRd.below {w w' : World} {v : Value} {l : List Int} (h : BRd w v l) (hB : Below w.heap.size w w') : BRd w' v l := by
  obtain ⟨A, c, rfl, h1, h2⟩ := h
  exact ⟨A, c, rfl, Kd.C_below h1 hB, h2⟩
theorem c_of_reads {w : World} {A : Option Addr} {n : Nat} {l : List Int} (h : ReadsInt w .u8 A n l) : (Kd.int .u8).C w A n l := Kd.C_of_reads (enc := Value.int .u8) (d := (0 : Int)) (h1 := fun _ => rfl) h
theorem reads_of_c {w : World} {A : Option Addr} {n : Nat} {l : List Int} (h : (Kd.int .u8).C w A n l) : ReadsInt w .u8 A n l := Kd.reads_of_C (enc := Value.int .u8) (d := (0 : Int)) (h1 := fun _ => rfl) h
theorem brd_own {w : World} {base e : Nat} {v : Value} {l : List Int} {q c : Nat} (e1 : v = .slice (some ⟨q, 0, none⟩) l.length c) (h : w.ownsRow base e 1 v l.length (nums .u8 l)) (hc : l.length ≤ c) : BRd w v l := by
  subst e1
  exact ⟨_, c, rfl, c_of_reads (own_reads' h), hc⟩
/-- Bytes and an error have come. -/
def IsBE (l : List Int) (er : Int) (w : World) (e : Ending) (w' : World) : Prop := Below w.heap.size w w' ∧ ∃ v, e = .returned (.tuple #[v, .int .i64 er]) ∧ BRd w' v l
theorem seal_c (w : World) (v : Value) (p : List Int) (h : BRd w v p) (hb : ∀ x ∈ p, Pk.IsB x) (hl : p.length ≤ 140737488351232) :
    Calls Try.prog 20 #[v] w (IsBE (if Ok p then (sealL p, (0 : Int)) else ([], 1)).1 (if Ok p then (sealL p, (0 : Int)) else ([], 1)).2 w) := by
  obtain ⟨A, c, rfl, h1, h2⟩ := h
  obtain ⟨k, hk⟩ := (seal_f hb hl).rounds
  refine (frame_Seal.calls k _ A c p _ _ w (Kd.V_mk h2 (Kd.C_F (by exact Kd.heap_int _) h1)) hk).mono ?_
  rintro e w' ⟨v', rfl, hR, hB⟩
  obtain ⟨A', c', rfl⟩ := Kd.R_slice hR
  exact ⟨hB, _, rfl, A', c', rfl, (Kd.R_reads' hR).2.2, (Kd.R_reads' hR).2.1⟩
theorem open_c (w : World) (v : Value) (l : List Int) (h : BRd w v l) (hb : ∀ x ∈ l, Pk.IsB x) (hl : l.length ≤ 140737488351232) :
    Calls Try.prog 34 #[v] w (IsBE (ansE (openL l)).1 (ansE (openL l)).2 w) := by
  obtain ⟨A, c, rfl, h1, h2⟩ := h
  obtain ⟨k, hk⟩ := (open_f hb hl).rounds
  refine (frame_Open.calls k A c l _ _ w h1 h2 hk).mono ?_
  rintro e w' ⟨v', rfl, hR, hB⟩
  obtain ⟨A', c', rfl⟩ := Kd.V_slice hR
  exact ⟨hB, _, rfl, A', c', rfl, (Kd.V_reads' hR).2.2, (Kd.V_reads' hR).2.1⟩
/-! payload's bytes are bytes -/
theorem enc_isB : ∀ (n : Nat), ∀ x ∈ enc n, Pk.IsB x := by
  intro n
  induction n using Nat.strongRecOn with
  | _ n ih =>
    intro x hx
    by_cases h : n < 128
    · rw [enc_lt h] at hx
      simp only [List.mem_singleton] at hx
      subst hx
      unfold Pk.IsB; omega
    · rw [enc_ge h] at hx
      rcases List.mem_cons.1 hx with rfl | hx
      · unfold Pk.IsB; omega
      · exact ih (n / 128) (by omega) x hx
theorem wnum_isB {n : Int} {xs : List Int} {bad : Bool} (h : ∀ x ∈ xs, Pk.IsB x) : ∀ x ∈ (wnum n xs bad).1, Pk.IsB x := by
  unfold wnum
  split
  · exact h
  · split
    · exact h
    · intro x hx
      rcases List.mem_append.1 hx with hx | hx
      · exact h x hx
      · exact enc_isB _ x hx
theorem bytesOf_isB (s : ByteArray) : ∀ x ∈ bytesOf s, Pk.IsB x := by
  intro x hx
  simp only [bytesOf, List.mem_map] at hx
  obtain ⟨u, _, rfl⟩ := hx
  have := u.toNat_lt
  unfold Pk.IsB
  omega
theorem wtext_isB {s : ByteArray} {xs : List Int} {bad : Bool} (h : ∀ x ∈ xs, Pk.IsB x) : ∀ x ∈ (wtext s xs bad).1, Pk.IsB x := by
  unfold wtext
  split
  · exact wnum_isB h
  · intro x hx
    rcases List.mem_append.1 hx with hx | hx
    · exact wnum_isB h x hx
    · exact bytesOf_isB s x hx
theorem oTameB (g N : Nat) : (oForm g).Tame (fun s => ∀ x ∈ s.1, Pk.IsB x) N := ⟨fun h => wnum_isB h, fun h => wnum_isB h, fun h k => ⟨wtext_isB h, k⟩, fun h => wnum_isB h⟩
theorem payB_isB {m : M} (hs : Small m) : ∀ x ∈ payB m, Pk.IsB x := by
  have hT := oTameB 0 1048576
  have h1 := hT.rowM (i := 0) (fs := [.num 1 10]) (s := ([], false, false)) (m := m) (fun x hx => nomatch hx) hs.lite
  exact (runLite hT (ts := script (kindM ((oForm 0).rowM ([], false, false) m 0 [.num 1 10]).2)) h1.1 h1.2).1
/-- A message. -/
def RightM (m : M) : Prop := payOk m = true ∧ rdOk (payB m) = true ∧ MEq m (rdM (payB m))
end Go.Proofs.Ytcbehfbfaonanaa.Wr
end

/- wire.Right, wire.Encode, wire.Decode. -/
section
namespace Go.Proofs.Ytcbehfbfaonanaa.Wr
open Go.RowKit Go.Proofs.YtcbehfbfaonanaaW.PrintWords Go.Proofs.YtcbehfbfaonanaaW.PrintLast Go.Proofs.YtcbehfbfaonanaaW.PrintMore Go.Proofs.Ytcbehfbfaonanaa.Pk
open Go.Proofs.Ytcbehfbfaonanaa.PFr (sealL openL ansE Ok frame_Seal.calls frame_Open.calls seal_f open_f)
set_option linter.unusedVariables false
set_option linter.unusedSimpArgs false

theorem list_len {F : Form} (hF : F.Good) {fs : List Fld} {s : F.σ} {most : Nat} {rows : List (List Value)} (hm : most ≤ 64) (h : rows.length ≤ 64) : (F.list fs s most rows).2.length ≤ 64 := by
  have e : (F.list fs s most rows).2.length = (F.listR fs s most rows).length := by
    unfold Form.list
    rw [List.length_append, rows_length, List.length_take, List.length_drop]
    have : F.listM s most rows.length ≤ (F.listR fs s most rows).length := by
      unfold Form.listM Form.listR
      split
      · simp; omega
      · omega
    omega
  rw [e]
  unfold Form.listR
  split
  · obtain ⟨l0, l1⟩ := hF.count_lim s (rows.length : Int) (most : Int) (by omega) (by omega)
    simp only [List.length_replicate]
    omega
  · exact h
theorem run_len {F : Form} (hF : F.Good) : ∀ {ts : List Step} {s : F.σ} {m : M}, ts.all Step.few = true → (∀ j, (m.L j).length ≤ 64) → ∀ j, ((F.run s m ts).2.L j).length ≤ 64
  | [], s, m, _, h => h
  | t :: ts, s, m, ht, h => by
    simp only [List.all_cons, Bool.and_eq_true] at ht
    refine run_len hF (ts := ts) ht.2 (fun j => ?_)
    cases t with
    | row i fs => exact h j
    | most => exact h j
    | lst i fs n =>
      have hn := ht.1
      simp only [Step.few, Bool.and_eq_true, decide_eq_true_eq] at hn
      simp only [Form.step, Form.lstM, upL]
      split
      · exact list_len hF hn.2 (h i)
      · exact h j
theorem rdM_len (xs : List Int) : ∀ j, ((rdM xs).L j).length ≤ 64 := run_len (iGood 0 0 0) (script_few _) (fun _ => Nat.zero_le _)
theorem msg_new {w3 w4 w5 : World} {v : Value} {m : M} {sv : Nat → Value} {g : Nat} (h : MsgRd w3 v m sv) (hB : Below w3.heap.size w3 w4) (hO : Only (· = g) w4 w5) (hg : w3.heap.size ≤ g) : MsgRd w5 v m sv :=
  h.below (below_only hB hO hB.size (fun k hk => by have hk' : k = g := hk; omega))
theorem MsgRd.agg {w : World} {v : Value} {m : M} {sv : Nat → Value} (h : MsgRd w v m sv) : v = .agg (msgC m.c sv) := h.eq

set_option maxRecDepth 100000 in
set_option maxHeartbeats 4000000 in
theorem right_c (w : World) (v : Value) (m : M) (sv : Nat → Value) (h : MsgRd w v m sv) (hs : Small m) :
    Calls Try.prog 13 #[v] w (IsEqB (RightM m) w) := by
  obtain rfl := h.agg
  have HM := Aside0.mk h
  have HS := Aside0.mk hs
  have HCP := Aside0.mk (fun (W : World) (hB : Below w.heap.size w W) => payload_c W _ m sv (h.below hB) hs)
  clear h hs
  cases hp : payOk m
  · have HP := Aside0.mk hp
    clear hp
    go_enter Try.func13, Try.ntmps13
    go_wp2_with (first | ((with_reducible refine gate_dst (N := 1) rfl ?_); refine box_row rfl 35 (.tmp 0) rfl (msgC m.c sv) rfl ?_; intro g1 w1 hg hbox hb; have HX1 := Aside0.mk hbox; have HB1 := Aside0.mk hb; have HCp := Aside0.mk (HCP.out _ HB1.out); clear hg hbox hb) | ((with_reducible refine gate_dst (N := 7) rfl ?_); refine load_row rfl 35 (.tmp 1) rfl g1 rfl (msgC m.c sv) 35 HX1.out _ Try.underlying35 rfl info_msg ?_) | (go_at_call 19; (with_reducible refine HCp.out.mono ?_); rintro e w2 ⟨hB, sv', ok, rfl, hok, hv⟩; rw [HP.out] at hok; subst hok; have HB2 := Aside0.mk (HB1.out.trans (hB.mono HB1.out.size)); have HX2 := Aside0.mk ((hB.block g1 (blk_lt HX1.out)).trans HX1.out); clear hv hB) | fail)
    go_ret
    exact ⟨false, rfl, ⟨(fun h => by cases h), fun h => absurd (HP.out.symm.trans h.1) (by simp)⟩, HB2.out⟩
  · have HP := Aside0.mk hp
    clear hp
    cases hq : rdOk (payB m)
    · have HQ := Aside0.mk hq
      clear hq
      go_enter Try.func13, Try.ntmps13
      go_wp2_with (first | ((with_reducible refine gate_dst (N := 1) rfl ?_); refine box_row rfl 35 (.tmp 0) rfl (msgC m.c sv) rfl ?_; intro g1 w1 hg hbox hb; have HX1 := Aside0.mk hbox; have HB1 := Aside0.mk hb; have HCp := Aside0.mk (HCP.out _ HB1.out); clear hg hbox hb) | ((with_reducible refine gate_dst (N := 7) rfl ?_); refine load_row rfl 35 (.tmp 1) rfl g1 rfl (msgC m.c sv) 35 HX1.out _ Try.underlying35 rfl info_msg ?_) | (go_at_call 19; (with_reducible refine HCp.out.mono ?_); rintro e w2 ⟨hB, sv', ok, rfl, hok, hv⟩; rw [HP.out] at hok; subst hok; have HB2 := Aside0.mk (HB1.out.trans (hB.mono HB1.out.size)); have HX2 := Aside0.mk ((hB.block g1 (blk_lt HX1.out)).trans HX1.out); obtain ⟨q, cq, es, hO, h3, h4, h5, h6⟩ := hv rfl; subst es; have HCr := Aside0.mk (read_m _ _ cq _ w2 (own_reads' hO) h6 (payB_isB HS.out)); clear hO h3 h4 h5 h6 hv hB) | (go_at_call 25; (with_reducible refine HCr.out.mono ?_); rintro e w3 ⟨hB, v2, ok2, rfl, hok, svr, hM, hF⟩; obtain rfl := hM.agg; rw [HQ.out] at hok; subst hok; have HB3 := Aside0.mk (HB2.out.trans (hB.mono HB2.out.size)); have HX3 := Aside0.mk ((hB.block g1 (blk_lt HX2.out)).trans HX2.out); have HM2 := Aside0.mk hM; clear hF hM hB) | ((with_reducible refine gate_dst (N := 5) rfl ?_); refine alloc_row rfl 35 rfl _ (zero_msg _) ?_; intro g5 w4 hg hbox hb; have HX5a := Aside0.mk hbox; have HB4a := Aside0.mk hb; have HB4 := Aside0.mk (HB3.out.trans (hb.mono HB3.out.size)); have HX4 := Aside0.mk ((hb.block g1 (blk_lt HX3.out)).trans HX3.out); have HM3 := Aside0.mk (HM2.out.below hb); have HG5 := Aside0.mk (show w3.heap.size ≤ g5 from by rw [hg]; exact Nat.le_refl _); clear hg hbox hb) | ((with_reducible refine gate_store (t := 35) (p := 5) rfl ?_); refine store_row rfl 35 (.tmp 5) (.tmp 16) rfl g5 rfl (msgC (rdM (payB m)).c svr) _ rfl 35 HX5a.out rfl info_msg HM3.out.one ?_; intro w5 hX hO; have HX5 := Aside0.mk hX; have HO5 := Aside0.mk hO; have HB5 := Aside0.mk (below_only HB4.out hO HB4.out.size (fun k hk => by have := HB3.out.size; have := HG5.out; have hk' : k = g5 := hk; omega)); have HX5g := Aside0.mk ((hO.block g1 (blk_lt HX4.out) (fun e => by have := blk_lt HX3.out; have := HG5.out; have e' : g1 = g5 := e; omega)).trans HX4.out); have HM5 := Aside0.mk (msg_new HM2.out HB4a.out hO HG5.out); clear hX hO) | fail)
      go_ret
      exact ⟨false, rfl, ⟨(fun h => by cases h), fun h => absurd (HQ.out.symm.trans h.2.1) (by simp)⟩, HB5.out⟩
    · have HQ := Aside0.mk hq
      clear hq
      go_enter Try.func13, Try.ntmps13
      go_wp2_with (first | ((with_reducible refine gate_dst (N := 1) rfl ?_); refine box_row rfl 35 (.tmp 0) rfl (msgC m.c sv) rfl ?_; intro g1 w1 hg hbox hb; have HX1 := Aside0.mk hbox; have HB1 := Aside0.mk hb; have HCp := Aside0.mk (HCP.out _ HB1.out); clear hg hbox hb) | ((with_reducible refine gate_dst (N := 7) rfl ?_); refine load_row rfl 35 (.tmp 1) rfl g1 rfl (msgC m.c sv) 35 HX1.out _ Try.underlying35 rfl info_msg ?_) | (go_at_call 19; (with_reducible refine HCp.out.mono ?_); rintro e w2 ⟨hB, sv', ok, rfl, hok, hv⟩; rw [HP.out] at hok; subst hok; have HB2 := Aside0.mk (HB1.out.trans (hB.mono HB1.out.size)); have HX2 := Aside0.mk ((hB.block g1 (blk_lt HX1.out)).trans HX1.out); obtain ⟨q, cq, es, hO, h3, h4, h5, h6⟩ := hv rfl; subst es; have HCr := Aside0.mk (read_m _ _ cq _ w2 (own_reads' hO) h6 (payB_isB HS.out)); clear hO h3 h4 h5 h6 hv hB) | (go_at_call 25; (with_reducible refine HCr.out.mono ?_); rintro e w3 ⟨hB, v2, ok2, rfl, hok, svr, hM, hF⟩; obtain rfl := hM.agg; rw [HQ.out] at hok; subst hok; have HB3 := Aside0.mk (HB2.out.trans (hB.mono HB2.out.size)); have HX3 := Aside0.mk ((hB.block g1 (blk_lt HX2.out)).trans HX2.out); have HM2 := Aside0.mk hM; clear hF hM hB) | ((with_reducible refine gate_dst (N := 5) rfl ?_); refine alloc_row rfl 35 rfl _ (zero_msg _) ?_; intro g5 w4 hg hbox hb; have HX5a := Aside0.mk hbox; have HB4a := Aside0.mk hb; have HB4 := Aside0.mk (HB3.out.trans (hb.mono HB3.out.size)); have HX4 := Aside0.mk ((hb.block g1 (blk_lt HX3.out)).trans HX3.out); have HM3 := Aside0.mk (HM2.out.below hb); have HG5 := Aside0.mk (show w3.heap.size ≤ g5 from by rw [hg]; exact Nat.le_refl _); clear hg hbox hb) | ((with_reducible refine gate_store (t := 35) (p := 5) rfl ?_); refine store_row rfl 35 (.tmp 5) (.tmp 16) rfl g5 rfl (msgC (rdM (payB m)).c svr) _ rfl 35 HX5a.out rfl info_msg HM3.out.one ?_; intro w5 hX hO; have HX5 := Aside0.mk hX; have HO5 := Aside0.mk hO; have HB5 := Aside0.mk (below_only HB4.out hO HB4.out.size (fun k hk => by have := HB3.out.size; have := HG5.out; have hk' : k = g5 := hk; omega)); have HX5g := Aside0.mk ((hO.block g1 (blk_lt HX4.out) (fun e => by have := blk_lt HX3.out; have := HG5.out; have e' : g1 = g5 := e; omega)).trans HX4.out); have HM5 := Aside0.mk (msg_new HM2.out HB4a.out hO HG5.out); clear hX hO) | ((with_reducible refine gate_dst (N := 20) rfl ?_); (try (refine gate_guard (by rfl) ?_; dsimp only)); refine load_row rfl 35 (.tmp 1) rfl g1 rfl (msgC m.c sv) 35 HX5g.out _ Try.underlying35 rfl info_msg ?_) | ((with_reducible refine gate_dst (N := 21) rfl ?_); (try (refine gate_guard (by rfl) ?_; dsimp only)); refine load_row rfl 35 (.tmp 5) rfl g5 rfl (msgC (rdM (payB m)).c svr) 35 HX5.out _ Try.underlying35 rfl info_msg ?_) | (go_at_call 17; (with_reducible refine (wireSame_c w5 _ _ m (rdM (payB m)) sv svr (HM.out.below HB5.out) HM5.out HS.out.few (fun j => Nat.le_trans (rdM_len _ j) (by omega))).mono ?_); rintro e w6 ⟨r, rfl, hr, hB⟩; have HR := Aside0.mk hr; have HB6 := Aside0.mk (HB5.out.trans (hB.mono HB5.out.size)); clear hr hB) | fail)
      go_ret
      exact ⟨r, rfl, ⟨fun h => ⟨HP.out, HQ.out, HR.out.1 h⟩, fun h => HR.out.2 h.2.2⟩, HB6.out⟩
end Go.Proofs.Ytcbehfbfaonanaa.Wr
end

/- wire.Encode, wire.Decode. -/
section
namespace Go.Proofs.Ytcbehfbfaonanaa.Wr
open Go.RowKit Go.Proofs.YtcbehfbfaonanaaW.PrintWords Go.Proofs.YtcbehfbfaonanaaW.PrintLast Go.Proofs.YtcbehfbfaonanaaW.PrintMore Go.Proofs.Ytcbehfbfaonanaa.Pk
open Go.Proofs.Ytcbehfbfaonanaa.PFr (sealL openL ansE Ok frame_Seal.calls frame_Open.calls seal_f open_f)
set_option linter.unusedVariables false
set_option linter.unusedSimpArgs false

theorem isB_true {p : Prop} (hp : p) {k : FuncId} {args : Array Value} {w : World} (h : Calls Try.prog k args w (IsEqB p w)) : Calls Try.prog k args w (fun e w' => e = .returned (.bool true) ∧ Below w.heap.size w w') := h.mono (by
  rintro e w' ⟨r, rfl, hr, hd⟩
  exact ⟨by rw [hr.2 hp], hd⟩)
theorem isB_false {p : Prop} (hp : ¬ p) {k : FuncId} {args : Array Value} {w : World} (h : Calls Try.prog k args w (IsEqB p w)) : Calls Try.prog k args w (fun e w' => e = .returned (.bool false) ∧ Below w.heap.size w w') := h.mono (by
  rintro e w' ⟨r, rfl, hr, hd⟩
  cases r
  · exact ⟨rfl, hd⟩
  · exact absurd (hr.1 rfl) hp)
/-- What a right message's bytes are, and the error. -/
def sealA (l : List Int) : List Int × Int := if Ok l then (sealL l, 0) else ([], 1)
theorem sealA_c {p bs : List Int} {er : Int} (he : sealA p = (bs, er)) (w : World) (v : Value) (h : BRd w v p) (hb : ∀ x ∈ p, Pk.IsB x) (hl : p.length ≤ 140737488351232) : Calls Try.prog 20 #[v] w (IsBE bs er w) := by
  have h := seal_c w v p h hb hl
  rw [show (if Ok p then (sealL p, (0 : Int)) else ([], 1)) = (bs, er) from he] at h
  exact h
set_option maxRecDepth 100000 in
set_option maxHeartbeats 4000000 in
theorem encode_no (w : World) (v : Value) (m : M) (sv : Nat → Value) (h : MsgRd w v m sv) (hs : Small m) (hr : ¬ RightM m) :
    Calls Try.prog 11 #[v] w (IsBE [] 1 w) := by
  obtain rfl := h.agg
  have HR := Aside0.mk (fun (W : World) (hB : Below w.heap.size w W) => isB_false hr (right_c W _ m sv (h.below hB) hs))
  clear h hs hr
  go_enter Try.func11, Try.ntmps11
  go_wp2_with (first | ((with_reducible refine gate_dst (N := 1) rfl ?_); refine box_row rfl 35 (.tmp 0) rfl (msgC m.c sv) rfl ?_; intro g1 w1 hg hbox hb; have HX1 := Aside0.mk hbox; have HB1 := Aside0.mk hb; clear hg hbox hb) | ((with_reducible refine gate_dst (N := 6) rfl ?_); refine load_row rfl 35 (.tmp 1) rfl g1 rfl (msgC m.c sv) 35 HX1.out _ Try.underlying35 rfl info_msg ?_) | (go_at_call 13; (with_reducible refine (HR.out _ HB1.out).mono ?_); rintro e w2 ⟨rfl, hB⟩; have HB2 := Aside0.mk (HB1.out.trans (hB.mono HB1.out.size)); clear hB) | fail)
  go_ret2
  exact ⟨HB2.out, _, rfl, none, 0, rfl, ⟨rfl, by simp, fun h => absurd h (by simp)⟩, by simp⟩
set_option maxRecDepth 100000 in
set_option maxHeartbeats 4000000 in
theorem encode_yes (w : World) (v : Value) (m : M) (sv : Nat → Value) (h : MsgRd w v m sv) (hs : Small m) (hr : RightM m) :
    Calls Try.prog 11 #[v] w (IsBE (sealA (payB m)).1 (sealA (payB m)).2 w) := by
  obtain rfl := h.agg
  have HR := Aside0.mk (fun (W : World) (hB : Below w.heap.size w W) => isB_true hr (right_c W _ m sv (h.below hB) hs))
  have HCP := Aside0.mk (fun (W : World) (hB : Below w.heap.size w W) => payload_c W _ m sv (h.below hB) hs)
  have HI := Aside0.mk (payB_isB hs)
  have HP := Aside0.mk hr.1
  obtain ⟨bs, er, hse⟩ : ∃ bs er, sealA (payB m) = (bs, er) := ⟨_, _, rfl⟩
  rw [hse]
  have HSE := Aside0.mk hse
  clear hse
  clear h hs hr
  go_enter Try.func11, Try.ntmps11
  go_wp2_with (first | ((with_reducible refine gate_dst (N := 1) rfl ?_); refine box_row rfl 35 (.tmp 0) rfl (msgC m.c sv) rfl ?_; intro g1 w1 hg hbox hb; have HX1 := Aside0.mk hbox; have HB1 := Aside0.mk hb; clear hg hbox hb) | ((with_reducible refine gate_dst (N := 6) rfl ?_); refine load_row rfl 35 (.tmp 1) rfl g1 rfl (msgC m.c sv) 35 HX1.out _ Try.underlying35 rfl info_msg ?_) | (go_at_call 13; (with_reducible refine (HR.out _ HB1.out).mono ?_); rintro e w2 ⟨rfl, hB⟩; have HB2 := Aside0.mk (HB1.out.trans (hB.mono HB1.out.size)); have HX2 := Aside0.mk ((hB.block g1 (blk_lt HX1.out)).trans HX1.out); clear hB) | ((with_reducible refine gate_dst (N := 10) rfl ?_); refine load_row rfl 35 (.tmp 1) rfl g1 rfl (msgC m.c sv) 35 HX2.out _ Try.underlying35 rfl info_msg ?_) | (go_at_call 19; (with_reducible refine (HCP.out _ HB2.out).mono ?_); rintro e w3 ⟨hB, sv', ok, rfl, hok, hv⟩; rw [HP.out] at hok; subst hok; obtain ⟨q, cq, es, hO, h3, h4, h5, h6⟩ := hv rfl; have HB3 := Aside0.mk (HB2.out.trans (hB.mono HB2.out.size)); have HCs := Aside0.mk (sealA_c HSE.out w3 _ (brd_own es hO h3) HI.out (by omega)); subst es; clear hO h3 h4 h5 h6 hv hB) | (go_at_call 20; (with_reducible refine HCs.out.mono ?_); rintro e w4 ⟨hB, vv, rfl, hv⟩; have HB4 := Aside0.mk (HB3.out.trans (hB.mono HB3.out.size)); have HV := Aside0.mk hv; clear hB hv) | fail)
  go_ret2
  exact ⟨HB4.out, _, rfl, HV.out⟩

/-- What Decode answers. -/
def decM (l : List Int) : M × Int := match openL l with | some p => if rdOk p = true then (rdM p, 0) else (zeroM, 2) | none => (zeroM, 2)
def IsDec (l : List Int) (w : World) (e : Ending) (w' : World) : Prop := Below w.heap.size w w' ∧ ∃ v, e = .returned (.tuple #[v, .int .i64 (decM l).2]) ∧ IsMsg w.heap.size (decM l).1 w' v
theorem zero_rd (w : World) : MsgRd w (.agg (msgC zeroC nils)) zeroM nils := ⟨rfl, zero_typed, zero_fit, fun j fs hj => ⟨none, 0, rfl, fun _ => rfl, fun h => absurd rfl h⟩⟩
theorem zero_is (B : Nat) (w : World) : IsMsg B zeroM w (.agg (msgC zeroC nils)) := ⟨nils, zero_rd w, fun j fs hj k hk h0 => absurd rfl h0⟩
theorem openL_isB {l p : List Int} (h : openL l = some p) (hb : ∀ x ∈ l, Pk.IsB x) : (∀ x ∈ p, Pk.IsB x) ∧ p.length ≤ l.length := by
  obtain ⟨_, _, e⟩ := PFr.openL_some h
  subst e
  exact ⟨fun x hx => hb x (List.mem_of_mem_drop hx), by rw [List.length_drop]; omega⟩
set_option maxRecDepth 100000 in
set_option maxHeartbeats 8000000 in
theorem decode_c (w : World) (v : Value) (l : List Int) (h : BRd w v l) (hb : ∀ x ∈ l, Pk.IsB x) (hl : l.length ≤ 9000000000) :
    Calls Try.prog 18 #[v] w (IsDec l w) := by
  have HO := Aside0.mk (fun (W : World) (hB : Below w.heap.size w W) => open_c W v l (h.below hB) hb (by omega))
  cases ho : openL l with
  | none =>
    have HA := Aside0.mk (show ansE (openL l) = ([], 2) from by rw [ho]; rfl)
    have HD := Aside0.mk (show decM l = (zeroM, 2) from by unfold decM; rw [ho])
    clear h hb hl ho
    go_enter Try.func18, Try.ntmps18
    go_wp2_with (first | ((with_reducible refine gate_dst (N := 2) rfl ?_); refine alloc_row rfl 35 rfl _ (zero_msg _) ?_; intro g1 w1 hg hbox hb; have HX1 := Aside0.mk hbox; have HB1 := Aside0.mk hb; have HG1 := Aside0.mk (show w.heap.size ≤ g1 from by rw [hg]; exact Nat.le_refl _); clear hg hbox hb) | (go_at_call 34; (with_reducible refine (HO.out _ HB1.out).mono ?_); rintro e w3 ⟨hB, vv, rfl, hv⟩; rw [HA.out]; have HB3 := Aside0.mk (HB1.out.trans (hB.mono HB1.out.size)); have HX3 := Aside0.mk ((hB.block g1 (blk_lt HX1.out)).trans HX1.out); obtain ⟨A', c', es, _, _⟩ := id hv; rw [HA.out] at es; subst es; clear hB hv) | ((with_reducible refine gate_store (t := 35) (p := 2) rfl ?_); refine store_row rfl 35 (.tmp 2) (.tmp 15) rfl g1 rfl (msgC zeroC nils) _ rfl 35 HX3.out rfl info_msg (zero_rd w).one ?_; intro w4 hX hO; have HX4 := Aside0.mk hX; have HO4 := Aside0.mk hO; have HB4 := Aside0.mk (below_only HB3.out hO HB3.out.size (fun k hk => by have := HG1.out; have hk' : k = g1 := hk; omega)); clear hX hO) | fail)
    refine bodyPost_ret (results_ct (P := Try.prog) (fn := Try.f18) rfl _ _ g1 _ (msgC zeroC nils) (0, 0) _ rfl HX4.out Try.underlying35 rfl info_msg) rfl ?_
    refine ⟨HB4.out, _, by rw [HD.out]; rfl, ?_⟩
    rw [HD.out]
    exact zero_is _ _
  | some p =>
    obtain ⟨hpb, hpl⟩ := openL_isB ho hb
    have HA := Aside0.mk (show ansE (openL l) = (p, 0) from by rw [ho]; rfl)
    have HRD := Aside0.mk (fun (W : World) (A : Option Addr) (c : Nat) (hv : (Kd.int .u8).C W A p.length p) => read_m A p.length c p W (reads_of_c hv) (by omega) hpb)
    cases hok : rdOk p
    · have HD := Aside0.mk (show decM l = (zeroM, 2) from by unfold decM; rw [ho]; simp [hok])
      have HQ := Aside0.mk hok
      clear h hb hl ho hpb hpl hok
      go_enter Try.func18, Try.ntmps18
      go_wp2_with (first | ((with_reducible refine gate_dst (N := 2) rfl ?_); refine alloc_row rfl 35 rfl _ (zero_msg _) ?_; intro g1 w1 hg hbox hb; have HX1 := Aside0.mk hbox; have HB1 := Aside0.mk hb; have HG1 := Aside0.mk (show w.heap.size ≤ g1 from by rw [hg]; exact Nat.le_refl _); clear hg hbox hb) | (go_at_call 34; (with_reducible refine (HO.out _ HB1.out).mono ?_); rintro e w3 ⟨hB, vv, rfl, hv⟩; rw [HA.out] at hv ⊢; change BRd w3 vv p at hv; have HB3 := Aside0.mk (HB1.out.trans (hB.mono HB1.out.size)); have HX3 := Aside0.mk ((hB.block g1 (blk_lt HX1.out)).trans HX1.out); obtain ⟨A', c', es, hC', _⟩ := hv; subst es; have HC := Aside0.mk (HRD.out w3 A' c' hC'); clear hB hC') | (go_at_call 25; (with_reducible refine HC.out.mono ?_); rintro e w4 ⟨hB, v2, ok2, rfl, hok, svr, hM, hF⟩; obtain rfl := hM.agg; rw [HQ.out] at hok; subst hok; have HB4 := Aside0.mk (HB3.out.trans (hB.mono HB3.out.size)); have HX4 := Aside0.mk ((hB.block g1 (blk_lt HX3.out)).trans HX3.out); have HM4 := Aside0.mk hM; have HF4a := Aside0.mk hF; have HF4 := Aside0.mk (fun j fs hj k hk h0 => Nat.le_trans HB3.out.size (hF j fs hj k hk h0)); clear hF hM hB) | ((with_reducible refine gate_dst (N := 6) rfl ?_); refine alloc_row rfl 35 rfl _ (zero_msg _) ?_; intro g6 w5 hg hbox hb; have HX5 := Aside0.mk hbox; have HB5a := Aside0.mk hb; have HB5 := Aside0.mk (HB4.out.trans (hb.mono HB4.out.size)); have HX5g := Aside0.mk ((hb.block g1 (blk_lt HX4.out)).trans HX4.out); have HG6 := Aside0.mk (show w4.heap.size ≤ g6 from by rw [hg]; exact Nat.le_refl _); clear hg hbox hb) | ((with_reducible refine gate_store (t := 35) (p := 6) rfl ?_); refine store_row rfl 35 (.tmp 6) (.tmp 19) rfl g6 rfl (msgC (rdM p).c svr) _ rfl 35 HX5.out rfl info_msg HM4.out.one ?_; intro w6 hX hO; have HX6 := Aside0.mk hX; have HO6 := Aside0.mk hO; have HB6 := Aside0.mk (below_only HB5.out hO HB5.out.size (fun k hk => by have := HB4.out.size; have := HG6.out; have hk' : k = g6 := hk; omega)); have HX6g := Aside0.mk ((hO.block g1 (blk_lt HX5g.out) (fun e => by have := blk_lt HX4.out; have := HG6.out; have e' : g1 = g6 := e; omega)).trans HX5g.out); have HM6 := Aside0.mk (msg_new HM4.out HB5a.out hO HG6.out); clear hX hO) | ((with_reducible refine gate_store (t := 35) (p := 2) rfl ?_); refine store_row rfl 35 (.tmp 2) (.tmp 23) rfl g1 rfl (msgC zeroC nils) _ rfl 35 HX6g.out rfl info_msg (zero_rd w).one ?_; intro w7 hX hO; have HX7 := Aside0.mk hX; have HO7 := Aside0.mk hO; have HB7 := Aside0.mk (below_only HB6.out hO HB6.out.size (fun k hk => by have := HG1.out; have hk' : k = g1 := hk; omega)); clear hX hO) | fail)
      refine bodyPost_ret (results_ct (P := Try.prog) (fn := Try.f18) rfl _ _ g1 _ (msgC zeroC nils) (0, 0) _ rfl HX7.out Try.underlying35 rfl info_msg) rfl ?_
      refine ⟨HB7.out, _, by rw [HD.out]; rfl, ?_⟩
      rw [HD.out]
      exact zero_is _ _
    · have HD := Aside0.mk (show decM l = (rdM p, 0) from by unfold decM; rw [ho]; simp [hok])
      have HQ := Aside0.mk hok
      clear h hb hl ho hpb hpl hok
      go_enter Try.func18, Try.ntmps18
      go_wp2_with (first | ((with_reducible refine gate_dst (N := 2) rfl ?_); refine alloc_row rfl 35 rfl _ (zero_msg _) ?_; intro g1 w1 hg hbox hb; have HX1 := Aside0.mk hbox; have HB1 := Aside0.mk hb; have HG1 := Aside0.mk (show w.heap.size ≤ g1 from by rw [hg]; exact Nat.le_refl _); clear hg hbox hb) | (go_at_call 34; (with_reducible refine (HO.out _ HB1.out).mono ?_); rintro e w3 ⟨hB, vv, rfl, hv⟩; rw [HA.out] at hv ⊢; change BRd w3 vv p at hv; have HB3 := Aside0.mk (HB1.out.trans (hB.mono HB1.out.size)); have HX3 := Aside0.mk ((hB.block g1 (blk_lt HX1.out)).trans HX1.out); obtain ⟨A', c', es, hC', _⟩ := hv; subst es; have HC := Aside0.mk (HRD.out w3 A' c' hC'); clear hB hC') | (go_at_call 25; (with_reducible refine HC.out.mono ?_); rintro e w4 ⟨hB, v2, ok2, rfl, hok, svr, hM, hF⟩; obtain rfl := hM.agg; rw [HQ.out] at hok; subst hok; have HB4 := Aside0.mk (HB3.out.trans (hB.mono HB3.out.size)); have HX4 := Aside0.mk ((hB.block g1 (blk_lt HX3.out)).trans HX3.out); have HM4 := Aside0.mk hM; have HF4a := Aside0.mk hF; have HF4 := Aside0.mk (fun j fs hj k hk h0 => Nat.le_trans HB3.out.size (hF j fs hj k hk h0)); clear hF hM hB) | ((with_reducible refine gate_dst (N := 6) rfl ?_); refine alloc_row rfl 35 rfl _ (zero_msg _) ?_; intro g6 w5 hg hbox hb; have HX5 := Aside0.mk hbox; have HB5a := Aside0.mk hb; have HB5 := Aside0.mk (HB4.out.trans (hb.mono HB4.out.size)); have HX5g := Aside0.mk ((hb.block g1 (blk_lt HX4.out)).trans HX4.out); have HG6 := Aside0.mk (show w4.heap.size ≤ g6 from by rw [hg]; exact Nat.le_refl _); clear hg hbox hb) | ((with_reducible refine gate_store (t := 35) (p := 6) rfl ?_); refine store_row rfl 35 (.tmp 6) (.tmp 19) rfl g6 rfl (msgC (rdM p).c svr) _ rfl 35 HX5.out rfl info_msg HM4.out.one ?_; intro w6 hX hO; have HX6 := Aside0.mk hX; have HO6 := Aside0.mk hO; have HB6 := Aside0.mk (below_only HB5.out hO HB5.out.size (fun k hk => by have := HB4.out.size; have := HG6.out; have hk' : k = g6 := hk; omega)); have HX6g := Aside0.mk ((hO.block g1 (blk_lt HX5g.out) (fun e => by have := blk_lt HX4.out; have := HG6.out; have e' : g1 = g6 := e; omega)).trans HX5g.out); have HM6 := Aside0.mk (msg_new HM4.out HB5a.out hO HG6.out); clear hX hO) | ((with_reducible refine gate_dst (N := 24) rfl ?_); refine load_row rfl 35 (.tmp 6) rfl g6 rfl (msgC (rdM p).c svr) 35 HX6.out _ Try.underlying35 rfl info_msg ?_) | ((with_reducible refine gate_store (t := 35) (p := 2) rfl ?_); refine store_row rfl 35 (.tmp 2) (.tmp 24) rfl g1 rfl (msgC (rdM p).c svr) _ rfl 35 HX6g.out rfl info_msg HM6.out.one ?_; intro w7 hX hO; have HX7 := Aside0.mk hX; have HO7 := Aside0.mk hO; have HB7 := Aside0.mk (below_only HB6.out hO HB6.out.size (fun k hk => by have := HG1.out; have hk' : k = g1 := hk; omega)); have HM7 := Aside0.mk (HM6.out.only hO (fun j fs hj k hk h0 e => by have h1 := HF4a.out j fs hj k hk h0; have h2 := blk_lt HX3.out; have e' : k = g1 := e; omega)); have HF7 := Aside0.mk HF4.out; clear hX hO) | fail)
      refine bodyPost_ret (results_ct (P := Try.prog) (fn := Try.f18) rfl _ _ g1 _ (msgC (rdM p).c svr) (0, 0) _ rfl HX7.out Try.underlying35 rfl info_msg) rfl ?_
      refine ⟨HB7.out, _, by rw [HD.out]; rfl, ?_⟩
      rw [HD.out]
      exact ⟨svr, HM7.out, HF7.out⟩
end Go.Proofs.Ytcbehfbfaonanaa.Wr
end

/- A right message's payload is neither empty nor too long. -/
section
namespace Go.Proofs.Ytcbehfbfaonanaa.Wr
open Go.RowKit Go.Proofs.YtcbehfbfaonanaaW.PrintWords Go.Proofs.YtcbehfbfaonanaaW.PrintLast Go.Proofs.YtcbehfbfaonanaaW.PrintMore Go.Proofs.Ytcbehfbfaonanaa.Pk
open Go.Proofs.Ytcbehfbfaonanaa.PFr (sealL openL ansE Ok)
set_option linter.unusedVariables false
set_option linter.unusedSimpArgs false

def Fld.top : Fld → Nat
  | .num _ _ => 8
  | .flag => 8
  | .text most => 8 + most.toNat
def topRow : List Fld → Nat
  | [] => 0
  | f :: fs => f.top + topRow fs
def Step.top : Step → Nat
  | .row _ fs => topRow fs
  | .most => 8
  | .lst _ fs n => 8 + n * topRow fs
def topAll : List Step → Nat
  | [] => 0
  | t :: ts => t.top + topAll ts
/-- From s to s' no more than c bytes were written, unless a bound was broken; a broken one stays so; what was written stays. -/
def Kin (c : Nat) (s s' : OSt) : Prop := (s'.2.2 = false → s.2.2 = false ∧ s'.1.length ≤ s.1.length + c) ∧ s.1.length ≤ s'.1.length
theorem Kin.refl (s : OSt) : Kin 0 s s := ⟨fun h => ⟨h, Nat.le_refl _⟩, Nat.le_refl _⟩
theorem Kin.trans {c d : Nat} {s s1 s2 : OSt} (h : Kin c s s1) (k : Kin d s1 s2) : Kin (c + d) s s2 :=
  ⟨fun e => ⟨(h.1 (k.1 e).1).1, by have := (k.1 e).2; have := (h.1 (k.1 e).1).2; omega⟩, Nat.le_trans h.2 k.2⟩
theorem Kin.mono {c d : Nat} {s s1 : OSt} (h : Kin c s s1) (hc : c ≤ d) : Kin d s s1 := ⟨fun e => ⟨(h.1 e).1, by have := (h.1 e).2; omega⟩, h.2⟩
theorem wnum_ge (n : Int) (xs : List Int) (bad : Bool) : xs.length ≤ (wnum n xs bad).1.length := by
  unfold wnum
  split
  · exact Nat.le_refl _
  · split
    · exact Nat.le_refl _
    · rw [List.length_append]; omega
theorem kin_num (s : OSt) (n lo hi : Int) : Kin 8 s (onum s n lo hi) := ⟨fun h => by
  simp only [onum, Bool.or_eq_false_iff] at h
  exact ⟨h.1.1, wnum_le _ _ _⟩, wnum_ge _ _ _⟩
theorem kin_flag (s : OSt) (x : Bool) : Kin 8 s (oflag s x) := ⟨fun h => ⟨h, wnum_le _ _ _⟩, wnum_ge _ _ _⟩
theorem kin_text (s : OSt) (x : ByteArray) (most : Int) : Kin (8 + most.toNat) s (otext s x most) := by
  constructor
  · intro h
    simp only [otext, Bool.or_eq_false_iff, decide_eq_false_iff_not] at h
    refine ⟨h.1, ?_⟩
    have := wtext_le x s.1 s.2.1
    show (wtext x s.1 s.2.1).1.length ≤ _
    omega
  · show _ ≤ (wtext x s.1 s.2.1).1.length
    have := wnum_ge (x.size : Int) s.1 s.2.1
    unfold wtext
    split
    · exact this
    · rw [List.length_append]; omega
theorem kin_count (s : OSt) (n most : Int) : Kin 8 s (ocount s n most) := ⟨fun h => by
  simp only [ocount, Bool.or_eq_false_iff] at h
  exact ⟨h.1, wnum_le _ _ _⟩, wnum_ge _ _ _⟩
theorem kin_fld (s : OSt) (f : Fld) (v : Value) : Kin f.top s ((oForm 0).fld s f v).1 := by
  unfold Form.fld
  split
  · exact kin_num s _ _ _
  · exact kin_flag s _
  · exact kin_text s _ _
  · exact (Kin.refl s).mono (Nat.zero_le _)
theorem kin_row : ∀ (fs : List Fld) (vs : List Value) (s : OSt), Kin (topRow fs) s ((oForm 0).row s fs vs).1
  | [], vs, s => by cases vs <;> exact Kin.refl s
  | f :: fs, [], s => (Kin.refl s).mono (Nat.zero_le _)
  | f :: fs, v :: vs, s => (kin_fld s f v).trans (kin_row fs vs _)
theorem kin_rows (fs : List Fld) : ∀ (rs : List (List Value)) (s : OSt), Kin (rs.length * topRow fs) s ((oForm 0).rows fs s rs).1
  | [], s => (show Kin ([].length * topRow fs) s s from (Kin.refl s).mono (Nat.zero_le _))
  | r :: rs, s => ((kin_row fs r s).trans (kin_rows fs rs _)).mono (by rw [List.length_cons, Nat.add_mul]; omega)
theorem kin_list (fs : List Fld) (s : OSt) (most : Nat) (rows : List (List Value)) : Kin (8 + most * topRow fs) s ((oForm 0).list fs s most rows).1 := by
  refine (kin_count s rows.length most).trans ((kin_rows fs (((oForm 0).listR fs s most rows).take ((oForm 0).listM s most rows.length)) _).mono (Nat.mul_le_mul_right _ ?_))
  rw [List.length_take]
  unfold Form.listM
  omega
theorem kin_step (s : OSt) (m : M) (t : Step) : Kin t.top s ((oForm 0).step s m t).1 := by
  cases t with
  | row i fs => exact kin_row fs _ s
  | most => exact kin_row [.num (maxOf (m.c 6)) 128] _ s
  | lst j fs n => exact kin_list fs s n _
theorem kin_run : ∀ (ts : List Step) (s : OSt) (m : M), Kin (topAll ts) s ((oForm 0).run s m ts).1
  | [], s, m => Kin.refl s
  | t :: ts, s, m => (kin_step s m t).trans (kin_run ts _ _)
theorem top_script (n : Int) : topAll (script n) ≤ 60000 := by
  unfold script headS fieldsS
  repeat' split
  all_goals decide
theorem wnum_pos {n : Int} {xs : List Int} {bad : Bool} (h : (wnum n xs bad).2 = false) : xs.length < (wnum n xs bad).1.length := by
  unfold wnum at h ⊢
  split
  · rename_i h'; rw [if_pos h'] at h; cases h
  · rename_i h'
    rw [if_neg h'] at h
    split
    · rename_i h''; rw [if_pos h''] at h; cases h
    · rw [List.length_append]; have := enc_pos n.toNat; omega
/-! the packer, once spoilt, stays so -/
theorem wnum_bad (n : Int) (xs : List Int) : (wnum n xs true).2 = true := by unfold wnum; split <;> simp
theorem bad_fld (s : OSt) (h : s.2.1 = true) (f : Fld) (v : Value) : ((oForm 0).fld s f v).1.2.1 = true := by
  unfold Form.fld
  split
  · show (wnum _ s.1 s.2.1).2 = true; rw [h]; exact wnum_bad _ _
  · show (wnum _ s.1 s.2.1).2 = true; rw [h]; exact wnum_bad _ _
  · show (wtext _ s.1 s.2.1).2 = true
    rw [h]
    unfold wtext
    rw [if_pos (wnum_bad _ _)]
  · exact h
theorem bad_row : ∀ (fs : List Fld) (vs : List Value) (s : OSt), s.2.1 = true → ((oForm 0).row s fs vs).1.2.1 = true
  | [], vs, s, h => by cases vs <;> exact h
  | f :: fs, [], s, h => h
  | f :: fs, v :: vs, s, h => bad_row fs vs _ (bad_fld s h f v)
theorem bad_rows (fs : List Fld) : ∀ (rs : List (List Value)) (s : OSt), s.2.1 = true → ((oForm 0).rows fs s rs).1.2.1 = true
  | [], s, h => h
  | r :: rs, s, h => bad_rows fs rs _ (bad_row fs r s h)
theorem bad_step (s : OSt) (m : M) (t : Step) (h : s.2.1 = true) : ((oForm 0).step s m t).1.2.1 = true := by
  cases t with
  | row i fs => exact bad_row fs _ s h
  | most => exact bad_row _ _ s h
  | lst j fs n => exact bad_rows fs _ _ (show (wnum _ s.1 s.2.1).2 = true by rw [h]; exact wnum_bad _ _)
theorem bad_run : ∀ (ts : List Step) (s : OSt) (m : M), s.2.1 = true → ((oForm 0).run s m ts).1.2.1 = true
  | [], s, m, h => h
  | t :: ts, s, m, h => bad_run ts _ _ (bad_step s m t h)
/-- The payload is one that is sealed. -/
theorem pay_ok {m : M} (ht : Typed m) (h : payOk m = true) : Ok (payB m) := by
  unfold payOk at h
  simp only [Bool.and_eq_true, Bool.not_eq_true'] at h
  obtain ⟨⟨⟨h1, h2⟩, h3⟩, h4⟩ := h
  obtain ⟨x, hx⟩ : ∃ x, m.c 0 = .int .i64 x := ht 0 rfl
  have e0 : ((oForm 0).rowM ([], false, false) m 0 [.num 1 10]).1 = onum ([], false, false) x 1 10 := by
    show ((oForm 0).row ([], false, false) [.num 1 10] (valsAt m.c 0 1)).1 = _
    simp only [valsAt, hx]
    rfl
  have e1 : payS m = ((oForm 0).run ((oForm 0).rowM ([], false, false) m 0 [.num 1 10]).1 ((oForm 0).rowM ([], false, false) m 0 [.num 1 10]).2 (script (kindM ((oForm 0).rowM ([], false, false) m 0 [.num 1 10]).2))).1 := rfl
  have k := kin_run (script (kindM ((oForm 0).rowM ([], false, false) m 0 [.num 1 10]).2)) ((oForm 0).rowM ([], false, false) m 0 [.num 1 10]).1 ((oForm 0).rowM ([], false, false) m 0 [.num 1 10]).2
  rw [← e1, e0] at k
  have k0 := kin_num ([], false, false) x 1 10
  have hb : (onum ([], false, false) x 1 10).2.1 = false := by
    cases hb : (onum ([], false, false) x 1 10).2.1 with
    | false => rfl
    | true =>
      have := bad_run (script (kindM ((oForm 0).rowM ([], false, false) m 0 [.num 1 10]).2)) _ ((oForm 0).rowM ([], false, false) m 0 [.num 1 10]).2 hb
      rw [← e0, ← e1, h3] at this
      cases this
  have hp : 0 < (onum ([], false, false) x 1 10).1.length := wnum_pos (n := x) (xs := []) (bad := false) hb
  have ht := top_script (kindM ((oForm 0).rowM ([], false, false) m 0 [.num 1 10]).2)
  have k1 := (k.1 h4).2
  have k2 := (k0.1 (k.1 h4).1).2
  have k3 := k.2
  unfold Ok payB
  simp only [List.length_nil] at k2
  omega
theorem sealA_ok {m : M} (ht : Typed m) (h : RightM m) : sealA (payB m) = (sealL (payB m), 0) := by unfold sealA; rw [if_pos (pay_ok ht h.1)]
end Go.Proofs.Ytcbehfbfaonanaa.Wr
end

/- awake's message: its bytes are seen. -/
section
namespace Go.Proofs.Ytcbehfbfaonanaa.Wr
open Go.RowKit PFr Go.Proofs.YtcbehfbfaonanaaW.PrintWords Go.Proofs.YtcbehfbfaonanaaW.PrintLast Go.Proofs.YtcbehfbfaonanaaW.PrintMore Go.Proofs.Ytcbehfbfaonanaa.Pk
set_option linter.unusedVariables false
set_option linter.unusedSimpArgs false

def aw : M := ⟨fun i => if i = 0 then .int .i64 6 else if i = 2 then .int .i64 3 else zeroC i, fun _ => []⟩
theorem aw_pay : payB aw = [6, 3] := by decide +kernel
theorem aw_ok : payOk aw = true := by decide +kernel
theorem aw_rdOk : rdOk [6, 3] = true := by decide +kernel
theorem aw_typed : Typed aw := fun i hi => by
  unfold aw
  by_cases h0 : i = 0
  · subst h0; exact ⟨_, rfl⟩
  · by_cases h2 : i = 2
    · subst h2; exact ⟨_, rfl⟩
    · simp only [h0, h2, if_false]
      exact zero_typed i hi
theorem scalar_lt {i : Nat} (h : scalar i = true) : i < 26 := by unfold scalar at h; simp only [Bool.and_eq_true, decide_eq_true_eq] at h; exact h.1
theorem aw_c : ∀ i, scalar i = true → aw.c i = (rdM [6, 3]).c i := fun i hi => by
  have h := scalar_lt hi
  have : i = 0 ∨ i = 1 ∨ i = 2 ∨ i = 3 ∨ i = 4 ∨ i = 5 ∨ i = 6 ∨ i = 7 ∨ i = 8 ∨ i = 9 ∨ i = 10 ∨ i = 11 ∨ i = 12 ∨ i = 13 ∨ i = 14 ∨ i = 15 ∨ i = 16 ∨ i = 17 ∨ i = 18 ∨ i = 19 ∨ i = 20 ∨ i = 21 ∨ i = 22 ∨ i = 23 ∨ i = 24 ∨ i = 25 := by omega
  rcases this with rfl | rfl | rfl | rfl | rfl | rfl | rfl | rfl | rfl | rfl | rfl | rfl | rfl | rfl | rfl | rfl | rfl | rfl | rfl | rfl | rfl | rfl | rfl | rfl | rfl | rfl
  · exact (by kernel_rfl : aw.c 0 = (rdM [6, 3]).c 0)
  · exact (by kernel_rfl : aw.c 1 = (rdM [6, 3]).c 1)
  · exact (by kernel_rfl : aw.c 2 = (rdM [6, 3]).c 2)
  · exact absurd hi (by decide)
  · exact (by kernel_rfl : aw.c 4 = (rdM [6, 3]).c 4)
  · exact (by kernel_rfl : aw.c 5 = (rdM [6, 3]).c 5)
  · exact (by kernel_rfl : aw.c 6 = (rdM [6, 3]).c 6)
  · exact (by kernel_rfl : aw.c 7 = (rdM [6, 3]).c 7)
  · exact absurd hi (by decide)
  · exact absurd hi (by decide)
  · exact absurd hi (by decide)
  · exact (by kernel_rfl : aw.c 11 = (rdM [6, 3]).c 11)
  · exact (by kernel_rfl : aw.c 12 = (rdM [6, 3]).c 12)
  · exact (by kernel_rfl : aw.c 13 = (rdM [6, 3]).c 13)
  · exact (by kernel_rfl : aw.c 14 = (rdM [6, 3]).c 14)
  · exact (by kernel_rfl : aw.c 15 = (rdM [6, 3]).c 15)
  · exact (by kernel_rfl : aw.c 16 = (rdM [6, 3]).c 16)
  · exact (by kernel_rfl : aw.c 17 = (rdM [6, 3]).c 17)
  · exact (by kernel_rfl : aw.c 18 = (rdM [6, 3]).c 18)
  · exact (by kernel_rfl : aw.c 19 = (rdM [6, 3]).c 19)
  · exact (by kernel_rfl : aw.c 20 = (rdM [6, 3]).c 20)
  · exact (by kernel_rfl : aw.c 21 = (rdM [6, 3]).c 21)
  · exact (by kernel_rfl : aw.c 22 = (rdM [6, 3]).c 22)
  · exact (by kernel_rfl : aw.c 23 = (rdM [6, 3]).c 23)
  · exact (by kernel_rfl : aw.c 24 = (rdM [6, 3]).c 24)
  · exact (by kernel_rfl : aw.c 25 = (rdM [6, 3]).c 25)
theorem aw_right : RightM aw := ⟨aw_ok, by rw [aw_pay]; exact aw_rdOk, by
  rw [aw_pay]
  refine ⟨aw_c, fun j fs hj => ?_⟩
  simp only [lists, List.mem_cons, Prod.mk.injEq, List.not_mem_nil, or_false] at hj
  rcases hj with ⟨rfl, rfl⟩ | ⟨rfl, rfl⟩ | ⟨rfl, rfl⟩ | ⟨rfl, rfl⟩ <;> kernel_rfl⟩
theorem aw_seal : sealA (payB aw) = (sealL [6, 3], 0) := by rw [sealA_ok aw_typed aw_right, aw_pay]
theorem aw_dec : decM (sealL [6, 3]) = (rdM [6, 3], 0) := by
  have ho : openL (sealL [6, 3]) = some [6, 3] := PFr.openL_sealL (by have := pay_ok aw_typed aw_ok; rwa [aw_pay] at this)
  unfold decM
  rw [ho]
  simp only [aw_rdOk, if_true]
theorem aw_small : Small aw := by
  refine ⟨⟨fun i => ?_, fun j r hr => nomatch hr⟩, fun j => Nat.zero_le _, fun j r hr => nomatch hr⟩
  unfold aw
  intro s hs
  by_cases h0 : i = 0
  · simp [h0] at hs
  · by_cases h2 : i = 2
    · simp [h2] at hs
    · simp only [h0, h2, if_false, zeroC] at hs
      cases hk : kindOf i <;> rw [hk] at hs <;> first | cases hs; exact Nat.zero_le _ | cases hs
end Go.Proofs.Ytcbehfbfaonanaa.Wr
end

/- awake. -/
section
namespace Go.Proofs.Ytcbehfbfaonanaa.Wr
open Go.RowKit Go.Proofs.YtcbehfbfaonanaaW.PrintWords Go.Proofs.YtcbehfbfaonanaaW.PrintLast Go.Proofs.YtcbehfbfaonanaaW.PrintMore Go.Proofs.Ytcbehfbfaonanaa.Pk
open Go.Proofs.Ytcbehfbfaonanaa.PFr (sealL openL ansE Ok)
set_option linter.unusedVariables false
set_option linter.unusedSimpArgs false

theorem aw_rd (w : World) : MsgRd w (.agg (msgC aw.c nils)) aw nils := ⟨rfl, aw_typed, fun _ _ _ r hr => (nomatch hr), fun j fs hj => ⟨none, 0, rfl, fun _ => rfl, fun h => absurd rfl h⟩⟩
theorem aw_enc (w : World) : Calls Try.prog 11 #[.agg (msgC aw.c nils)] w (IsBE (sealL [6, 3]) 0 w) := by
  have h := encode_yes w _ aw nils (aw_rd w) aw_small aw_right
  rw [aw_seal] at h
  exact h
theorem aw_isB : (∀ x ∈ sealL [6, 3], 0 ≤ x ∧ x < 256) ∧ (sealL [6, 3]).length ≤ 9000000000 := by decide +kernel
theorem aw_none : ∀ j, (rdM [6, 3]).L j = [] := fun j => by
  have : (rdM [6, 3]).L = fun _ => [] := by kernel_rfl
  rw [this]
theorem aw_ne : ¬ MEq aw zeroM := fun h => by
  have := h.1 0 rfl
  simp [aw, zeroM, zeroC, kindOf] at this
theorem aw_any {w w' : World} {v : Value} {sv : Nat → Value} (h : MsgRd w v (rdM [6, 3]) sv) : MsgRd w' v (rdM [6, 3]) sv :=
  ⟨h.eq, h.typed, h.fit, fun j fs hj => by
    obtain ⟨A, c, e, h0, h1⟩ := h.rd j fs hj
    exact ⟨A, c, e, h0, fun h => absurd (aw_none j) h⟩⟩
def IsGot (w : World) (e : Ending) (w' : World) : Prop := Below w.heap.size w w' ∧ ∃ sv, e = .returned (.tuple #[.agg (msgC (rdM [6, 3]).c sv), .int .i64 0]) ∧ ∀ W, MsgRd W (.agg (msgC (rdM [6, 3]).c sv)) (rdM [6, 3]) sv
theorem aw_got (w : World) (v : Value) (h : BRd w v (sealL [6, 3])) : Calls Try.prog 18 #[v] w (IsGot w) := by
  refine (decode_c w v _ h aw_isB.1 aw_isB.2).mono ?_
  rintro e w' ⟨hB, v', rfl, sv, hM, _⟩
  rw [aw_dec] at hM ⊢
  obtain rfl := hM.agg
  exact ⟨hB, _, rfl, fun W => aw_any hM⟩
set_option maxRecDepth 100000 in
set_option maxHeartbeats 4000000 in
theorem awake_c (w : World) : Calls Try.prog 8 #[] w (IsEqB True w) := by
  have HME := Aside0.mk (show MEq (rdM [6, 3]) aw from ⟨fun i hi => (aw_c i hi).symm, fun j _ _ => aw_none j⟩)
  have HS2 := Aside0.mk (fun (W : World) => isB_true aw_right (right_c W _ aw nils (aw_rd W) aw_small))
  have HS3 : Aside0 (∀ W : World, Calls Try.prog 17 #[.agg (msgC aw.c nils), .agg #[.int .i64 0, .int .i64 0, .int .i64 0, .slice none 0 0, .int .i64 0, .int .i64 0, .int .i64 0, .int .i64 0, .slice none 0 0, .slice none 0 0, .slice none 0 0, .int .i64 0, .int .i64 0, .bool false, .int .i64 0, .int .i64 0, .string ⟨#[]⟩, .bool false, .string ⟨#[]⟩, .int .i64 0, .int .i64 0, .int .i64 0, .int .i64 0, .int .i64 0, .bool false, .string ⟨#[]⟩]] W (fun e w' => e = .returned (.bool false) ∧ Below W.heap.size W w')) := Aside0.mk (fun (W : World) => isB_false aw_ne (wireSame_c W _ _ aw zeroM nils nils (aw_rd W) (zero_rd W) (fun j => Nat.zero_le _) (fun j => Nat.zero_le _)))
  go_enter Try.func8, Try.ntmps8
  go_wp2_with (first | ((with_reducible refine gate_dst (N := 1) rfl ?_); refine alloc_row rfl 35 rfl _ (zero_msg _) ?_; intro g1 w1 hg hbox hb; have HX1 := Aside0.mk hbox; have HB1 := Aside0.mk hb; have HG1 := Aside0.mk hg; clear hg hbox hb) | ((with_reducible refine gate_store (t := 35) (p := 1) rfl ?_); refine store_row rfl 35 (.tmp 1) (.tmp 6) rfl g1 rfl (msgC aw.c nils) _ rfl 35 HX1.out rfl info_msg (aw_rd w).one ?_; intro w2 hX hO; have HX2 := Aside0.mk hX; have HB2 := Aside0.mk (below_only HB1.out hO HB1.out.size (fun k hk => by have := HG1.out; have hk' : k = g1 := hk; omega)); clear hX hO) | ((with_reducible refine gate_dst (N := 8) rfl ?_); refine load_row rfl 35 (.tmp 1) rfl g1 rfl (msgC aw.c nils) 35 HX2.out _ Try.underlying35 rfl info_msg ?_) | (go_at_call 11; (with_reducible refine (aw_enc _).mono ?_); rintro e w3 ⟨hB, vv, rfl, hv⟩; have HB3 := Aside0.mk (HB2.out.trans (hB.mono HB2.out.size)); obtain ⟨A', c', es, h1, h2⟩ := id hv; have HV := Aside0.mk (show BRd w3 vv _ from hv); subst es; have HG := Aside0.mk (aw_got w3 _ HV.out); have HX32 := Aside0.mk ((hB.block g1 (blk_lt HX2.out)).trans HX2.out); clear hB hv h1 h2 HV) | (go_at_call 18; (with_reducible refine HG.out.mono ?_); rintro e w4 ⟨hB, sv, rfl, hOne⟩; have HB4 := Aside0.mk (HB3.out.trans (hB.mono HB3.out.size)); have HOn := Aside0.mk hOne; have HX42 := Aside0.mk ((hB.block g1 (blk_lt HX32.out)).trans HX32.out); clear hB hOne) | ((with_reducible refine gate_dst (N := 4) rfl ?_); refine alloc_row rfl 35 rfl _ (zero_msg _) ?_; intro g4 w5 hg hbox hb; have HX5 := Aside0.mk hbox; have HB5 := Aside0.mk (HB4.out.trans (hb.mono HB4.out.size)); have HG5 := Aside0.mk (show w.heap.size ≤ g4 from by rw [hg]; exact HB4.out.size); have HG4 := Aside0.mk (show g1 ≠ g4 from by have := blk_lt HX42.out; omega); have HX52 := Aside0.mk ((hb.block g1 (blk_lt HX42.out)).trans HX42.out); clear hg hbox hb) | ((with_reducible refine gate_store (t := 35) (p := 4) rfl ?_); refine store_row rfl 35 (.tmp 4) (.tmp 15) rfl g4 rfl (msgC (rdM [6, 3]).c sv) _ rfl 35 HX5.out rfl info_msg (HOn.out default).one ?_; intro w6 hX hO; have HX6 := Aside0.mk hX; have HX62 := Aside0.mk (hO.blk HX52.out (by have := HG4.out; omega)); have HB6 := Aside0.mk (below_only HB5.out hO HB5.out.size (fun k hk => by have := HG5.out; have hk' : k = g4 := hk; omega)); have HS1 := Aside0.mk (fun (W : World) => isB_true (show MEq (rdM [6, 3]) aw from HME.out) (wireSame_c W _ _ _ aw sv nils (HOn.out W) (aw_rd W) (fun j => by rw [aw_none]; exact Nat.zero_le _) (fun j => Nat.zero_le _))); clear hX hO) | ((with_reducible refine gate_dst (N := 29) rfl ?_); refine gate_guard rfl ?_; refine load_row rfl 35 (.tmp 4) rfl g4 rfl (msgC (rdM [6, 3]).c sv) 35 HX6.out _ Try.underlying35 rfl info_msg ?_) | ((with_reducible refine gate_dst (N := 30) rfl ?_); refine gate_guard rfl ?_; refine load_row rfl 35 (.tmp 1) rfl g1 rfl (msgC aw.c nils) 35 HX62.out _ Try.underlying35 rfl info_msg ?_) | (go_at_call 17; (with_reducible refine (HS1.out _).mono ?_); rintro e w7 ⟨rfl, hB⟩; have HB7 := Aside0.mk (HB6.out.trans (hB.mono HB6.out.size)); have HX7 := Aside0.mk ((hB.block g1 (blk_lt HX62.out)).trans HX62.out); clear hB HS1) | ((with_reducible refine gate_dst (N := 34) rfl ?_); refine gate_guard rfl ?_; refine load_row rfl 35 (.tmp 1) rfl g1 rfl (msgC aw.c nils) 35 HX7.out _ Try.underlying35 rfl info_msg ?_) | (go_at_call 13; (with_reducible refine (HS2.out _).mono ?_); rintro e w8 ⟨rfl, hB⟩; have HB8 := Aside0.mk (HB7.out.trans (hB.mono HB7.out.size)); have HX8 := Aside0.mk ((hB.block g1 (blk_lt HX7.out)).trans HX7.out); clear hB) | ((with_reducible refine gate_dst (N := 38) rfl ?_); refine gate_guard rfl ?_; refine load_row rfl 35 (.tmp 1) rfl g1 rfl (msgC aw.c nils) 35 HX8.out _ Try.underlying35 rfl info_msg ?_) | (go_at_call 17; (with_reducible refine (HS3.out _).mono ?_); rintro e w9 ⟨rfl, hB⟩; have HB9 := Aside0.mk (HB8.out.trans (hB.mono HB8.out.size)); clear hB) | fail)
  go_ret
  exact ⟨true, rfl, by simp, HB9.out⟩
end Go.Proofs.Ytcbehfbfaonanaa.Wr
end

/- A flat type's reading: cells of the kinds that the type says. -/
section
namespace Go.Proofs.Ytcbehfbfaonanaa.Wr
open Go.RowKit Go.ChangeShapes Go.WideShapes Go.ChangeAt Go.Proofs.YtcbehfbfaonanaaW.PrintWords Go.Proofs.Ytcbehfbfaonanaa.Pk
set_option linter.unusedVariables false

/-- The cells of a row of fields. -/
def flatF (P : Program) (g : TypeId → Option (List Fld)) : Nat → List Field → Option (List Fld)
  | _, [] => some []
  | o, f :: fs => match g f.type, flatF P g (o + P.cellsOf f.type) fs with
    | some a, some b => if f.offset = o ∧ P.cellsOf f.type = a.length then some (a ++ b) else none
    | _, _ => none
/-- The cells of a flat type: numbers, flags, texts. -/
def flat (P : Program) : Nat → TypeId → Option (List Fld)
  | 0, _ => none
  | n + 1, t => match P.underlying t with
    | some (.int .i64) => some [.num 0 0]
    | some .bool => some [.flag]
    | some .string => some [.text 0]
    | some (.struct fs) => match flatF P (flat P n) 0 fs.toList with
      | some ks => if P.cellsOf t = ks.length then some ks else none
      | none => none
    | _ => none
/-- A cell oas a reading finds it. -/
def GoodV (N : Nat) (f : Fld) (v : Value) : Prop := f.fits v ∧ Lite N v ∧ ∀ n, v = .int .i64 n → (Lit.int .i64 n).wf = true
theorem bulk_mem {H : Type} : ∀ {ds : List (DataW H)} {d : DataW H}, d ∈ ds → Rows.uptoBulk d ≤ Rows.uptoBulkAll ds
  | e :: r, d, h => by
    have e1 : Rows.uptoBulkAll (e :: r) = Rows.uptoBulk e + Rows.uptoBulkAll r := by simp [Rows.uptoBulkAll]
    rcases List.mem_cons.1 h with rfl | h
    · omega
    · have := bulk_mem h; omega
theorem bulk_agg {H : Type} (ds : List (DataW H)) : Rows.uptoBulk (.agg ds) = Rows.uptoBulkAll ds + 1 := by simp [Rows.uptoBulk]
section
variable {H : Type} {enc : TypeId × Value → H} {P : Program} {W : World} {base : Nat} {spare : Nat → Bool} {held : Bool}
theorem flat_fields {N n : Nat} (ih : ∀ t ks, flat P n t = some ks → ∀ fuel cs x, DataW.trod enc P W base spare held fuel t cs = some x → Rows.uptoBulk x.1 ≤ N → cs.length = ks.length ∧ ∀ (i : Nat) f v, ks[i]? = some f → cs[i]? = some v → GoodV N f v) :
    ∀ (fs : List Field) (o : Nat) (ks : List Fld), flatF P (flat P n) o fs = some ks → ∀ cs : List Value, (∀ f, f ∈ fs → ∃ fuel x, DataW.trod enc P W base spare held fuel f.type ((cs.drop f.offset).take (P.cellsOf f.type)) = some x ∧ Rows.uptoBulk x.1 ≤ N) →
      ∀ (i : Nat) f v, ks[i]? = some f → cs[o + i]? = some v → GoodV N f v
  | [], o, ks, h, cs, _, i, f, v, hi, _ => by
    unfold flatF at h
    injection h with h
    subst h
    simp at hi
  | g :: fs, o, ks, h, cs, ht, i, f, v, hi, hv => by
    unfold flatF at h
    split at h
    · rename_i a b ha hb
      split at h
      · rename_i hc
        injection h with h
        subst h
        obtain ⟨h1, h2⟩ := hc
        obtain ⟨fuel, x, hx, hN⟩ := ht g (List.mem_cons_self ..)
        obtain ⟨hl, hk⟩ := ih _ _ ha _ _ _ hx hN
        by_cases hia : i < a.length
        · rw [List.getElem?_append_left hia] at hi
          refine hk i f v hi ?_
          rw [List.getElem?_take, if_pos (by omega), List.getElem?_drop, h1]
          exact hv
        · rw [List.getElem?_append_right (by omega)] at hi
          refine flat_fields ih fs (o + P.cellsOf g.type) b hb cs (fun f' hf' => ht f' (List.mem_cons_of_mem _ hf')) (i - a.length) f v hi ?_
          rw [show o + P.cellsOf g.type + (i - a.length) = o + i by omega]
          exact hv
      · cases h
    · cases h
theorem trod_flat {N : Nat} : ∀ (n : Nat) (t : TypeId) (ks : List Fld), flat P n t = some ks → ∀ fuel cs x, DataW.trod enc P W base spare held fuel t cs = some x → Rows.uptoBulk x.1 ≤ N → cs.length = ks.length ∧ ∀ (i : Nat) f v, ks[i]? = some f → cs[i]? = some v → GoodV N f v
  | 0, t, ks, h => by unfold flat at h; cases h
  | n + 1, t, ks, h => by
    intro fuel cs x hx hN
    unfold flat at h
    split at h
    · rename_i hu
      injection h with h
      subst h
      obtain ⟨z, rfl, _, hw⟩ := DataW.trod_int hu hx
      refine ⟨rfl, fun i f v hi hv => ?_⟩
      match i, hi, hv with
      | 0, hi, hv =>
        simp only [List.getElem?_cons_zero, Option.some.injEq] at hi hv
        subst hi hv
        exact ⟨⟨_, rfl⟩, (fun s hs => by cases hs), (fun m hm => by cases hm; exact hw)⟩
      | i + 1, hi, _ => simp at hi
    · rename_i hu
      injection h with h
      subst h
      obtain ⟨z, rfl, _⟩ := DataW.trod_bool hu hx
      refine ⟨rfl, fun i f v hi hv => ?_⟩
      match i, hi, hv with
      | 0, hi, hv =>
        simp only [List.getElem?_cons_zero, Option.some.injEq] at hi hv
        subst hi hv
        exact ⟨⟨_, rfl⟩, (fun s hs => by cases hs), (fun m hm => by cases hm)⟩
      | i + 1, hi, _ => simp at hi
    · rename_i hu
      injection h with h
      subst h
      obtain ⟨z, rfl, rfl, _⟩ := DataW.trod_string hu hx
      refine ⟨rfl, fun i f v hi hv => ?_⟩
      match i, hi, hv with
      | 0, hi, hv =>
        simp only [List.getElem?_cons_zero, Option.some.injEq] at hi hv
        subst hi hv
        refine ⟨⟨_, rfl⟩, (fun s hs => ?_), (fun m hm => by cases hm)⟩
        cases hs
        have e : Rows.uptoBulk (.lit (.string z.data.toList) : DataW H) = z.data.toList.length + 1 := by simp [Rows.uptoBulk]
        rw [e] at hN
        have : z.size = z.data.toList.length := (Array.length_toList (xs := z.data)).symm
        omega
      | i + 1, hi, _ => simp at hi
    · rename_i fs hu
      split at h
      · rename_i ks' hks
        split at h
        · rename_i hc
          injection h with h
          subst h
          obtain ⟨xs, m, rfl, rfl, hl, hxl, hf⟩ := DataW.trod_struct hu hx
          refine ⟨hl.trans hc, fun i f v hi hv => ?_⟩
          refine flat_fields (trod_flat n) fs.toList 0 ks' hks cs (fun g hg => ?_) i f v hi (by rwa [Nat.zero_add])
          obtain ⟨j, hj⟩ := List.mem_iff_getElem?.1 hg
          have hj' : fs[j]? = some g := by simpa using hj
          have hjl : j < xs.length := by rw [hxl]; exact (Array.getElem?_eq_some_iff.1 hj').1
          have h1 := hf j g hj'
          rw [List.getElem?_eq_getElem hjl] at h1
          refine ⟨m, _, h1, ?_⟩
          have hN' : Rows.uptoBulkAll (xs.map (·.1)) + 1 ≤ N := by rw [← bulk_agg]; exact hN
          have := bulk_mem (List.mem_map_of_mem (f := (·.1)) (List.getElem_mem hjl))
          omega
        · cases h
      · cases h
    · cases h
end
end Go.Proofs.Ytcbehfbfaonanaa.Wr
end
