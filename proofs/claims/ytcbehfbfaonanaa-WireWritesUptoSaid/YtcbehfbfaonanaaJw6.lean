/- Part 7 of the texts that walk the program and tell its laws, joined in the order of their building. No conditions. -/
import Derived.Test.YtcbehfbfaonanaaJw2
set_option maxRecDepth 100000
set_option maxHeartbeats 16000000
section
namespace Go.Proofs.Ytcbehfbfaonanaa.PFr
open Go.RowKit Go.Proofs.YtcbehfbfaonanaaW.PrintWords Go.Proofs.YtcbehfbfaonanaaW.PrintLast Go.Proofs.YtcbehfbfaonanaaW.PrintMore
attribute [local go_sem] zgo zgp zin zio zfm zfn zgq zgr
set_option linter.unusedVariables false
set_option linter.unusedSimpArgs false
def frame_four.f (a0 : Int) : Option (List Int) := some (([(a0 / 16777216) % 256, (a0 / 65536) % 256, (a0 / 256) % 256, (a0) % 256] : List Int))
theorem frame_four.calls (a0 : Int) (r : List Int) (w : World) (h : frame_four.f a0 = some r) :
  Calls Try.prog 43 #[.int .u32 a0] w fun e w' => ∃ v0_ : Value, e = .returned (v0_) ∧ Kd.R (Kd.int .u8) 5 w' w.heap.size (fun _ => True) v0_ r ∧ Below w.heap.size w w' := by
 have HB := aK (Below.refl w.heap.size w)
 have H : (some (([(a0 / 16777216) % 256, (a0 / 65536) % 256, (a0 / 256) % 256, (a0) % 256] : List Int))) = some r := h
 clear h
 obtain ⟨y120, hy120⟩ : ∃ y_ : List Int, y_ = (([(a0 / 16777216) % 256, (a0 / 65536) % 256, (a0 / 256) % 256, (a0) % 256] : List Int)) := ⟨_, rfl⟩
 replace H : (some y120) = some r := by first | (rw [hy120]; with_reducible exact H) | (have H2_ := (Option.bind_some _ _).symm.trans H; rw [hy120]; with_reducible exact H2_) | (have H2_ := (Option.bind_some _ _).symm.trans H; with_reducible exact H2_) | with_reducible exact H | (rw [hy120]; exact H) | exact H
 have Ny120 := aK hy120
 clear hy120
 obtain rfl := Option.some.inj H
 go_enter Try.func43, Try.ntmps43
 go_wp2_with (first | ((with_reducible refine zag (N := 14) rfl ?_); refine Kd.R_lit (Kd.int .u8) _ 5 ?hg (N := 14) ?hd (xs := ([(a0 / 16777216) % 256, (a0 / 65536) % 256, (a0 / 256) % 256, (a0) % 256] : List Int)) (inner := [.int .u8 ((a0 / 16777216) % 256), .int .u8 ((a0 / 65536) % 256), .int .u8 ((a0 / 256) % 256), .int .u8 ((a0) % 256)]) (ok := fun _ => True) (okp := fun _ => True) ?hr ?hp (fun _ hk => hk) trivial (Below.refl _ _) (Nat.le_refl _) (by simp) ?_; (case hd => rfl); (case hg => rfl); (case hr => first | (go_simp; done) | (go_simp; rfl)); (case hp => exact (Reps.one (show Kd.M (Kd.int .u8) _ _ _ ((a0 / 16777216) % 256) [.int .u8 ((a0 / 16777216) % 256)] from rfl) (Reps.one (show Kd.M (Kd.int .u8) _ _ _ ((a0 / 65536) % 256) [.int .u8 ((a0 / 65536) % 256)] from rfl) (Reps.one (show Kd.M (Kd.int .u8) _ _ _ ((a0 / 256) % 256) [.int .u8 ((a0 / 256) % 256)] from rfl) (Reps.one (show Kd.M (Kd.int .u8) _ _ _ ((a0) % 256) [.int .u8 ((a0) % 256)] from rfl) (Reps.none _ _)))))); intro v121 w2 ho3 hb hg_ hnew_; clear hg_ hnew_; (first | rw [← Ny120.out] at ho3 | (simp only [Int.reduceToNat] at ho3; rw [← Ny120.out] at ho3)); have n0_ := aK (Kd.R_lower ho3 (zav (by repeat (first | (with_reducible first | exact HB.out | apply zaa | apply zac | apply zaf) | exact HB.out)))); have n1_ := aK (zba (by repeat (first | (with_reducible first | exact HB.out | apply zaa | apply zac | apply zaf) | exact HB.out)) hb); clear HB; have HO122 := n0_; have HB := n1_; clear n0_ n1_; clear hb ho3))
 go_ret
 exact ⟨_, by first | rfl | (simp [errW_none, errW_some] <;> rfl) | (simp [*, errW_none, errW_some] <;> rfl), by (with_reducible repeat (first | apply Kd.R_alloc | apply Kd.R_drewN | apply Kd.R_drew)); exact HO122.out, by repeat (first | (with_reducible first | exact HB.out | apply zaa | apply zac | apply zaf) | exact HB.out)⟩
def frame_join.l0 : Nat → List Int → List (List Int) → Int → Int → Option (List Int)
 | 0, _, _, _, _ => none
 | k + 1, x3, x6, x7, x8 => if x8 < x7 then (if 0 ≤ x8 then (if x8 < (x6.length : Int) then (if x3.length + (zfj x6 x8).length < 140737488355328 then (frame_join.l0 k (x3 ++ (zfj x6 x8)) x6 x7 (wrap64 (x8 + 1))) else (none)) else (none)) else (none)) else (some x3)
def frame_join.f (k : Nat) (l0 : List (List Int)) : Option (List Int) := frame_join.l0 k ([] : List Int) l0 (l0.length : Int) 0
theorem frame_join.calls (k : Nat) (A0 : Option Addr) (c0 : Nat) (l0 : List (List Int)) (r : List Int) (w : World) (hr0 : Kd.C (Kd.slice 5 (Kd.int .u8)) w A0 l0.length l0) (hc0 : l0.length ≤ c0) (h : frame_join.f k l0 = some r) :
  Calls Try.prog 44 #[.slice A0 l0.length c0] w fun e w' => ∃ v0_ : Value, e = .returned (v0_) ∧ Kd.R (Kd.int .u8) 5 w' w.heap.size (fun _ => True) v0_ r ∧ Below w.heap.size w w' := by
 have HR0 := aK hr0
 have HC0 := aK hc0
 clear hr0 hc0
 have HB := aK (Below.refl w.heap.size w)
 have H : (frame_join.l0 k ([] : List Int) l0 (l0.length : Int) 0) = some r := h
 clear h
 have H' := aK H
 clear H
 go_enter Try.func44, Try.ntmps44
 go_wp2
 go_loopg [3, 8] k (fun kq v3 v8 w' => ∃ (x3_1 : List Int) (x8_1 : Int), v8 = .int .i64 x8_1 ∧ Aside0 (frame_join.l0 kq x3_1 l0 (l0.length : Int) x8_1 = some r) ∧ Aside0 (kq ≤ k) ∧ Aside0 (Kd.R (Kd.int .u8) 5 w' w.heap.size (fun _ => True) v3 x3_1) ∧ Aside0 (Below w.heap.size w w'))
 case atStart => exact ⟨(([] : List Int)), (0), (by first | rfl | (simp; done) | (simp [*]; done)), H', ⟨Nat.le_refl _⟩, ⟨by first | exact Kd.R_nil _ _ _ _ _ | exact Kd.N_nil _ _ _ _ _ | exact Kd.V_nil _ _ _ _ _ | exact Kd.Q_nil _ _ _ _ _ | exact Kd.S_nil _ _ _ _ _⟩, ⟨by repeat (first | (with_reducible first | exact HB.out | apply zaa | apply zac | apply zaf) | exact HB.out)⟩⟩
 case round =>
  clear H'
  obtain ⟨x3_1, x8_1, rfl, HA, HK1, HO_3, HB⟩ := hrel
  cases gk with
  | zero => exact absurd HA.out (by simp [frame_join.l0])
  | succ k1 =>
   have H := HA.out
   clear HA
   simp only [frame_join.l0] at H
   by_cases c2 : x8_1 < (l0.length : Int)
   ·rw [if_pos c2] at H
    have c2b0 : decide (x8_1 < (l0.length : Int)) = true := decide_eq_true c2
    clear c2
    by_cases c3 : 0 ≤ x8_1
    ·rw [if_pos c3] at H
     have c3b0 : decide (0 ≤ x8_1) = true := decide_eq_true c3
     clear c3
     by_cases c4 : x8_1 < (l0.length : Int)
     ·rw [if_pos c4] at H
      have c4b0 : decide (x8_1 < (l0.length : Int)) = true := decide_eq_true c4
      clear c4
      by_cases c5 : x3_1.length + (zfj l0 x8_1).length < 140737488355328
      ·rw [if_pos c5] at H
       have LMc5 := aK c5
       clear c5
       obtain ⟨y124, hy124⟩ : ∃ y_ : List Int, y_ = (x3_1 ++ (zfj l0 x8_1)) := ⟨_, rfl⟩
       replace H : (frame_join.l0 k1 y124 l0 (l0.length : Int) (wrap64 (x8_1 + 1))) = some r := by first | (rw [hy124]; with_reducible exact H) | (have H2_ := (Option.bind_some _ _).symm.trans H; rw [hy124]; with_reducible exact H2_) | (have H2_ := (Option.bind_some _ _).symm.trans H; with_reducible exact H2_) | with_reducible exact H | (rw [hy124]; exact H) | exact H
       have Ny124 := aK hy124
       clear hy124
       have H' := aK H
       clear H
       have p123 : 0 ≤ (x8_1 : Int) := of_decide_eq_true (by first | (with_reducible assumption) | assumption)
       have q123 : x8_1 < (l0.length : Int) := of_decide_eq_true (by first | (with_reducible assumption) | assumption)
       obtain ⟨ad123, A123_0, c123_0, e123, hx123_0, hl123_0, hi123_0⟩ := at_L10 HR0.out x8_1 p123 q123
       cases e123
       replace hx123_0 := (HB.out.cell (World.block_lt_of_cell? w _ hx123_0)).trans hx123_0
       have HR123_0 := aK hi123_0
       have HC123_0 := aK hl123_0
       clear hi123_0 hl123_0
       replace p123 := eq_true p123
       replace q123 := eq_true q123
       go_wp2_with (first | ((with_reducible refine zap (b := .append) (xs := #[.tmp 12, .tmp 13]) rfl ?_); at_builtin; refine Kd.R_append_rows (Kd.int .u8) (w0 := w) w.heap.size rfl (.tmp 12) (.tmp 13) 37 5 (.int .u8 0) 1 rfl Try.underlying37 info5 rfl (by decide) (by omega) u3 x3_1 (zfj l0 x8_1) _ _ _ (fun _ => True) (fun _ => False) rfl rfl ?aO ?aR (fun _ _ h => h) (fun _ h => h.elim) ?aF ?aB ?aS ?aL ?_; (case aR => repeat (first | exact (Kd.C_below HR123_0.out HB.out) | (with_reducible refine Kd.C_alloc ?_ _) | (with_reducible refine Kd.C_drewN ?_ _) | (with_reducible refine Kd.C_drew ?_))); (case aB => exact (by repeat (first | (with_reducible first | exact HB.out | apply zaa | apply zac | apply zaf) | exact HB.out))); (case aF => exact (fun _ _ => trivial)); (case aO => exact (by (with_reducible repeat (first | apply Kd.R_alloc | apply Kd.R_drewN | apply Kd.R_drew)); exact HO_3.out)); (case aS => exact (zav (by repeat (first | (with_reducible first | exact HB.out | apply zaa | apply zac | apply zaf) | exact HB.out)))); (case aL => have := LMc5.out; omega); intro v125 w6 ho hb hg hat; rw [← Ny124.out] at ho; have n0_ := aK (hb); have n1_ := aK (ho); clear HB; clear HO_3; have HB := n0_; have HO126 := n1_; clear n0_ n1_; clear ho hb hg hat))
       go_roundg k1
       case measure => have := HK1.out; omega
       case rel => exact ⟨(y124), (wrap64 (x8_1 + 1)), (by first | rfl | (simp; done) | (simp [*]; done)), H', ⟨by have := HK1.out; omega⟩, ⟨by (with_reducible repeat (first | apply Kd.R_alloc | apply Kd.R_drewN | apply Kd.R_drew)); exact HO126.out⟩, ⟨by repeat (first | (with_reducible first | exact HB.out | apply zaa | apply zac | apply zaf) | exact HB.out)⟩⟩
      ·rw [if_neg c5] at H
       exact absurd H (by simp)
     ·rw [if_neg c4] at H
      exact absurd H (by simp)
    ·rw [if_neg c3] at H
     exact absurd H (by simp)
   ·rw [if_neg c2] at H
    have c2b0 : decide (x8_1 < (l0.length : Int)) = false := decide_eq_false c2
    clear c2
    obtain rfl := Option.some.inj H
    go_wp2
    go_ret
    exact ⟨_, by first | rfl | (simp [errW_none, errW_some] <;> rfl) | (simp [*, errW_none, errW_some] <;> rfl), by (with_reducible repeat (first | apply Kd.R_alloc | apply Kd.R_drewN | apply Kd.R_drew)); exact HO_3.out, by repeat (first | (with_reducible first | exact HB.out | apply zaa | apply zac | apply zaf) | exact HB.out)⟩
@[go_sem] theorem sum_half.mx : IntKind.u32.max = 4294967295 := by decide +kernel
def sum_half.t : List Int := [0, 498536548, 997073096, 651767980, 1994146192, 1802195444, 1303535960, 1342533948, 3988292384, 4027552580, 3604390888, 3412177804, 2607071920, 2262029012, 2685067896, 3183342108]
def sum_half.f (a0 : Int) : Option (Int) := some (sum_half.t.getD (Go.bits .and .u32 a0 15).toNat 0)
theorem sum_half.and15 (a0 : Int) : ∃ j : Nat, j < 16 ∧ Go.bits .and .u32 a0 15 = (j : Int) := by
 refine ⟨(BitVec.ofInt 32 a0 &&& BitVec.ofInt 32 15).toNat, ?_, ?_⟩
 ·rw [BitVec.toNat_and]
  have : (BitVec.ofInt 32 15).toNat = 2 ^ 4 - 1 := by decide
  rw [this, Nat.and_two_pow_sub_one_eq_mod]
  omega
 ·show IntKind.u32.wrap (((BitVec.ofInt 32 a0 &&& BitVec.ofInt 32 15).toNat : Nat) : Int) = _
  have h := (BitVec.ofInt 32 a0 &&& BitVec.ofInt 32 15).isLt
  rw [IntKind.wrap_u32]
  omega
theorem sum_half.walk (a0 : Int) (j : Nat) (hj : j < 16) (e : Go.bits .and .u32 a0 15 = (j : Int)) (w : World) :
  Calls Try.prog 73 #[.int .u32 a0] w fun e w' => e = .returned (.int .u32 (sum_half.t.getD j 0)) ∧ Below w.heap.size w w' := by
 go_enter Try.func73, Try.ntmps73
 go_upto_region 2 with (fail)
 have hjj : j = 0 ∨ j = 1 ∨ j = 2 ∨ j = 3 ∨ j = 4 ∨ j = 5 ∨ j = 6 ∨ j = 7 ∨ j = 8 ∨ j = 9 ∨ j = 10 ∨ j = 11 ∨ j = 12 ∨ j = 13 ∨ j = 14 ∨ j = 15 := by omega
 clear hj
 rcases hjj with rfl | rfl | rfl | rfl | rfl | rfl | rfl | rfl | rfl | rfl | rfl | rfl | rfl | rfl | rfl | rfl
 all_goals
  go_wp2
  go_ret
  exact ⟨rfl, by repeat (first | (with_reducible first | exact Below.refl _ _ | apply zaa | apply zac | apply zaf))⟩
theorem sum_half.calls (a0 : Int) (r : Int) (w : World) (h : sum_half.f a0 = some r) :
  Calls Try.prog 73 #[.int .u32 a0] w fun e w' => e = .returned (.int .u32 r) ∧ Below w.heap.size w w' := by
 obtain ⟨j, hj, e⟩ := sum_half.and15 a0
 obtain rfl := Option.some.inj h
 rw [e, Int.toNat_natCast]
 exact sum_half.walk a0 j hj e w
def sum_More.l0 : Nat → Int → List Int → Int → Int → Option (Int)
 | 0, _, _, _, _ => none
 | k + 1, x0, x9, x10, x11 => if x11 < x10 then (if 0 ≤ x11 then (if x11 < (x9.length : Int) then ((sum_half.f (Go.bits .xor .u32 x0 ((rd x9 x11) % 4294967296))).bind fun t128 => ((sum_half.f (Go.bits .xor .u32 ((Go.bits .xor .u32 x0 ((rd x9 x11) % 4294967296)) / 16) t128)).bind fun t129 => (sum_More.l0 k (Go.bits .xor .u32 ((Go.bits .xor .u32 ((Go.bits .xor .u32 x0 ((rd x9 x11) % 4294967296)) / 16) t128) / 16) t129) x9 x10 (wrap64 (x11 + 1))))) else (none)) else (none)) else (some (Go.bits .xor .u32 4294967295 x0))
def sum_More.f (k : Nat) (a0 : Int) (l1 : List Int) : Option (Int) := sum_More.l0 k (Go.bits .xor .u32 4294967295 a0) l1 (l1.length : Int) 0
theorem sum_More.calls (k : Nat) (a0 : Int) (A1 : Option Addr) (c1 : Nat) (l1 : List Int) (r : Int) (w : World) (hr1 : Kd.C (Kd.int .u8) w A1 l1.length l1) (hc1 : l1.length ≤ c1) (h : sum_More.f k a0 l1 = some r) :
  Calls Try.prog 45 #[.int .u32 a0, .slice A1 l1.length c1] w fun e w' => e = .returned (.int .u32 r) ∧ Below w.heap.size w w' := by
 have HR1 := aK hr1
 have HC1 := aK hc1
 clear hr1 hc1
 have HB := aK (Below.refl w.heap.size w)
 have H : (sum_More.l0 k (Go.bits .xor .u32 4294967295 a0) l1 (l1.length : Int) 0) = some r := h
 clear h
 have H' := aK H
 clear H
 go_enter Try.func45, Try.ntmps45
 go_wp2
 go_loopg [0, 11] k (fun kq v0 v11 w' => ∃ (x0_1 : Int) (x11_1 : Int), v0 = .int .u32 x0_1 ∧ v11 = .int .i64 x11_1 ∧ Aside0 (sum_More.l0 kq x0_1 l1 (l1.length : Int) x11_1 = some r) ∧ Aside0 (kq ≤ k) ∧ Aside0 (Below w.heap.size w w'))
 case atStart => exact ⟨(Go.bits .xor .u32 4294967295 a0), (0), (by first | rfl | (simp; done) | (simp [*]; done)), (by first | rfl | (simp; done) | (simp [*]; done)), H', ⟨Nat.le_refl _⟩, ⟨by repeat (first | (with_reducible first | exact HB.out | apply zaa | apply zac | apply zaf) | exact HB.out)⟩⟩
 case round =>
  clear H'
  try clear c1
  try clear p2
  obtain ⟨x0_1, x11_1, rfl, rfl, HA, HK1, HB⟩ := hrel
  cases gk with
  | zero => exact absurd HA.out (by simp [sum_More.l0])
  | succ k1 =>
   have H := HA.out
   clear HA
   simp only [sum_More.l0] at H
   by_cases c3 : x11_1 < (l1.length : Int)
   ·rw [if_pos c3] at H
    have c3b0 : decide (x11_1 < (l1.length : Int)) = true := decide_eq_true c3
    clear c3
    by_cases c4 : 0 ≤ x11_1
    ·rw [if_pos c4] at H
     have c4b0 : decide (0 ≤ x11_1) = true := decide_eq_true c4
     clear c4
     by_cases c5 : x11_1 < (l1.length : Int)
     ·rw [if_pos c5] at H
      have c5b0 : decide (x11_1 < (l1.length : Int)) = true := decide_eq_true c5
      clear c5
      replace H := Option.bind_eq_some_iff.mp H
      obtain ⟨t128, A60, H⟩ := H
      replace H : ((sum_half.f (Go.bits .xor .u32 ((Go.bits .xor .u32 x0_1 ((rd l1 x11_1) % 4294967296)) / 16) t128)).bind fun t129 => (sum_More.l0 k1 (Go.bits .xor .u32 ((Go.bits .xor .u32 ((Go.bits .xor .u32 x0_1 ((rd l1 x11_1) % 4294967296)) / 16) t128) / 16) t129) l1 (l1.length : Int) (wrap64 (x11_1 + 1)))) = some r := H
      have A6 := aK A60
      clear A60
      replace H := Option.bind_eq_some_iff.mp H
      obtain ⟨t129, A70, H⟩ := H
      replace H : (sum_More.l0 k1 (Go.bits .xor .u32 ((Go.bits .xor .u32 ((Go.bits .xor .u32 x0_1 ((rd l1 x11_1) % 4294967296)) / 16) t128) / 16) t129) l1 (l1.length : Int) (wrap64 (x11_1 + 1))) = some r := H
      have A7 := aK A70
      clear A70
      have H' := aK H
      clear H
      have p127 : 0 ≤ (x11_1 : Int) := of_decide_eq_true (by first | (with_reducible assumption) | assumption)
      have q127 : x11_1 < (l1.length : Int) := of_decide_eq_true (by first | (with_reducible assumption) | assumption)
      obtain ⟨ad127, e127, hx127_0⟩ := Kd.at_int HR1.out x11_1 p127 q127
      cases e127
      replace hx127_0 := (HB.out.cell (World.block_lt_of_cell? w _ hx127_0)).trans hx127_0
      replace p127 := eq_true p127
      replace q127 := eq_true q127
      go_wp2_with (first | ((with_reducible refine zbb (f := 73) rfl ?_); refine zco (some 22) rfl rfl Try.func73 (by kernel_rfl) rfl #[.int .u32 (Go.bits .xor .u32 x0_1 ((rd l1 x11_1) % 4294967296))] rfl (by (try simp only [List.map_toArray, List.map_cons, List.map_nil]); first | done | rfl | (simp only [List.length_drop, List.length_take]; rfl)) ?_; (with_reducible refine (sum_half.calls (Go.bits .xor .u32 x0_1 ((rd l1 x11_1) % 4294967296)) t128 _ A6.out).mono ?_); rintro e w8 ⟨rfl, hb⟩; refine ⟨_, rfl, ?_⟩; have n0_ := aK (zba (by repeat (first | (with_reducible first | exact HB.out | apply zaa | apply zac | apply zaf) | exact HB.out)) hb); clear HB; have HB := n0_; clear n0_; (try clear hb); (try clear hb2); (try clear hk); (try clear hi)) | ((with_reducible refine zbb (f := 73) rfl ?_); refine zco (some 27) rfl rfl Try.func73 (by kernel_rfl) rfl #[.int .u32 (Go.bits .xor .u32 ((Go.bits .xor .u32 x0_1 ((rd l1 x11_1) % 4294967296)) / 16) t128)] rfl (by (try simp only [List.map_toArray, List.map_cons, List.map_nil]); first | done | rfl | (simp only [List.length_drop, List.length_take]; rfl)) ?_; (with_reducible refine (sum_half.calls (Go.bits .xor .u32 ((Go.bits .xor .u32 x0_1 ((rd l1 x11_1) % 4294967296)) / 16) t128) t129 _ A7.out).mono ?_); rintro e w9 ⟨rfl, hb⟩; refine ⟨_, rfl, ?_⟩; have n0_ := aK (zba (by repeat (first | (with_reducible first | exact HB.out | apply zaa | apply zac | apply zaf) | exact HB.out)) hb); clear HB; have HB := n0_; clear n0_; (try clear hb); (try clear hb2); (try clear hk); (try clear hi)))
      go_roundg k1
      case measure => have := HK1.out; omega
      case rel => exact ⟨(Go.bits .xor .u32 ((Go.bits .xor .u32 ((Go.bits .xor .u32 x0_1 ((rd l1 x11_1) % 4294967296)) / 16) t128) / 16) t129), (wrap64 (x11_1 + 1)), (by first | rfl | (simp; done) | (simp [*]; done)), (by first | rfl | (simp; done) | (simp [*]; done)), H', ⟨by have := HK1.out; omega⟩, ⟨by repeat (first | (with_reducible first | exact HB.out | apply zaa | apply zac | apply zaf) | exact HB.out)⟩⟩
     ·rw [if_neg c5] at H
      exact absurd H (by simp)
    ·rw [if_neg c4] at H
     exact absurd H (by simp)
   ·rw [if_neg c3] at H
    have c3b0 : decide (x11_1 < (l1.length : Int)) = false := decide_eq_false c3
    clear c3
    obtain rfl := Option.some.inj H
    go_wp2
    go_ret
    exact ⟨by first | rfl | (simp [errW_none, errW_some] <;> rfl) | (simp [*, errW_none, errW_some] <;> rfl), by repeat (first | (with_reducible first | exact HB.out | apply zaa | apply zac | apply zaf) | exact HB.out)⟩
def sum_Of.f (k : Nat) (l0 : List Int) : Option (Int) := (sum_More.f k 0 l0).bind fun t130 => (some t130)
theorem sum_Of.calls (k : Nat) (A0 : Option Addr) (c0 : Nat) (l0 : List Int) (r : Int) (w : World) (hr0 : Kd.C (Kd.int .u8) w A0 l0.length l0) (hc0 : l0.length ≤ c0) (h : sum_Of.f k l0 = some r) :
  Calls Try.prog 46 #[.slice A0 l0.length c0] w fun e w' => e = .returned (.int .u32 r) ∧ Below w.heap.size w w' := by
 have HR0 := aK hr0
 have HC0 := aK hc0
 clear hr0 hc0
 have HB := aK (Below.refl w.heap.size w)
 have H : ((sum_More.f k 0 l0).bind fun t130 => (some t130)) = some r := h
 clear h
 replace H := Option.bind_eq_some_iff.mp H
 obtain ⟨t130, A20, H⟩ := H
 replace H : (some t130) = some r := H
 have A2 := aK A20
 clear A20
 obtain rfl := Option.some.inj H
 go_enter Try.func46, Try.ntmps46
 go_wp2_with (first | ((with_reducible refine zbb (f := 45) rfl ?_); refine zco (some 4) rfl rfl Try.func45 (by kernel_rfl) rfl #[.int .u32 0, .slice A0 l0.length c0] rfl (by (try simp only [List.map_toArray, List.map_cons, List.map_nil]); first | done | rfl | (simp only [List.length_drop, List.length_take]; rfl)) ?_; (with_reducible refine (sum_More.calls k 0 _ _ l0 t130 _ ?side1 ?side2 A2.out).mono ?_); (case side1 => repeat (first | exact HR0.out | (with_reducible refine Kd.C_alloc ?_ _) | (with_reducible refine Kd.C_drewN ?_ _) | (with_reducible refine Kd.C_drew ?_))); (case side2 => exact HC0.out); rintro e w3 ⟨rfl, hb⟩; refine ⟨_, rfl, ?_⟩; have n0_ := aK (zba (by repeat (first | (with_reducible first | exact HB.out | apply zaa | apply zac | apply zaf) | exact HB.out)) hb); clear HB; have HB := n0_; clear n0_; (try clear hb); (try clear hb2); (try clear hk); (try clear hi)))
 go_ret
 exact ⟨by first | rfl | (simp [errW_none, errW_some] <;> rfl) | (simp [*, errW_none, errW_some] <;> rfl), by repeat (first | (with_reducible first | exact HB.out | apply zaa | apply zac | apply zaf) | exact HB.out)⟩
def frame_Seal.j0 : Nat → List Int → Bool → Option (List Int × Int)
 | 0, _, _ => none
 | k + 1, x0, x12 => if x12 = true then (some (([] : List Int), 1)) else ((frame_four.f (((x0.length : Int)) % 4294967296)).bind fun t131 => ((sum_Of.f k t131).bind fun t134 => ((sum_More.f k t134 x0).bind fun t135 => ((frame_four.f t135).bind fun t136 => ((frame_join.f k (([t131, t136, x0] : List (List Int)))).bind fun t142 => (some (t142, 0)))))))
def frame_Seal.f (k : Nat) (l0 : List Int) : Option (List Int × Int) := if (l0.length : Int) = 0 then (frame_Seal.j0 k l0 true) else (frame_Seal.j0 k l0 (decide ((l0.length : Int) > 65536)))
theorem frame_Seal.calls (k : Nat) (P0_ : Nat → Prop) (A0 : Option Addr) (c0 : Nat) (l0 : List Int) (r1 : List Int) (r2 : Int) (w : World) (hs0 : Kd.V (Kd.int .u8) 5 w w.heap.size (fun k_ => P0_ k_) (.slice A0 l0.length c0) l0) (h : frame_Seal.f k l0 = some (r1, r2)) :
  Calls Try.prog 20 #[.slice A0 l0.length c0] w fun e w' => ∃ v0_ : Value, e = .returned (.tuple #[v0_, .int .i64 r2]) ∧ Kd.R (Kd.int .u8) 5 w' w.heap.size (fun k_ => (w.heap.size ≤ k_)) v0_ r1 ∧ Below w.heap.size w w' := by
 have HO0 := aK (show Kd.V (Kd.int .u8) 5 w w.heap.size (fun k_ => (P0_ k_ ∨ w.heap.size ≤ k_)) (.slice A0 l0.length c0) l0 from Kd.V_mono hs0 (fun k_ hk => .inl hk))
 have HB := aK (Below.refl w.heap.size w)
 have H : (if (l0.length : Int) = 0 then (frame_Seal.j0 k l0 true) else (frame_Seal.j0 k l0 (decide ((l0.length : Int) > 65536)))) = some (r1, r2) := h
 clear h
 have HC2 := aK H
 clear H
 go_enter Try.func20, Try.ntmps20
 go_upto_region 1 with (fail)
 go_cut [12] (fun v12 wc => ∃ (kq : Nat) (x12_1 : Bool), v12 = .bool x12_1 ∧ Aside0 (frame_Seal.j0 kq l0 x12_1 = some (r1, r2)) ∧ Aside0 (kq ≤ k) ∧ Aside0 (Kd.V (Kd.int .u8) 5 wc w.heap.size (fun k_ => (P0_ k_ ∨ w.heap.size ≤ k_)) (.slice A0 l0.length c0) l0) ∧ Aside0 (Below w.heap.size w wc))
 case first =>
  have H := HC2.out
  clear HC2
  by_cases c3 : (l0.length : Int) = 0
  ·rw [if_pos c3] at H
   have c3b0 : ((l0.length : Int) == 0) = true := beq_iff_eq.mpr c3
   have c3b1 : ((l0.length : Int) != 0) = false := bne_eq_false_iff_eq.mpr c3
   clear c3
   (first | rw [c3b0] | (simp only [zdw, zdx]; rw [c3b0]) | skip)
   have H' := aK H
   clear H
   go_wp2
   go_meet
   case rel => exact ⟨_, (true), (by first | rfl | (simp; done) | (simp [*]; done)), H', ⟨by first | omega | exact Nat.le_refl _⟩, ⟨by (with_reducible repeat (first | apply Kd.V_alloc | apply Kd.V_drewN | apply Kd.V_drew)); exact HO0.out⟩, ⟨by repeat (first | (with_reducible first | exact HB.out | apply zaa | apply zac | apply zaf) | exact HB.out)⟩⟩
  ·rw [if_neg c3] at H
   have c3b0 : ((l0.length : Int) == 0) = false := beq_eq_false_iff_ne.mpr c3
   have c3b1 : ((l0.length : Int) != 0) = true := bne_iff_ne.mpr c3
   have c3b2 : ¬ (l0 = []) := fun h_ => c3 (by rw [h_]; rfl)
   (first | rw [c3b0] | (simp only [zdw, zdx]; rw [c3b0]) | skip)
   have H' := aK H
   clear H
   go_wp2
   go_meet
   case rel => exact ⟨_, (decide ((l0.length : Int) > 65536)), (by first | rfl | (simp; done) | (simp [*]; done)), H', ⟨by first | omega | exact Nat.le_refl _⟩, ⟨by (with_reducible repeat (first | apply Kd.V_alloc | apply Kd.V_drewN | apply Kd.V_drew)); exact HO0.out⟩, ⟨by repeat (first | (with_reducible first | exact HB.out | apply zaa | apply zac | apply zaf) | exact HB.out)⟩⟩
 case rest =>
  clear HC2
  try clear c2
  try clear p2
  try clear c3
  try clear c3b0
  try clear c3b1
  try clear c3b2
  obtain ⟨kq, x12_1, rfl, HA, HJ1, HO_0, HB⟩ := hcut
  cases kq with
  | zero => exact absurd HA.out (by simp [frame_Seal.j0])
  | succ kj1 =>
   have H := HA.out
   clear HA
   simp only [frame_Seal.j0] at H
   by_cases c4 : x12_1 = true
   ·subst c4
    have H1 : (some (([] : List Int), 1)) = some (r1, r2) := by rw [if_pos rfl] at H; exact H
    clear H
    have H := H1
    clear H1
    simp only [Option.some.injEq, Prod.mk.injEq] at H
    obtain ⟨rfl, rfl⟩ := H
    go_wp2
    go_ret2
    exact ⟨_, by first | rfl | (simp [errW_none, errW_some] <;> rfl) | (simp [*, errW_none, errW_some] <;> rfl), by first | exact Kd.R_nil _ _ _ _ _ | exact Kd.N_nil _ _ _ _ _ | exact Kd.V_nil _ _ _ _ _ | exact Kd.Q_nil _ _ _ _ _ | exact Kd.S_nil _ _ _ _ _, by repeat (first | (with_reducible first | exact HB.out | apply zaa | apply zac | apply zaf) | exact HB.out)⟩
   ·replace c4 := Bool.eq_false_iff.mpr c4
    subst c4
    have H1 : ((frame_four.f (((l0.length : Int)) % 4294967296)).bind fun t131 => ((sum_Of.f kj1 t131).bind fun t134 => ((sum_More.f kj1 t134 l0).bind fun t135 => ((frame_four.f t135).bind fun t136 => ((frame_join.f kj1 (([t131, t136, l0] : List (List Int)))).bind fun t142 => (some (t142, 0))))))) = some (r1, r2) := by rw [if_neg (show ¬ (false = true) by decide)] at H; exact H
    clear H
    have H := H1
    clear H1
    replace H := Option.bind_eq_some_iff.mp H
    obtain ⟨t131, A50, H⟩ := H
    replace H : ((sum_Of.f kj1 t131).bind fun t134 => ((sum_More.f kj1 t134 l0).bind fun t135 => ((frame_four.f t135).bind fun t136 => ((frame_join.f kj1 (([t131, t136, l0] : List (List Int)))).bind fun t142 => (some (t142, 0)))))) = some (r1, r2) := H
    have A5 := aK A50
    clear A50
    replace H := Option.bind_eq_some_iff.mp H
    obtain ⟨t134, A60, H⟩ := H
    replace H : ((sum_More.f kj1 t134 l0).bind fun t135 => ((frame_four.f t135).bind fun t136 => ((frame_join.f kj1 (([t131, t136, l0] : List (List Int)))).bind fun t142 => (some (t142, 0))))) = some (r1, r2) := H
    have A6 := aK A60
    clear A60
    replace H := Option.bind_eq_some_iff.mp H
    obtain ⟨t135, A70, H⟩ := H
    replace H : ((frame_four.f t135).bind fun t136 => ((frame_join.f kj1 (([t131, t136, l0] : List (List Int)))).bind fun t142 => (some (t142, 0)))) = some (r1, r2) := H
    have A7 := aK A70
    clear A70
    replace H := Option.bind_eq_some_iff.mp H
    obtain ⟨t136, A80, H⟩ := H
    replace H : ((frame_join.f kj1 (([t131, t136, l0] : List (List Int)))).bind fun t142 => (some (t142, 0))) = some (r1, r2) := H
    have A8 := aK A80
    clear A80
    obtain ⟨y139, hy139⟩ : ∃ y_ : List (List Int), y_ = (([t131, t136, l0] : List (List Int))) := ⟨_, rfl⟩
    replace H : ((frame_join.f kj1 y139).bind fun t142 => (some (t142, 0))) = some (r1, r2) := by first | (rw [hy139]; with_reducible exact H) | (have H2_ := (Option.bind_some _ _).symm.trans H; rw [hy139]; with_reducible exact H2_) | (have H2_ := (Option.bind_some _ _).symm.trans H; with_reducible exact H2_) | with_reducible exact H | (rw [hy139]; exact H) | exact H
    have Ny139 := aK hy139
    clear hy139
    replace H := Option.bind_eq_some_iff.mp H
    obtain ⟨t142, A90, H⟩ := H
    replace H : (some (t142, 0)) = some (r1, r2) := H
    have A9 := aK A90
    clear A90
    simp only [Option.some.injEq, Prod.mk.injEq] at H
    obtain ⟨rfl, rfl⟩ := H
    go_wp2_with (first | ((with_reducible refine zbb (f := 43) rfl ?_); refine zco (some 16) rfl rfl Try.func43 (by kernel_rfl) rfl #[.int .u32 (((l0.length : Int)) % 4294967296)] rfl (by (try simp only [List.map_toArray, List.map_cons, List.map_nil]); first | done | rfl | (simp only [List.length_drop, List.length_take]; rfl)) ?_; (with_reducible refine (frame_four.calls (((l0.length : Int)) % 4294967296) t131 _ A5.out).mono ?_); rintro e w10 ⟨v132, rfl, ho0, hb⟩; refine ⟨_, rfl, ?_⟩; have n0_ := aK (Kd.V_elder' (by (with_reducible repeat (first | apply Kd.V_alloc | apply Kd.V_drewN | apply Kd.V_drew)); exact HO_0.out) (Kd.R_base ho0) hb); have n1_ := aK (Kd.R_lower (Kd.R_newM (M := fun k_ => (w.heap.size ≤ k_)) ho0 (zav (by repeat (first | (with_reducible first | exact HB.out | apply zaa | apply zac | apply zaf) | exact HB.out))) (fun k_ h_ => h_)) (zav (by repeat (first | (with_reducible first | exact HB.out | apply zaa | apply zac | apply zaf) | exact HB.out)))); have n2_ := aK (zba (by repeat (first | (with_reducible first | exact HB.out | apply zaa | apply zac | apply zaf) | exact HB.out)) hb); clear HO_0; clear HB; have HO_0 := n0_; have HO133 := n1_; have HB := n2_; clear n0_ n1_ n2_; (try clear hb); (try clear hb2); (try clear hk); (try clear hi); (try clear ho0); obtain ⟨Ao11, co11, eo11⟩ := Kd.R_slice HO133.out; subst eo11) | ((with_reducible refine zbb (f := 46) rfl ?_); refine zco (some 19) rfl rfl Try.func46 (by kernel_rfl) rfl #[.slice Ao11 t131.length co11] rfl (by (try simp only [List.map_toArray, List.map_cons, List.map_nil]); first | done | rfl | (simp only [List.length_drop, List.length_take]; rfl)) ?_; (with_reducible refine (sum_Of.calls kj1 _ _ t131 t134 _ ?side1 ?side2 A6.out).mono ?_); (case side1 => repeat (first | exact (Kd.R_reads' HO133.out).2.2 | (with_reducible refine Kd.C_alloc ?_ _) | (with_reducible refine Kd.C_drewN ?_ _) | (with_reducible refine Kd.C_drew ?_))); (case side2 => exact (Kd.R_reads' HO133.out).2.1); rintro e w12 ⟨rfl, hb⟩; refine ⟨_, rfl, ?_⟩; have n0_ := aK (Kd.V_below (by (with_reducible repeat (first | apply Kd.V_alloc | apply Kd.V_drewN | apply Kd.V_drew)); exact HO_0.out) hb); have n1_ := aK (Kd.R_below (by (with_reducible repeat (first | apply Kd.R_alloc | apply Kd.R_drewN | apply Kd.R_drew)); exact HO133.out) hb); have n2_ := aK (zba (by repeat (first | (with_reducible first | exact HB.out | apply zaa | apply zac | apply zaf) | exact HB.out)) hb); clear HO_0; clear HO133; clear HB; have HO_0 := n0_; have HO133 := n1_; have HB := n2_; clear n0_ n1_ n2_; (try clear hb); (try clear hb2); (try clear hk); (try clear hi)) | ((with_reducible refine zbb (f := 45) rfl ?_); refine zco (some 21) rfl rfl Try.func45 (by kernel_rfl) rfl #[.int .u32 t134, .slice A0 l0.length c0] rfl (by (try simp only [List.map_toArray, List.map_cons, List.map_nil]); first | done | rfl | (simp only [List.length_drop, List.length_take]; rfl)) ?_; (with_reducible refine (sum_More.calls kj1 t134 _ _ l0 t135 _ ?side1 ?side2 A7.out).mono ?_); (case side1 => repeat (first | exact (Kd.V_reads' HO_0.out).2.2 | (with_reducible refine Kd.C_alloc ?_ _) | (with_reducible refine Kd.C_drewN ?_ _) | (with_reducible refine Kd.C_drew ?_))); (case side2 => exact (Kd.V_reads' HO_0.out).2.1); rintro e w13 ⟨rfl, hb⟩; refine ⟨_, rfl, ?_⟩; have n0_ := aK (Kd.V_below (by (with_reducible repeat (first | apply Kd.V_alloc | apply Kd.V_drewN | apply Kd.V_drew)); exact HO_0.out) hb); have n1_ := aK (Kd.R_below (by (with_reducible repeat (first | apply Kd.R_alloc | apply Kd.R_drewN | apply Kd.R_drew)); exact HO133.out) hb); have n2_ := aK (zba (by repeat (first | (with_reducible first | exact HB.out | apply zaa | apply zac | apply zaf) | exact HB.out)) hb); clear HO_0; clear HO133; clear HB; have HO_0 := n0_; have HO133 := n1_; have HB := n2_; clear n0_ n1_ n2_; (try clear hb); (try clear hb2); (try clear hk); (try clear hi)) | ((with_reducible refine zbb (f := 43) rfl ?_); refine zco (some 22) rfl rfl Try.func43 (by kernel_rfl) rfl #[.int .u32 t135] rfl (by (try simp only [List.map_toArray, List.map_cons, List.map_nil]); first | done | rfl | (simp only [List.length_drop, List.length_take]; rfl)) ?_; (with_reducible refine (frame_four.calls t135 t136 _ A8.out).mono ?_); rintro e w14 ⟨v137, rfl, ho0, hb⟩; refine ⟨_, rfl, ?_⟩; have n0_ := aK (Kd.V_elder' (by (with_reducible repeat (first | apply Kd.V_alloc | apply Kd.V_drewN | apply Kd.V_drew)); exact HO_0.out) (Kd.R_base ho0) hb); have n1_ := aK (Kd.R_elder' (by (with_reducible repeat (first | apply Kd.R_alloc | apply Kd.R_drewN | apply Kd.R_drew)); exact HO133.out) (Kd.R_base ho0) hb); have n2_ := aK (Kd.R_lower (Kd.R_new' (Kd.R_newM (M := fun k_ => (w.heap.size ≤ k_)) ho0 (zav (by repeat (first | (with_reducible first | exact HB.out | apply zaa | apply zac | apply zaf) | exact HB.out))) (fun k_ h_ => h_)) (Kd.R_lt (by (with_reducible repeat (first | apply Kd.R_alloc | apply Kd.R_drewN | apply Kd.R_drew)); exact HO133.out))) (zav (by repeat (first | (with_reducible first | exact HB.out | apply zaa | apply zac | apply zaf) | exact HB.out)))); have n3_ := aK (zba (by repeat (first | (with_reducible first | exact HB.out | apply zaa | apply zac | apply zaf) | exact HB.out)) hb); clear HO_0; clear HO133; clear HB; have HO_0 := n0_; have HO133 := n1_; have HO138 := n2_; have HB := n3_; clear n0_ n1_ n2_ n3_; (try clear hb); (try clear hb2); (try clear hk); (try clear hi); (try clear ho0); obtain ⟨Ao15, co15, eo15⟩ := Kd.R_slice HO138.out; subst eo15) | ((with_reducible refine zag (N := 24) rfl ?_); (try (refine zbi (by rfl) ?_; dsimp only)); refine Kd.N_lit (Kd.slice 5 (Kd.int .u8)) _ 37 ?hg (N' := 24) ?hd (xs := ([t131, t136, l0] : List (List Int))) (inner := [.slice Ao11 t131.length co11, .slice Ao15 t136.length co15, .slice A0 l0.length c0]) (ok := (fun k_ => (P0_ k_ ∨ w.heap.size ≤ k_))) (okp := (fun k_ => (P0_ k_ ∨ w.heap.size ≤ k_))) ?hr ?hp (fun _ hk => hk) ((show ∀ k_, w14.heap.size ≤ k_ → (fun k_ => (P0_ k_ ∨ w.heap.size ≤ k_)) k_ from fun k_ hk => (.inr (Nat.le_trans (zav (by repeat (first | (with_reducible first | exact HB.out | apply zaa | apply zac | apply zaf) | exact HB.out))) hk))) _ (Nat.le_refl _)) (Below.refl _ _) (Nat.le_refl _) (by simp) ?_; (case hd => rfl); (case hg => rfl); (case hr => first | (go_simp; done) | (go_simp; rfl)); (case hp => exact (Reps.one (show Kd.FK (Kd.slice 5 (Kd.int .u8)) _ _ t131 [.slice Ao11 t131.length co11] from (Kd.FK_slice_mk (Kd.R_reads' (Kd.R_mono (ok' := (fun k_ => (P0_ k_ ∨ w.heap.size ≤ k_))) (HO133.out) (fun k_ hk => (.inr (hk.1.1))))).2.1 (Kd.R_F (Kd.R_mono (ok' := (fun k_ => (P0_ k_ ∨ w.heap.size ≤ k_))) (HO133.out) (fun k_ hk => (.inr (hk.1.1))))))) (Reps.one (show Kd.FK (Kd.slice 5 (Kd.int .u8)) _ _ t136 [.slice Ao15 t136.length co15] from (Kd.FK_slice_mk (Kd.R_reads' (Kd.R_mono (ok' := (fun k_ => (P0_ k_ ∨ w.heap.size ≤ k_))) (HO138.out) (fun k_ hk => (.inr (hk.1.1))))).2.1 (Kd.R_F (Kd.R_mono (ok' := (fun k_ => (P0_ k_ ∨ w.heap.size ≤ k_))) (HO138.out) (fun k_ hk => (.inr (hk.1.1))))))) (Reps.one (show Kd.FK (Kd.slice 5 (Kd.int .u8)) _ _ l0 [.slice A0 l0.length c0] from (Kd.FK_slice_mk (Kd.V_reads' (Kd.V_mono (ok' := (fun k_ => (P0_ k_ ∨ w.heap.size ≤ k_))) (HO_0.out) (fun k_ hk => hk.1.1))).2.1 (Kd.V_F (Kd.V_mono (ok' := (fun k_ => (P0_ k_ ∨ w.heap.size ≤ k_))) (HO_0.out) (fun k_ hk => hk.1.1))))) (Reps.none _ _))))); intro v140 w16 ho17 hb hg_ hnew_; clear hg_ hnew_; (first | rw [← Ny139.out] at ho17 | (simp only [Int.reduceToNat] at ho17; rw [← Ny139.out] at ho17)); have n0_ := aK (Kd.V_elder' (by (with_reducible repeat (first | apply Kd.V_alloc | apply Kd.V_drewN | apply Kd.V_drew)); exact HO_0.out) (Kd.N_base ho17) hb); have n1_ := aK (Kd.N_lower ho17 (zav (by repeat (first | (with_reducible first | exact HB.out | apply zaa | apply zac | apply zaf) | exact HB.out)))); have n2_ := aK (zba (by repeat (first | (with_reducible first | exact HB.out | apply zaa | apply zac | apply zaf) | exact HB.out)) hb); clear HO_0; clear HB; clear HO133; clear HO138; have HO_0 := n0_; have HO141 := n1_; have HB := n2_; clear n0_ n1_ n2_; clear hb ho17; obtain ⟨Ao18, co18, eo18⟩ := Kd.N_slice HO141.out; subst eo18) | ((with_reducible refine zbb (f := 44) rfl ?_); refine zco (some 25) rfl rfl Try.func44 (by kernel_rfl) rfl #[.slice Ao18 y139.length co18] rfl (by (try simp only [List.map_toArray, List.map_cons, List.map_nil]); first | done | rfl | (simp only [List.length_drop, List.length_take]; rfl)) ?_; (with_reducible refine (frame_join.calls kj1 _ _ y139 t142 _ ?side1 ?side2 A9.out).mono ?_); (case side1 => repeat (first | exact (Kd.N_reads' HO141.out).2.2 | (with_reducible refine Kd.C_alloc ?_ _) | (with_reducible refine Kd.C_drewN ?_ _) | (with_reducible refine Kd.C_drew ?_))); (case side2 => exact (Kd.N_reads' HO141.out).2.1); rintro e w19 ⟨v143, rfl, ho0, hb⟩; refine ⟨_, rfl, ?_⟩; have n0_ := aK (Kd.V_elder' (by (with_reducible repeat (first | apply Kd.V_alloc | apply Kd.V_drewN | apply Kd.V_drew)); exact HO_0.out) (Kd.R_base ho0) hb); have n1_ := aK (Kd.N_elder' (by (with_reducible repeat (first | apply Kd.N_alloc | apply Kd.N_drewN | apply Kd.N_drew)); exact HO141.out) (Kd.R_base ho0) hb); have n2_ := aK (Kd.R_lower (Kd.R_newM (M := fun k_ => (w.heap.size ≤ k_)) ho0 (zav (by repeat (first | (with_reducible first | exact HB.out | apply zaa | apply zac | apply zaf) | exact HB.out))) (fun k_ h_ => h_)) (zav (by repeat (first | (with_reducible first | exact HB.out | apply zaa | apply zac | apply zaf) | exact HB.out)))); have n3_ := aK (zba (by repeat (first | (with_reducible first | exact HB.out | apply zaa | apply zac | apply zaf) | exact HB.out)) hb); clear HO_0; clear HO141; clear HB; have HO_0 := n0_; have HO141 := n1_; have HO144 := n2_; have HB := n3_; clear n0_ n1_ n2_ n3_; (try clear hb); (try clear hb2); (try clear hk); (try clear hi); (try clear ho0)))
    go_ret2
    exact ⟨_, by first | rfl | (simp [errW_none, errW_some] <;> rfl) | (simp [*, errW_none, errW_some] <;> rfl), by (with_reducible repeat (first | apply Kd.R_alloc | apply Kd.R_drewN | apply Kd.R_drew)); exact Kd.R_mono HO144.out (fun _ hk => hk.1), by repeat (first | (with_reducible first | exact HB.out | apply zaa | apply zac | apply zaf) | exact HB.out)⟩
def frame_number.f (l0 : List Int) : Option (Int) := if 0 < (l0.length : Int) then (if 1 < (l0.length : Int) then (if 2 < (l0.length : Int) then (if 3 < (l0.length : Int) then (some (Go.bits .or .u32 (Go.bits .or .u32 (Go.bits .or .u32 ((((rd l0 0) % 4294967296) * 16777216) % 4294967296) ((((rd l0 1) % 4294967296) * 65536) % 4294967296)) ((((rd l0 2) % 4294967296) * 256) % 4294967296)) ((rd l0 3) % 4294967296))) else (none)) else (none)) else (none)) else (none)
theorem frame_number.calls (A0 : Option Addr) (c0 : Nat) (l0 : List Int) (r : Int) (w : World) (hr0 : Kd.C (Kd.int .u8) w A0 l0.length l0) (hc0 : l0.length ≤ c0) (h : frame_number.f l0 = some r) :
  Calls Try.prog 76 #[.slice A0 l0.length c0] w fun e w' => e = .returned (.int .u32 r) ∧ Drawn0 w w' := by
 have HR0 := aK hr0
 have HC0 := aK hc0
 clear hr0 hc0
 have H : (if 0 < (l0.length : Int) then (if 1 < (l0.length : Int) then (if 2 < (l0.length : Int) then (if 3 < (l0.length : Int) then (some (Go.bits .or .u32 (Go.bits .or .u32 (Go.bits .or .u32 ((((rd l0 0) % 4294967296) * 16777216) % 4294967296) ((((rd l0 1) % 4294967296) * 65536) % 4294967296)) ((((rd l0 2) % 4294967296) * 256) % 4294967296)) ((rd l0 3) % 4294967296))) else (none)) else (none)) else (none)) else (none)) = some r := h
 clear h
 by_cases c2 : 0 < (l0.length : Int)
 ·rw [if_pos c2] at H
  have c2b0 : decide (0 < (l0.length : Int)) = true := decide_eq_true c2
  have c2b1 : decide (0 < l0.length) = true := decide_eq_true (by omega)
  clear c2
  by_cases c3 : 1 < (l0.length : Int)
  ·rw [if_pos c3] at H
   have c3b0 : decide (1 < (l0.length : Int)) = true := decide_eq_true c3
   have c3b1 : decide (1 < l0.length) = true := decide_eq_true (by omega)
   clear c3
   by_cases c4 : 2 < (l0.length : Int)
   ·rw [if_pos c4] at H
    have c4b0 : decide (2 < (l0.length : Int)) = true := decide_eq_true c4
    have c4b1 : decide (2 < l0.length) = true := decide_eq_true (by omega)
    clear c4
    by_cases c5 : 3 < (l0.length : Int)
    ·rw [if_pos c5] at H
     have c5b0 : decide (3 < (l0.length : Int)) = true := decide_eq_true c5
     have c5b1 : decide (3 < l0.length) = true := decide_eq_true (by omega)
     clear c5
     obtain rfl := Option.some.inj H
     have p146 : 0 ≤ (0 : Int) := (by omega)
     have q146 : 0 < (l0.length : Int) := of_decide_eq_true (by first | (with_reducible assumption) | assumption)
     obtain ⟨ad146, e146, hx146_0⟩ := Kd.at_int HR0.out 0 p146 q146
     cases e146
     have qi146 : (0 < l0.length) = True := eq_true (by omega)
     (try rw [show ((0 : Int)).toNat = 0 from rfl] at hx146_0)
     (try rw [Addr.add_zero'] at hx146_0)
     replace p146 := eq_true p146
     replace q146 := eq_true q146
     have p147 : 0 ≤ (1 : Int) := (by omega)
     have q147 : 1 < (l0.length : Int) := of_decide_eq_true (by first | (with_reducible assumption) | assumption)
     obtain ⟨ad147, e147, hx147_0⟩ := Kd.at_int HR0.out 1 p147 q147
     obtain rfl : ad146 = ad147 := (by injection e147)
     (try simp only [show (1 : Int).toNat = 1 from rfl, Nat.reduceMul, Nat.reduceEqDiff, Go.Addr.add, ↓reduceIte] at hx147_0)
     have qi147 : (1 < l0.length) = True := eq_true (by omega)
     (try rw [show ((1 : Int)).toNat = 1 from rfl] at hx147_0)
     replace p147 := eq_true p147
     replace q147 := eq_true q147
     have p148 : 0 ≤ (2 : Int) := (by omega)
     have q148 : 2 < (l0.length : Int) := of_decide_eq_true (by first | (with_reducible assumption) | assumption)
     obtain ⟨ad148, e148, hx148_0⟩ := Kd.at_int HR0.out 2 p148 q148
     obtain rfl : ad146 = ad148 := (by injection e148)
     (try simp only [show (2 : Int).toNat = 2 from rfl, Nat.reduceMul, Nat.reduceEqDiff, Go.Addr.add, ↓reduceIte] at hx148_0)
     have qi148 : (2 < l0.length) = True := eq_true (by omega)
     (try rw [show ((2 : Int)).toNat = 2 from rfl] at hx148_0)
     replace p148 := eq_true p148
     replace q148 := eq_true q148
     have p149 : 0 ≤ (3 : Int) := (by omega)
     have q149 : 3 < (l0.length : Int) := of_decide_eq_true (by first | (with_reducible assumption) | assumption)
     obtain ⟨ad149, e149, hx149_0⟩ := Kd.at_int HR0.out 3 p149 q149
     obtain rfl : ad146 = ad149 := (by injection e149)
     (try simp only [show (3 : Int).toNat = 3 from rfl, Nat.reduceMul, Nat.reduceEqDiff, Go.Addr.add, ↓reduceIte] at hx149_0)
     have qi149 : (3 < l0.length) = True := eq_true (by omega)
     (try rw [show ((3 : Int)).toNat = 3 from rfl] at hx149_0)
     replace p149 := eq_true p149
     replace q149 := eq_true q149
     go_enter Try.func76, Try.ntmps76
     go_wp2
     repeat (go_quiet (fail); try go_wp2)
     go_ret
     exact ⟨by first | rfl | (simp; done) | (simp [*]; done), by repeat (first | exact Drawn0.refl _ | apply Drawn0.step)⟩
    ·rw [if_neg c5] at H
     exact absurd H (by simp)
   ·rw [if_neg c4] at H
    exact absurd H (by simp)
  ·rw [if_neg c3] at H
   exact absurd H (by simp)
 ·rw [if_neg c2] at H
  exact absurd H (by simp)
def frame_first.j0 : Nat → List Int → Int → Bool → Option (List Int × Bool)
 | 0, _, _, _ => none
 | k + 1, x0, x4, x24 => if x24 = true then (some (([] : List Int), false)) else (if 8 ≤ ((8 + x4) % 4294967296) then (if ((8 + x4) % 4294967296) ≤ (x0.length : Int) then ((frame_join.f k (([((x0.take (((8 + x4) % 4294967296) : Int).toNat).drop 8)] : List (List Int)))).bind fun t139 => (if 4 ≤ (x0.length : Int) then ((sum_Of.f k (x0.take 4)).bind fun t147 => ((sum_More.f k t147 t139).bind fun t148 => ((frame_number.f (x0.drop 4)).bind fun t154 => (if t148 = t154 then (if 0 ≤ (t139.length : Int) then (if (t139.length : Int) ≤ (t139.length : Int) then (some ((t139.take ((t139.length : Int) : Int).toNat), true)) else (none)) else (none)) else (some (([] : List Int), false)))))) else (none))) else (none)) else (none))
def frame_first.f (k : Nat) (l0 : List Int) : Option (List Int × Bool) := if (l0.length : Int) < 9 then (some (([] : List Int), false)) else ((frame_number.f l0).bind fun t130 => (if t130 = 0 then (frame_first.j0 k l0 t130 true) else (if t130 > 65536 then (frame_first.j0 k l0 t130 true) else (frame_first.j0 k l0 t130 (decide ((wrap64 (t130)) > (wrap64 ((l0.length : Int) - 8))))))))
def frame_first.T7 : Bool × List (List Nat × List Nat) := (true, [([], []), ([0], [0]), ([1], [1]), ([], []), ([2, 3, 2], [2, 3]), ([], []), ([5], [5]), ([6, 4], [6]), ([4, 7], [4, 7])])
def frame_first.B7 : List Nat := [0, 1, 3, 0, 15, 0, 32, 127, 255]
theorem frame_first.tab7 : rtab .any (opsOf Try.f61 7) = frame_first.T7 := by kernel_rfl
theorem frame_first.bits7 : znd frame_first.T7.2 frame_first.B7 = true := by kernel_rfl
theorem frame_first.walkV (k : Nat) (P0_ : Nat → Prop) (A0 : Option Addr) (c0 : Nat) (l0 : List Int) (r1 : List Int) (r2 : Bool) (w : World) (hs0 : Kd.V (Kd.int .u8) 5 w w.heap.size (fun k_ => P0_ k_) (.slice A0 l0.length c0) l0) (h : frame_first.f k l0 = some (r1, r2)) :
  Calls Try.prog 61 #[.slice A0 l0.length c0] w fun e w' => ∃ v0_ : Value, e = .returned (.tuple #[v0_, .bool r2]) ∧ Kd.V (Kd.int .u8) 5 w' w.heap.size (fun k_ => (w.heap.size ≤ k_)) v0_ r1 ∧ Below w.heap.size w w' := by
 have HO0 := aK (show Kd.V (Kd.int .u8) 5 w w.heap.size (fun k_ => (P0_ k_ ∨ w.heap.size ≤ k_)) (.slice A0 l0.length c0) l0 from Kd.V_mono hs0 (fun k_ hk => .inl hk))
 have HB := aK (Below.refl w.heap.size w)
 have H : (if (l0.length : Int) < 9 then (some (([] : List Int), false)) else ((frame_number.f l0).bind fun t130 => (if t130 = 0 then (frame_first.j0 k l0 t130 true) else (if t130 > 65536 then (frame_first.j0 k l0 t130 true) else (frame_first.j0 k l0 t130 (decide ((wrap64 (t130)) > (wrap64 ((l0.length : Int) - 8))))))))) = some (r1, r2) := h
 clear h
 by_cases c2 : (l0.length : Int) < 9
 ·rw [if_pos c2] at H
  have c2b0 : decide ((l0.length : Int) < 9) = true := decide_eq_true c2
  have c2b1 : decide (l0.length < 9) = true := decide_eq_true (by omega)
  clear c2
  simp only [Option.some.injEq, Prod.mk.injEq] at H
  obtain ⟨rfl, rfl⟩ := H
  go_enter Try.func61, Try.ntmps61
  go_wp2
  go_ret2
  exact ⟨_, by first | rfl | (simp [errW_none, errW_some] <;> rfl) | (simp [*, errW_none, errW_some] <;> rfl), by first | exact Kd.R_nil _ _ _ _ _ | exact Kd.N_nil _ _ _ _ _ | exact Kd.V_nil _ _ _ _ _ | exact Kd.Q_nil _ _ _ _ _ | exact Kd.S_nil _ _ _ _ _, by repeat (first | (with_reducible first | exact HB.out | apply zaa | apply zac | apply zaf) | exact HB.out)⟩
 ·rw [if_neg c2] at H
  have c2b0 : decide ((l0.length : Int) < 9) = false := decide_eq_false c2
  have c2b1 : decide (l0.length < 9) = false := decide_eq_false (by omega)
  clear c2
  replace H := Option.bind_eq_some_iff.mp H
  obtain ⟨t130, A30, H⟩ := H
  replace H : (if t130 = 0 then (frame_first.j0 k l0 t130 true) else (if t130 > 65536 then (frame_first.j0 k l0 t130 true) else (frame_first.j0 k l0 t130 (decide ((wrap64 (t130)) > (wrap64 ((l0.length : Int) - 8))))))) = some (r1, r2) := H
  have A3 := aK A30
  clear A30
  have HC4 := aK H
  clear H
  go_enter Try.func61, Try.ntmps61
  go_upto_region 4 with (first | ((with_reducible refine zbb (f := 76) rfl ?_); refine zco (some 10) rfl rfl Try.func76 (by kernel_rfl) rfl #[.slice A0 l0.length c0] rfl (by (try simp only [List.map_toArray, List.map_cons, List.map_nil]); first | done | rfl | (simp only [List.length_drop, List.length_take]; rfl)) ?_; (with_reducible refine (frame_number.calls _ _ l0 t130 _ ?side1 ?side2 A3.out).mono ?_); (case side1 => repeat (first | exact (Kd.V_reads' HO0.out).2.2 | (with_reducible refine Kd.C_alloc ?_ _) | (with_reducible refine Kd.C_drewN ?_ _) | (with_reducible refine Kd.C_drew ?_))); (case side2 => exact (Kd.V_reads' HO0.out).2.1); rintro e w' ⟨rfl, ⟨nd, rfl⟩⟩; refine ⟨_, rfl, ?_⟩))
  (try simp only [Act.put, aS, aZ, aC])
  go_cut [24] (fun v24 wc => ∃ (kq : Nat) (x24_3 : Bool), v24 = .bool x24_3 ∧ Aside0 (frame_first.j0 kq l0 t130 x24_3 = some (r1, r2)) ∧ Aside0 (kq ≤ k) ∧ Aside0 (Kd.V (Kd.int .u8) 5 wc w.heap.size (fun k_ => (P0_ k_ ∨ w.heap.size ≤ k_)) (.slice A0 l0.length c0) l0) ∧ Aside0 (Below w.heap.size w wc))
  case first =>
   have H := HC4.out
   clear HC4
   by_cases c5 : t130 = 0
   ·rw [if_pos c5] at H
    have c5b0 : (t130 == 0) = true := beq_iff_eq.mpr c5
    have c5b1 : (t130 != 0) = false := bne_eq_false_iff_eq.mpr c5
    clear c5
    (first | rw [c5b0] | (simp only [zdw, zdx]; rw [c5b0]) | skip)
    have H' := aK H
    clear H
    go_wp2
    go_meet
    case rel => exact ⟨_, (true), (by first | rfl | (simp; done) | (simp [*]; done)), H', ⟨by first | omega | exact Nat.le_refl _⟩, ⟨by (with_reducible repeat (first | apply Kd.V_alloc | apply Kd.V_drewN | apply Kd.V_drew)); exact HO0.out⟩, ⟨by repeat (first | (with_reducible first | exact HB.out | apply zaa | apply zac | apply zaf) | exact HB.out)⟩⟩
   ·rw [if_neg c5] at H
    have c5b0 : (t130 == 0) = false := beq_eq_false_iff_ne.mpr c5
    have c5b1 : (t130 != 0) = true := bne_iff_ne.mpr c5
    (first | rw [c5b0] | (simp only [zdw, zdx]; rw [c5b0]) | skip)
    by_cases c6 : t130 > 65536
    ·rw [if_pos c6] at H
     have c6b0 : decide (65536 < t130) = true := decide_eq_true c6
     clear c6
     have H' := aK H
     clear H
     go_wp2
     go_meet
     case rel => exact ⟨_, (true), (by first | rfl | (simp; done) | (simp [*]; done)), H', ⟨by first | omega | exact Nat.le_refl _⟩, ⟨by (with_reducible repeat (first | apply Kd.V_alloc | apply Kd.V_drewN | apply Kd.V_drew)); exact HO0.out⟩, ⟨by repeat (first | (with_reducible first | exact HB.out | apply zaa | apply zac | apply zaf) | exact HB.out)⟩⟩
    ·rw [if_neg c6] at H
     have c6b0 : decide (65536 < t130) = false := decide_eq_false c6
     clear c6
     have H' := aK H
     clear H
     go_wp2
     go_meet
     case rel => exact ⟨_, (decide ((wrap64 (t130)) > (wrap64 ((l0.length : Int) - 8)))), (by first | rfl | (simp; done) | (simp [*]; done)), H', ⟨by first | omega | exact Nat.le_refl _⟩, ⟨by (with_reducible repeat (first | apply Kd.V_alloc | apply Kd.V_drewN | apply Kd.V_drew)); exact HO0.out⟩, ⟨by repeat (first | (with_reducible first | exact HB.out | apply zaa | apply zac | apply zaf) | exact HB.out)⟩⟩
  case rest =>
   clear HC4
   try clear c2
   try clear c2b0
   try clear c2b1
   try clear p2
   try clear c5
   try clear c5b0
   try clear c5b1
   try clear c6
   try clear c6b0
   try clear p6
   obtain ⟨kq, x24_3, rfl, HA, HJ3, HO_0, HB⟩ := hcut
   cases kq with
   | zero => exact absurd HA.out (by simp [frame_first.j0])
   | succ kj3 =>
    have H := HA.out
    clear HA
    simp only [frame_first.j0] at H
    by_cases c7 : x24_3 = true
    ·subst c7
     have H1 : (some (([] : List Int), false)) = some (r1, r2) := by rw [if_pos rfl] at H; exact H
     clear H
     have H := H1
     clear H1
     simp only [Option.some.injEq, Prod.mk.injEq] at H
     obtain ⟨rfl, rfl⟩ := H
     go_wp2
     go_ret2
     exact ⟨_, by first | rfl | (simp [errW_none, errW_some] <;> rfl) | (simp [*, errW_none, errW_some] <;> rfl), by first | exact Kd.R_nil _ _ _ _ _ | exact Kd.N_nil _ _ _ _ _ | exact Kd.V_nil _ _ _ _ _ | exact Kd.Q_nil _ _ _ _ _ | exact Kd.S_nil _ _ _ _ _, by repeat (first | (with_reducible first | exact HB.out | apply zaa | apply zac | apply zaf) | exact HB.out)⟩
    ·replace c7 := Bool.eq_false_iff.mpr c7
     subst c7
     have H1 : (if 8 ≤ ((8 + t130) % 4294967296) then (if ((8 + t130) % 4294967296) ≤ (l0.length : Int) then ((frame_join.f kj3 (([((l0.take (((8 + t130) % 4294967296) : Int).toNat).drop 8)] : List (List Int)))).bind fun t139 => (if 4 ≤ (l0.length : Int) then ((sum_Of.f kj3 (l0.take 4)).bind fun t147 => ((sum_More.f kj3 t147 t139).bind fun t148 => ((frame_number.f (l0.drop 4)).bind fun t154 => (if t148 = t154 then (if 0 ≤ (t139.length : Int) then (if (t139.length : Int) ≤ (t139.length : Int) then (some ((t139.take ((t139.length : Int) : Int).toNat), true)) else (none)) else (none)) else (some (([] : List Int), false)))))) else (none))) else (none)) else (none)) = some (r1, r2) := by rw [if_neg (show ¬ (false = true) by decide)] at H; exact H
     clear H
     have H := H1
     clear H1
     by_cases c8 : 8 ≤ ((8 + t130) % 4294967296)
     ·rw [if_pos c8] at H
      have c8b0 := eq_true c8
      have c8b1 : decide (8 ≤ ((8 + t130) % 4294967296)) = true := decide_eq_true c8
      by_cases c9 : ((8 + t130) % 4294967296) ≤ (l0.length : Int)
      ·rw [if_pos c9] at H
       have c9b0 := eq_true c9
       have c9b1 : decide (((8 + t130) % 4294967296) ≤ (l0.length : Int)) = true := decide_eq_true c9
       obtain ⟨y131, hy131⟩ : ∃ y_ : List Int, y_ = ((l0.take (((8 + t130) % 4294967296) : Int).toNat).drop 8) := ⟨_, rfl⟩
       replace H : ((frame_join.f kj3 (([y131] : List (List Int)))).bind fun t139 => (if 4 ≤ (l0.length : Int) then ((sum_Of.f kj3 (l0.take 4)).bind fun t147 => ((sum_More.f kj3 t147 t139).bind fun t148 => ((frame_number.f (l0.drop 4)).bind fun t154 => (if t148 = t154 then (if 0 ≤ (t139.length : Int) then (if (t139.length : Int) ≤ (t139.length : Int) then (some ((t139.take ((t139.length : Int) : Int).toNat), true)) else (none)) else (none)) else (some (([] : List Int), false)))))) else (none))) = some (r1, r2) := by first | (rw [hy131]; with_reducible exact H) | (have H2_ := (Option.bind_some _ _).symm.trans H; rw [hy131]; with_reducible exact H2_) | (have H2_ := (Option.bind_some _ _).symm.trans H; with_reducible exact H2_) | with_reducible exact H | (rw [hy131]; exact H) | exact H
       have Ny131 := aK hy131
       clear hy131
       obtain ⟨y136, hy136⟩ : ∃ y_ : List (List Int), y_ = (([y131] : List (List Int))) := ⟨_, rfl⟩
       replace H : ((frame_join.f kj3 y136).bind fun t139 => (if 4 ≤ (l0.length : Int) then ((sum_Of.f kj3 (l0.take 4)).bind fun t147 => ((sum_More.f kj3 t147 t139).bind fun t148 => ((frame_number.f (l0.drop 4)).bind fun t154 => (if t148 = t154 then (if 0 ≤ (t139.length : Int) then (if (t139.length : Int) ≤ (t139.length : Int) then (some ((t139.take ((t139.length : Int) : Int).toNat), true)) else (none)) else (none)) else (some (([] : List Int), false)))))) else (none))) = some (r1, r2) := by first | (rw [hy136]; with_reducible exact H) | (have H2_ := (Option.bind_some _ _).symm.trans H; rw [hy136]; with_reducible exact H2_) | (have H2_ := (Option.bind_some _ _).symm.trans H; with_reducible exact H2_) | with_reducible exact H | (rw [hy136]; exact H) | exact H
       have Ny136 := aK hy136
       clear hy136
       replace H := Option.bind_eq_some_iff.mp H
       obtain ⟨t139, A100, H⟩ := H
       replace H : (if 4 ≤ (l0.length : Int) then ((sum_Of.f kj3 (l0.take 4)).bind fun t147 => ((sum_More.f kj3 t147 t139).bind fun t148 => ((frame_number.f (l0.drop 4)).bind fun t154 => (if t148 = t154 then (if 0 ≤ (t139.length : Int) then (if (t139.length : Int) ≤ (t139.length : Int) then (some ((t139.take ((t139.length : Int) : Int).toNat), true)) else (none)) else (none)) else (some (([] : List Int), false)))))) else (none)) = some (r1, r2) := H
       have A10 := aK A100
       clear A100
       by_cases c11 : 4 ≤ (l0.length : Int)
       ·rw [if_pos c11] at H
        have c11b0 := eq_true c11
        have c11b1 : decide (4 ≤ (l0.length : Int)) = true := decide_eq_true c11
        clear c11
        obtain ⟨y142, hy142⟩ : ∃ y_ : List Int, y_ = (l0.take 4) := ⟨_, rfl⟩
        replace H : ((sum_Of.f kj3 y142).bind fun t147 => ((sum_More.f kj3 t147 t139).bind fun t148 => ((frame_number.f (l0.drop 4)).bind fun t154 => (if t148 = t154 then (if 0 ≤ (t139.length : Int) then (if (t139.length : Int) ≤ (t139.length : Int) then (some ((t139.take ((t139.length : Int) : Int).toNat), true)) else (none)) else (none)) else (some (([] : List Int), false)))))) = some (r1, r2) := by first | (rw [hy142]; with_reducible exact H) | (have H2_ := (Option.bind_some _ _).symm.trans H; rw [hy142]; with_reducible exact H2_) | (have H2_ := (Option.bind_some _ _).symm.trans H; with_reducible exact H2_) | with_reducible exact H | (rw [hy142]; exact H) | exact H
        have Ny142 := aK hy142
        clear hy142
        replace H := Option.bind_eq_some_iff.mp H
        obtain ⟨t147, A120, H⟩ := H
        replace H : ((sum_More.f kj3 t147 t139).bind fun t148 => ((frame_number.f (l0.drop 4)).bind fun t154 => (if t148 = t154 then (if 0 ≤ (t139.length : Int) then (if (t139.length : Int) ≤ (t139.length : Int) then (some ((t139.take ((t139.length : Int) : Int).toNat), true)) else (none)) else (none)) else (some (([] : List Int), false))))) = some (r1, r2) := H
        have A12 := aK A120
        clear A120
        replace H := Option.bind_eq_some_iff.mp H
        obtain ⟨t148, A130, H⟩ := H
        replace H : ((frame_number.f (l0.drop 4)).bind fun t154 => (if t148 = t154 then (if 0 ≤ (t139.length : Int) then (if (t139.length : Int) ≤ (t139.length : Int) then (some ((t139.take ((t139.length : Int) : Int).toNat), true)) else (none)) else (none)) else (some (([] : List Int), false)))) = some (r1, r2) := H
        have A13 := aK A130
        clear A130
        have c14b0 := eq_true (of_decide_eq_true (by first | (with_reducible assumption) | assumption) : 4 ≤ (l0.length : Int))
        obtain ⟨y149, hy149⟩ : ∃ y_ : List Int, y_ = (l0.drop 4) := ⟨_, rfl⟩
        replace H : ((frame_number.f y149).bind fun t154 => (if t148 = t154 then (if 0 ≤ (t139.length : Int) then (if (t139.length : Int) ≤ (t139.length : Int) then (some ((t139.take ((t139.length : Int) : Int).toNat), true)) else (none)) else (none)) else (some (([] : List Int), false)))) = some (r1, r2) := by first | (rw [hy149]; with_reducible exact H) | (have H2_ := (Option.bind_some _ _).symm.trans H; rw [hy149]; with_reducible exact H2_) | (have H2_ := (Option.bind_some _ _).symm.trans H; with_reducible exact H2_) | with_reducible exact H | (rw [hy149]; exact H) | exact H
        have Ny149 := aK hy149
        clear hy149
        replace H := Option.bind_eq_some_iff.mp H
        obtain ⟨t154, A150, H⟩ := H
        replace H : (if t148 = t154 then (if 0 ≤ (t139.length : Int) then (if (t139.length : Int) ≤ (t139.length : Int) then (some ((t139.take ((t139.length : Int) : Int).toNat), true)) else (none)) else (none)) else (some (([] : List Int), false))) = some (r1, r2) := H
        have A15 := aK A150
        clear A150
        by_cases c16 : t148 = t154
        ·rw [if_pos c16] at H
         have c16b0 : (t148 == t154) = true := beq_iff_eq.mpr c16
         have c16b1 : (t148 != t154) = false := bne_eq_false_iff_eq.mpr c16
         clear c16
         by_cases c17 : 0 ≤ (t139.length : Int)
         ·rw [if_pos c17] at H
          have c17b0 := eq_true c17
          have c17b1 : decide (0 ≤ (t139.length : Int)) = true := decide_eq_true c17
          clear c17
          by_cases c18 : (t139.length : Int) ≤ (t139.length : Int)
          ·rw [if_pos c18] at H
           have c18b0 := eq_true c18
           have c18b1 : decide ((t139.length : Int) ≤ (t139.length : Int)) = true := decide_eq_true c18
           clear c18
           obtain ⟨y155, hy155⟩ : ∃ y_ : List Int, y_ = (t139.take ((t139.length : Int) : Int).toNat) := ⟨_, rfl⟩
           replace H : (some (y155, true)) = some (r1, r2) := by first | (rw [hy155]; with_reducible exact H) | (have H2_ := (Option.bind_some _ _).symm.trans H; rw [hy155]; with_reducible exact H2_) | (have H2_ := (Option.bind_some _ _).symm.trans H; with_reducible exact H2_) | with_reducible exact H | (rw [hy155]; exact H) | exact H
           have Ny155 := aK hy155
           clear hy155
           simp only [Option.some.injEq, Prod.mk.injEq] at H
           obtain ⟨rfl, rfl⟩ := H
           have q19 : (((8 + t130) % 4294967296) : Int) ≤ ((l0.length : Int) : Int) := of_decide_eq_true (by first | (with_reducible assumption) | assumption)
           obtain ⟨i019, hi019, _, hsz19, _⟩ := info_parts info5
           have hroom19 : l0.length ≤ c0 := (Kd.V_reads' HO_0.out).2.1
           have hC19 : Kd.F (Kd.int .u8) _ _ A0 l0.length l0 := (Kd.V_at (base := w.heap.size) HO_0.out).2.2
           have ql19 : (8 : Int) ≤ (((8 + t130) % 4294967296) : Int) := of_decide_eq_true (by first | (with_reducible assumption) | assumption)
           have hcut19 := zqz (P := Try.prog) 37 5 .i64 .u32 Try.underlying37 hi019 1 hsz19 A0 l0.length c0 8 ((8 + t130) % 4294967296) (by omega) ql19 q19 hroom19
           have hr19 := Kd.F_mid (lo := (8 : Int).toNat) (hi := (((8 + t130) % 4294967296) : Int).toNat) (c := c0) hC19 (by omega) (by omega) hroom19
           obtain ⟨A19, hA19⟩ : ∃ A1, A1 = (if c0 = (8 : Int).toNat then A0 else (A0 : Option Addr).map (·.add ((8 : Int).toNat * 1))) := ⟨_, rfl⟩
           obtain ⟨c19, hc19⟩ : ∃ c1, c1 = c0 - (8 : Int).toNat := ⟨_, rfl⟩
           have hy19 : y131.length = (((8 + t130) % 4294967296) : Int).toNat - (8 : Int).toNat := (by rw [Ny131.out, List.length_drop, List.length_take] <;> omega)
           rw [show ((l0).take (((8 + t130) % 4294967296) : Int).toNat).drop (8 : Int).toNat = y131 from Ny131.out.symm] at hr19
           replace hr19 : Kd.F (Kd.int .u8) _ _ A19 y131.length y131 := (by rw [hA19]; exact hr19)
           rw [← hy19, ← hA19, ← hc19] at hcut19
           have HO135 := aK (show Kd.V (Kd.int .u8) 5 _ w.heap.size _ (.slice A19 y131.length c19) y131 from Kd.V_mk (by rw [hy19, hc19]; exact Nat.sub_le_sub_right (Nat.le_trans (by omega) hroom19) _) hr19)
           have HC135 := aK (show y131.length ≤ c19 from by rw [hy19, hc19]; exact Nat.sub_le_sub_right (Nat.le_trans (by omega) hroom19) _)
           clear hr19 hC19 hroom19 hi019 hsz19 hc19
           have KY19 := aK hy19
           have KA19 := aK hA19
           clear hy19 hA19
           replace q19 := eq_true q19
           try go_wp2_with (first | ((with_reducible refine zag (N := 29) rfl ?_); (try (refine zbi (by rfl) ?_; dsimp only)); refine Kd.N_lit (Kd.slice 5 (Kd.int .u8)) _ 37 ?hg (N' := 29) ?hd (xs := ([y131] : List (List Int))) (inner := [.slice A19 y131.length c19]) (ok := (fun k_ => (P0_ k_ ∨ w.heap.size ≤ k_))) (okp := (fun k_ => (P0_ k_ ∨ w.heap.size ≤ k_))) ?hr ?hp (fun _ hk => hk) ((show ∀ k_, wc.heap.size ≤ k_ → (fun k_ => (P0_ k_ ∨ w.heap.size ≤ k_)) k_ from fun k_ hk => (.inr (Nat.le_trans (zav (by repeat (first | (with_reducible first | exact HB.out | apply zaa | apply zac | apply zaf) | exact HB.out))) hk))) _ (Nat.le_refl _)) (Below.refl _ _) (Nat.le_refl _) (by simp) ?_; (case hd => rfl); (case hg => rfl); (case hr => first | (go_simp; done) | (go_simp; rfl)); (case hp => exact (Reps.one (show Kd.FK (Kd.slice 5 (Kd.int .u8)) _ _ y131 [.slice A19 y131.length c19] from (Kd.FK_slice_mk (Kd.V_reads' (Kd.V_mono (ok' := (fun k_ => (P0_ k_ ∨ w.heap.size ≤ k_))) (HO135.out) (fun k_ hk => hk))).2.1 (Kd.V_F (Kd.V_mono (ok' := (fun k_ => (P0_ k_ ∨ w.heap.size ≤ k_))) (HO135.out) (fun k_ hk => hk))))) (Reps.none _ _))); intro v137 w20 ho21 hb hg_ hnew_; clear hg_ hnew_; (first | rw [← Ny136.out] at ho21 | (simp only [Int.reduceToNat] at ho21; rw [← Ny136.out] at ho21)); have n0_ := aK (Kd.V_elder' (by (with_reducible repeat (first | apply Kd.V_alloc | apply Kd.V_drewN | apply Kd.V_drew)); exact HO_0.out) (Kd.N_base ho21) hb); have n1_ := aK (Kd.V_elder' (by (with_reducible repeat (first | apply Kd.V_alloc | apply Kd.V_drewN | apply Kd.V_drew)); exact HO135.out) (Kd.N_base ho21) hb); have n2_ := aK (Kd.N_lower ho21 (zav (by repeat (first | (with_reducible first | exact HB.out | apply zaa | apply zac | apply zaf) | exact HB.out)))); have n3_ := aK (zba (by repeat (first | (with_reducible first | exact HB.out | apply zaa | apply zac | apply zaf) | exact HB.out)) hb); clear HO_0; clear HO135; clear HB; have HO_0 := n0_; have HO135 := n1_; have HO138 := n2_; have HB := n3_; clear n0_ n1_ n2_ n3_; clear hb ho21; obtain ⟨Ao22, co22, eo22⟩ := Kd.N_slice HO138.out; subst eo22) | ((with_reducible refine zbb (f := 44) rfl ?_); refine zco (some 30) rfl rfl Try.func44 (by kernel_rfl) rfl #[.slice Ao22 y136.length co22] rfl (by (try simp only [List.map_toArray, List.map_cons, List.map_nil]); first | done | rfl | (simp only [List.length_drop, List.length_take]; rfl)) ?_; (with_reducible refine (frame_join.calls kj3 _ _ y136 t139 _ ?side1 ?side2 A10.out).mono ?_); (case side1 => repeat (first | exact (Kd.N_reads' HO138.out).2.2 | (with_reducible refine Kd.C_alloc ?_ _) | (with_reducible refine Kd.C_drewN ?_ _) | (with_reducible refine Kd.C_drew ?_))); (case side2 => exact (Kd.N_reads' HO138.out).2.1); rintro e w23 ⟨v140, rfl, ho0, hb⟩; refine ⟨_, rfl, ?_⟩; have n0_ := aK (Kd.V_elder' (by (with_reducible repeat (first | apply Kd.V_alloc | apply Kd.V_drewN | apply Kd.V_drew)); exact HO_0.out) (Kd.R_base ho0) hb); have n1_ := aK (Kd.V_elder' (by (with_reducible repeat (first | apply Kd.V_alloc | apply Kd.V_drewN | apply Kd.V_drew)); exact HO135.out) (Kd.R_base ho0) hb); have n2_ := aK (Kd.N_elder' (by (with_reducible repeat (first | apply Kd.N_alloc | apply Kd.N_drewN | apply Kd.N_drew)); exact HO138.out) (Kd.R_base ho0) hb); have n3_ := aK (Kd.R_lower (Kd.R_newM (M := fun k_ => (w.heap.size ≤ k_)) ho0 (zav (by repeat (first | (with_reducible first | exact HB.out | apply zaa | apply zac | apply zaf) | exact HB.out))) (fun k_ h_ => h_)) (zav (by repeat (first | (with_reducible first | exact HB.out | apply zaa | apply zac | apply zaf) | exact HB.out)))); have n4_ := aK (zba (by repeat (first | (with_reducible first | exact HB.out | apply zaa | apply zac | apply zaf) | exact HB.out)) hb); clear HO_0; clear HO135; clear HO138; clear HB; have HO_0 := n0_; have HO135 := n1_; have HO138 := n2_; have HO141 := n3_; have HB := n4_; clear n0_ n1_ n2_ n3_ n4_; (try clear hb); (try clear hb2); (try clear hk); (try clear hi); (try clear ho0)))
           have n0_ := aK (Kd.V_drew HO_0.out)
           have n1_ := aK (Kd.V_drew HO135.out)
           have n2_ := aK (Kd.N_drew HO138.out)
           have n3_ := aK (Kd.R_drew HO141.out)
           have n4_ := aK (zaf HB.out)
           clear HO_0
           clear HO135
           clear HO138
           clear HO141
           clear HB
           have HO_0 := n0_
           have HO135 := n1_
           have HO138 := n2_
           have HO141 := n3_
           have HB := n4_
           clear n0_ n1_ n2_ n3_ n4_
           have q25 : (4 : Int) ≤ ((l0.length : Int) : Int) := of_decide_eq_true (by first | (with_reducible assumption) | assumption)
           obtain ⟨i025, hi025, _, hsz25, _⟩ := info_parts info5
           have hroom25 : l0.length ≤ c0 := (Kd.V_reads' HO_0.out).2.1
           have hC25 : Kd.F (Kd.int .u8) _ _ A0 l0.length l0 := (Kd.V_at (base := w.heap.size) HO_0.out).2.2
           have hcut25 := cut_to (P := Try.prog) 37 5 .i64 Try.underlying37 hi025 A0 l0.length c0 4 (by omega) q25 hroom25
           have hr25 := Kd.F_take (m := 4) hC25 (by omega)
           have hy25 : y142.length = (4 : Int).toNat := (by rw [Ny142.out, List.length_take]; omega)
           rw [← Ny142.out] at hr25
           rw [← hy25] at hcut25
           have HO146 := aK (show Kd.V (Kd.int .u8) 5 _ w.heap.size _ (.slice A0 y142.length c0) y142 from Kd.V_mk (by omega) hr25)
           have HC146 := aK (show y142.length ≤ c0 from by omega)
           clear hr25 hC25 hroom25 hi025 hsz25
           have KY25 := aK hy25
           clear hy25
           replace q25 := eq_true q25
           have q26 : (4 : Int) ≤ ((l0.length : Int) : Int) := of_decide_eq_true (by first | (with_reducible assumption) | assumption)
           obtain ⟨i026, hi026, _, hsz26, _⟩ := info_parts info5
           have hroom26 : l0.length ≤ c0 := (Kd.V_reads' HO_0.out).2.1
           have hC26 : Kd.F (Kd.int .u8) _ _ A0 l0.length l0 := (Kd.V_at (base := w.heap.size) HO_0.out).2.2
           have hcut26 := zny (P := Try.prog) 37 5 .i64 Try.underlying37 hi026 1 hsz26 A0 l0.length c0 4 (by omega) q26
           have hr26 := Kd.F_cut (m := (4 : Int).toNat) (c := c0) hC26 (by omega) hroom26
           obtain ⟨A26, hA26⟩ : ∃ A1, A1 = (if c0 = (4 : Int).toNat then A0 else (A0 : Option Addr).map (·.add ((4 : Int).toNat * 1))) := ⟨_, rfl⟩
           obtain ⟨c26, hc26⟩ : ∃ c1, c1 = c0 - (4 : Int).toNat := ⟨_, rfl⟩
           have hy26 : y149.length = l0.length - (4 : Int).toNat := (by rw [Ny149.out, List.length_drop] <;> omega)
           rw [show (l0).drop (4 : Int).toNat = y149 from Ny149.out.symm] at hr26
           replace hr26 : Kd.F (Kd.int .u8) _ _ A26 y149.length y149 := (by rw [hA26]; exact hr26)
           rw [← hy26, ← hA26, ← hc26] at hcut26
           have HO153 := aK (show Kd.V (Kd.int .u8) 5 _ w.heap.size _ (.slice A26 y149.length c26) y149 from Kd.V_mk (by rw [hy26, hc26]; exact Nat.sub_le_sub_right hroom26 _) hr26)
           have HC153 := aK (show y149.length ≤ c26 from by rw [hy26, hc26]; exact Nat.sub_le_sub_right hroom26 _)
           clear hr26 hC26 hroom26 hi026 hsz26 hc26
           have KY26 := aK hy26
           have KA26 := aK hA26
           clear hy26 hA26
           replace q26 := eq_true q26
           refine start_ (n := 9) (S := fun w' => True) (ds := []) #[false, false, false, false, false, false, false, false, false] (by kernel_rfl) rfl rfl trivial (fun hHeld => ?_); refine zls frame_first.tab7 frame_first.bits7 (fun HT_ HW_ => ?_)
           generalize w23.drew = w24 at HO_0 HO135 HO138 HO141 HB HO146 HO153 hHeld ⊢
           refine zhw (i := 0) (N := some 31) (v := ?_) (a' := ?_) #[true, false, false, false, false, false, false, false, false] rfl rfl (zfi HT_.out (by kernel_rfl)) (fun _ _ _ h => h) (Or.inl ⟨by rfl, ?_⟩) ?_ ?_
           rotate_left
           ·intro w'
            go_simp
            with_reducible rfl
           rotate_left
           ·simp only [Act.put, aS, aZ, aC, zdw, zdx]
            rfl
           refine zhw (i := 1) (N := some 32) (v := ?_) (a' := ?_) #[true, true, false, false, false, false, false, false, false] rfl rfl (zfi HT_.out (by kernel_rfl)) (fun _ _ _ h => h) (Or.inl ⟨by rfl, ?_⟩) ?_ ?_
           rotate_left
           ·intro w'
            go_simp
            with_reducible rfl
           rotate_left
           ·simp only [Act.put, aS, aZ, aC, zdw, zdx]
            rfl
           refine zhw (i := 3) (N := some 34) (v := ?_) (a' := ?_) #[true, true, false, true, false, false, false, false, false] rfl rfl (zfi HT_.out (by kernel_rfl)) (fun _ _ _ h => h) (Or.inl ⟨by rfl, ?_⟩) ?_ ?_
           rotate_left
           ·intro w'
            go_simp
            with_reducible rfl
           rotate_left
           ·simp only [Act.put, aS, aZ, aC, zdw, zdx]
            rfl
           refine zhw (i := 5) (N := some 36) (v := ?_) (a' := ?_) #[true, true, false, true, false, true, false, false, false] rfl rfl (zfi HT_.out (by kernel_rfl)) (fun _ _ _ h => h) (Or.inl ⟨by rfl, ?_⟩) ?_ ?_
           rotate_left
           ·intro w'
            go_simp
            with_reducible rfl
           rotate_left
           ·simp only [Act.put, aS, aZ, aC, zdw, zdx]
            rfl
           refine zhw (i := 6) (N := some 37) (v := ?_) (a' := ?_) #[true, true, false, true, false, true, true, false, false] rfl rfl (zfi HT_.out (by kernel_rfl)) (fun _ _ _ h => h) (Or.inl ⟨by rfl, ?_⟩) ?_ ?_
           rotate_left
           ·intro w'
            go_simp
            with_reducible rfl
           rotate_left
           ·simp only [Act.put, aS, aZ, aC, zdw, zdx]
            rfl
           refine one_ (i := 2) (N := some 33) #[true, true, true, true, false, true, true, false, false] rfl rfl (zjp HT_.out (by kernel_rfl)) (by decide) (fun K hK => ?_)
           refine zpo Try.func46 (by kernel_rfl) rfl #[.slice A0 y142.length c0] (by rfl) rfl rfl (by (try simp only [List.map_toArray, List.map_cons, List.map_nil]); first | done | rfl | (simp only [List.length_drop, List.length_take]; rfl)) ?_
           with_reducible refine (sum_Of.calls kj3 _ _ y142 t147 _ ?side1 ?side2 A12.out).mono ?_
           (case side1 => repeat (first | exact (Kd.V_reads' HO146.out).2.2 | (with_reducible refine Kd.C_alloc ?_ _) | (with_reducible refine Kd.C_drewN ?_ _) | (with_reducible refine Kd.C_drew ?_)))
           (case side2 => exact (Kd.V_reads' HO146.out).2.1)
           rintro e w27 ⟨rfl, hb⟩
           refine ⟨_, rfl, ?_⟩
           have n0_ := aK (Kd.V_below (by (with_reducible repeat (first | apply Kd.V_alloc | apply Kd.V_drewN | apply Kd.V_drew)); exact HO_0.out) hb)
           have n1_ := aK (Kd.V_below (by (with_reducible repeat (first | apply Kd.V_alloc | apply Kd.V_drewN | apply Kd.V_drew)); exact HO135.out) hb)
           have n2_ := aK (Kd.N_below (by (with_reducible repeat (first | apply Kd.N_alloc | apply Kd.N_drewN | apply Kd.N_drew)); exact HO138.out) hb)
           have n3_ := aK (Kd.R_below (by (with_reducible repeat (first | apply Kd.R_alloc | apply Kd.R_drewN | apply Kd.R_drew)); exact HO141.out) hb)
           have n4_ := aK (Kd.V_below (by (with_reducible repeat (first | apply Kd.V_alloc | apply Kd.V_drewN | apply Kd.V_drew)); exact HO146.out) hb)
           have n5_ := aK (Kd.V_below (by (with_reducible repeat (first | apply Kd.V_alloc | apply Kd.V_drewN | apply Kd.V_drew)); exact HO153.out) hb)
           have n6_ := aK (zba (by repeat (first | (with_reducible first | exact HB.out | apply zaa | apply zac | apply zaf) | exact HB.out)) hb)
           clear HO_0
           clear HO135
           clear HO138
           clear HO141
           clear HO146
           clear HO153
           clear HB
           have HO_0 := n0_
           have HO135 := n1_
           have HO138 := n2_
           have HO141 := n3_
           have HO146 := n4_
           have HO153 := n5_
           have HB := n6_
           clear n0_ n1_ n2_ n3_ n4_ n5_ n6_
           (try clear hb)
           (try clear hb2)
           (try clear hk)
           (try clear hi)
           obtain ⟨Ao28, co28, eo28⟩ := Kd.R_slice HO141.out
           (first | subst eo28 | (injection eo28 with f1_ f2_ f3_; have f4_ := f1_.symm; have f5_ := f3_.symm; clear f1_ f2_ f3_; subst f4_; subst f5_))
           refine hK.out _ _ trivial (fun hHeld => ?_)
           clear hK K
           refine zpn (a' := ?_) ?_ ?_
           rotate_left
           ·show Act.put _ (some 33) _ = _
            simp only [Act.put, aS, aZ, aC, zdw, zdx]
            rfl
           refine one_ (i := 4) (N := some 35) #[true, true, true, true, true, true, true, false, false] rfl rfl (zjp HT_.out (by kernel_rfl)) (by decide) (fun K hK => ?_)
           refine zpo Try.func45 (by kernel_rfl) rfl #[.int .u32 t147, .slice Ao28 t139.length co28] (by rfl) rfl rfl (by (try simp only [List.map_toArray, List.map_cons, List.map_nil]); first | done | rfl | (simp only [List.length_drop, List.length_take]; rfl)) ?_
           with_reducible refine (sum_More.calls kj3 t147 _ _ t139 t148 _ ?side1 ?side2 A13.out).mono ?_
           (case side1 => repeat (first | exact (Kd.R_reads' HO141.out).2.2 | (with_reducible refine Kd.C_alloc ?_ _) | (with_reducible refine Kd.C_drewN ?_ _) | (with_reducible refine Kd.C_drew ?_)))
           (case side2 => exact (Kd.R_reads' HO141.out).2.1)
           rintro e w29 ⟨rfl, hb⟩
           refine ⟨_, rfl, ?_⟩
           have n0_ := aK (Kd.V_below (by (with_reducible repeat (first | apply Kd.V_alloc | apply Kd.V_drewN | apply Kd.V_drew)); exact HO_0.out) hb)
           have n1_ := aK (Kd.V_below (by (with_reducible repeat (first | apply Kd.V_alloc | apply Kd.V_drewN | apply Kd.V_drew)); exact HO135.out) hb)
           have n2_ := aK (Kd.N_below (by (with_reducible repeat (first | apply Kd.N_alloc | apply Kd.N_drewN | apply Kd.N_drew)); exact HO138.out) hb)
           have n3_ := aK (Kd.R_below (by (with_reducible repeat (first | apply Kd.R_alloc | apply Kd.R_drewN | apply Kd.R_drew)); exact HO141.out) hb)
           have n4_ := aK (Kd.V_below (by (with_reducible repeat (first | apply Kd.V_alloc | apply Kd.V_drewN | apply Kd.V_drew)); exact HO146.out) hb)
           have n5_ := aK (Kd.V_below (by (with_reducible repeat (first | apply Kd.V_alloc | apply Kd.V_drewN | apply Kd.V_drew)); exact HO153.out) hb)
           have n6_ := aK (zba (by repeat (first | (with_reducible first | exact HB.out | apply zaa | apply zac | apply zaf) | exact HB.out)) hb)
           clear HO_0
           clear HO135
           clear HO138
           clear HO141
           clear HO146
           clear HO153
           clear HB
           have HO_0 := n0_
           have HO135 := n1_
           have HO138 := n2_
           have HO141 := n3_
           have HO146 := n4_
           have HO153 := n5_
           have HB := n6_
           clear n0_ n1_ n2_ n3_ n4_ n5_ n6_
           (try clear hb)
           (try clear hb2)
           (try clear hk)
           (try clear hi)
           refine hK.out _ _ trivial (fun hHeld => ?_)
           clear hK K
           refine zpn (a' := ?_) ?_ ?_
           rotate_left
           ·show Act.put _ (some 35) _ = _
            simp only [Act.put, aS, aZ, aC, zdw, zdx]
            rfl
           refine one_ (i := 7) (N := some 38) #[true, true, true, true, true, true, true, true, false] rfl rfl (zjp HT_.out (by kernel_rfl)) (by decide) (fun K hK => ?_)
           refine zpo Try.func76 (by kernel_rfl) rfl #[.slice A26 y149.length c26] (by rfl) rfl rfl (by (try simp only [List.map_toArray, List.map_cons, List.map_nil]); first | done | rfl | (simp only [List.length_drop, List.length_take]; rfl)) ?_
           with_reducible refine (frame_number.calls _ _ y149 t154 _ ?side1 ?side2 A15.out).mono ?_
           (case side1 => repeat (first | exact (Kd.V_reads' HO153.out).2.2 | (with_reducible refine Kd.C_alloc ?_ _) | (with_reducible refine Kd.C_drewN ?_ _) | (with_reducible refine Kd.C_drew ?_)))
           (case side2 => exact (Kd.V_reads' HO153.out).2.1)
           rintro e w' ⟨rfl, ⟨nd, rfl⟩⟩
           refine ⟨_, rfl, ?_⟩
           refine hK.out _ _ trivial (fun hHeld => ?_)
           clear hK K
           refine zpn (a' := ?_) ?_ ?_
           rotate_left
           ·show Act.put _ (some 38) _ = _
            simp only [Act.put, aS, aZ, aC, zdw, zdx]
            rfl
           refine zhw (i := 8) (N := some 39) (v := ?_) (a' := ?_) #[true, true, true, true, true, true, true, true, true] rfl rfl (zfi HT_.out (by kernel_rfl)) (fun _ _ _ h => h) (Or.inl ⟨by rfl, ?_⟩) ?_ ?_
           rotate_left
           ·intro w'
            go_simp
            with_reducible rfl
           rotate_left
           ·simp only [Act.put, aS, aZ, aC, zdw, zdx]
            rfl
           refine done_ (zrg HT_.out (by kernel_rfl)) ?_
           have hl30 : t139.length ≤ co28 := (Kd.R_reads' HO141.out).2.1
           have hcut30 : ∀ W : World, (Instr.slice 37 (.slice Ao28 t139.length co28) none (some (.int .i64 (t139.length : Int))) (some (.int .i64 (t139.length : Int)))).run Try.prog W = .ok (.slice Ao28 t139.length t139.length) W := by
            intro W
            have hel : Try.prog.elem 37 = 5 := by simp [Program.elem, Try.underlying37]
            obtain ⟨i030, hi030, _, hsz30, _⟩ := info_parts info5
            rw [run_slice_hm W 37 Ao28 t139.length co28 (by rw [hel]; exact Try.underlying37) .i64 .i64 (t139.length : Int) (t139.length : Int) (by omega) (by omega) (by omega), hel]
            have hid : ∀ B : Option Addr, B.map (fun x => x.add 0) = B := fun B => by cases B <;> simp [Addr.add]
            simp [sizeOf, typeInfo, hi030, hsz30, sliced, Result.andThen, hid]
           have HV30 := aK (Kd.V_mk (e := 5) (base := w.heap.size) (c := t139.length) (Nat.le_refl _) (Kd.R_F HO141.out))
           obtain rfl : y155 = t139 := by rw [Ny155.out]; exact List.take_of_length_le (by omega)
           try go_wp2
           go_ret2
           exact ⟨_, by first | rfl | (simp [errW_none, errW_some] <;> rfl) | (simp [*, errW_none, errW_some] <;> rfl), by (with_reducible repeat (first | apply Kd.V_alloc | apply Kd.V_drewN | apply Kd.V_drew)); exact Kd.V_mono HV30.out (fun _ hk => hk.1), by repeat (first | (with_reducible first | exact HB.out | apply zaa | apply zac | apply zaf) | exact HB.out)⟩
          ·rw [if_neg c18] at H
           exact absurd H (by simp)
         ·rw [if_neg c17] at H
          exact absurd H (by simp)
        ·rw [if_neg c16] at H
         have c16b0 : (t148 == t154) = false := beq_eq_false_iff_ne.mpr c16
         have c16b1 : (t148 != t154) = true := bne_iff_ne.mpr c16
         simp only [Option.some.injEq, Prod.mk.injEq] at H
         obtain ⟨rfl, rfl⟩ := H
         have q31 : (((8 + t130) % 4294967296) : Int) ≤ ((l0.length : Int) : Int) := of_decide_eq_true (by first | (with_reducible assumption) | assumption)
         obtain ⟨i031, hi031, _, hsz31, _⟩ := info_parts info5
         have hroom31 : l0.length ≤ c0 := (Kd.V_reads' HO_0.out).2.1
         have hC31 : Kd.F (Kd.int .u8) _ _ A0 l0.length l0 := (Kd.V_at (base := w.heap.size) HO_0.out).2.2
         have ql31 : (8 : Int) ≤ (((8 + t130) % 4294967296) : Int) := of_decide_eq_true (by first | (with_reducible assumption) | assumption)
         have hcut31 := zqz (P := Try.prog) 37 5 .i64 .u32 Try.underlying37 hi031 1 hsz31 A0 l0.length c0 8 ((8 + t130) % 4294967296) (by omega) ql31 q31 hroom31
         have hr31 := Kd.F_mid (lo := (8 : Int).toNat) (hi := (((8 + t130) % 4294967296) : Int).toNat) (c := c0) hC31 (by omega) (by omega) hroom31
         obtain ⟨A31, hA31⟩ : ∃ A1, A1 = (if c0 = (8 : Int).toNat then A0 else (A0 : Option Addr).map (·.add ((8 : Int).toNat * 1))) := ⟨_, rfl⟩
         obtain ⟨c31, hc31⟩ : ∃ c1, c1 = c0 - (8 : Int).toNat := ⟨_, rfl⟩
         have hy31 : y131.length = (((8 + t130) % 4294967296) : Int).toNat - (8 : Int).toNat := (by rw [Ny131.out, List.length_drop, List.length_take] <;> omega)
         rw [show ((l0).take (((8 + t130) % 4294967296) : Int).toNat).drop (8 : Int).toNat = y131 from Ny131.out.symm] at hr31
         replace hr31 : Kd.F (Kd.int .u8) _ _ A31 y131.length y131 := (by rw [hA31]; exact hr31)
         rw [← hy31, ← hA31, ← hc31] at hcut31
         have HO135 := aK (show Kd.V (Kd.int .u8) 5 _ w.heap.size _ (.slice A31 y131.length c31) y131 from Kd.V_mk (by rw [hy31, hc31]; exact Nat.sub_le_sub_right (Nat.le_trans (by omega) hroom31) _) hr31)
         have HC135 := aK (show y131.length ≤ c31 from by rw [hy31, hc31]; exact Nat.sub_le_sub_right (Nat.le_trans (by omega) hroom31) _)
         clear hr31 hC31 hroom31 hi031 hsz31 hc31
         have KY31 := aK hy31
         have KA31 := aK hA31
         clear hy31 hA31
         replace q31 := eq_true q31
         try go_wp2_with (first | ((with_reducible refine zag (N := 29) rfl ?_); (try (refine zbi (by rfl) ?_; dsimp only)); refine Kd.N_lit (Kd.slice 5 (Kd.int .u8)) _ 37 ?hg (N' := 29) ?hd (xs := ([y131] : List (List Int))) (inner := [.slice A31 y131.length c31]) (ok := (fun k_ => (P0_ k_ ∨ w.heap.size ≤ k_))) (okp := (fun k_ => (P0_ k_ ∨ w.heap.size ≤ k_))) ?hr ?hp (fun _ hk => hk) ((show ∀ k_, wc.heap.size ≤ k_ → (fun k_ => (P0_ k_ ∨ w.heap.size ≤ k_)) k_ from fun k_ hk => (.inr (Nat.le_trans (zav (by repeat (first | (with_reducible first | exact HB.out | apply zaa | apply zac | apply zaf) | exact HB.out))) hk))) _ (Nat.le_refl _)) (Below.refl _ _) (Nat.le_refl _) (by simp) ?_; (case hd => rfl); (case hg => rfl); (case hr => first | (go_simp; done) | (go_simp; rfl)); (case hp => exact (Reps.one (show Kd.FK (Kd.slice 5 (Kd.int .u8)) _ _ y131 [.slice A31 y131.length c31] from (Kd.FK_slice_mk (Kd.V_reads' (Kd.V_mono (ok' := (fun k_ => (P0_ k_ ∨ w.heap.size ≤ k_))) (HO135.out) (fun k_ hk => hk))).2.1 (Kd.V_F (Kd.V_mono (ok' := (fun k_ => (P0_ k_ ∨ w.heap.size ≤ k_))) (HO135.out) (fun k_ hk => hk))))) (Reps.none _ _))); intro v137 w32 ho33 hb hg_ hnew_; clear hg_ hnew_; (first | rw [← Ny136.out] at ho33 | (simp only [Int.reduceToNat] at ho33; rw [← Ny136.out] at ho33)); have n0_ := aK (Kd.V_elder' (by (with_reducible repeat (first | apply Kd.V_alloc | apply Kd.V_drewN | apply Kd.V_drew)); exact HO_0.out) (Kd.N_base ho33) hb); have n1_ := aK (Kd.V_elder' (by (with_reducible repeat (first | apply Kd.V_alloc | apply Kd.V_drewN | apply Kd.V_drew)); exact HO135.out) (Kd.N_base ho33) hb); have n2_ := aK (Kd.N_lower ho33 (zav (by repeat (first | (with_reducible first | exact HB.out | apply zaa | apply zac | apply zaf) | exact HB.out)))); have n3_ := aK (zba (by repeat (first | (with_reducible first | exact HB.out | apply zaa | apply zac | apply zaf) | exact HB.out)) hb); clear HO_0; clear HO135; clear HB; have HO_0 := n0_; have HO135 := n1_; have HO138 := n2_; have HB := n3_; clear n0_ n1_ n2_ n3_; clear hb ho33; obtain ⟨Ao34, co34, eo34⟩ := Kd.N_slice HO138.out; subst eo34) | ((with_reducible refine zbb (f := 44) rfl ?_); refine zco (some 30) rfl rfl Try.func44 (by kernel_rfl) rfl #[.slice Ao34 y136.length co34] rfl (by (try simp only [List.map_toArray, List.map_cons, List.map_nil]); first | done | rfl | (simp only [List.length_drop, List.length_take]; rfl)) ?_; (with_reducible refine (frame_join.calls kj3 _ _ y136 t139 _ ?side1 ?side2 A10.out).mono ?_); (case side1 => repeat (first | exact (Kd.N_reads' HO138.out).2.2 | (with_reducible refine Kd.C_alloc ?_ _) | (with_reducible refine Kd.C_drewN ?_ _) | (with_reducible refine Kd.C_drew ?_))); (case side2 => exact (Kd.N_reads' HO138.out).2.1); rintro e w35 ⟨v140, rfl, ho0, hb⟩; refine ⟨_, rfl, ?_⟩; have n0_ := aK (Kd.V_elder' (by (with_reducible repeat (first | apply Kd.V_alloc | apply Kd.V_drewN | apply Kd.V_drew)); exact HO_0.out) (Kd.R_base ho0) hb); have n1_ := aK (Kd.V_elder' (by (with_reducible repeat (first | apply Kd.V_alloc | apply Kd.V_drewN | apply Kd.V_drew)); exact HO135.out) (Kd.R_base ho0) hb); have n2_ := aK (Kd.N_elder' (by (with_reducible repeat (first | apply Kd.N_alloc | apply Kd.N_drewN | apply Kd.N_drew)); exact HO138.out) (Kd.R_base ho0) hb); have n3_ := aK (Kd.R_lower (Kd.R_newM (M := fun k_ => (w.heap.size ≤ k_)) ho0 (zav (by repeat (first | (with_reducible first | exact HB.out | apply zaa | apply zac | apply zaf) | exact HB.out))) (fun k_ h_ => h_)) (zav (by repeat (first | (with_reducible first | exact HB.out | apply zaa | apply zac | apply zaf) | exact HB.out)))); have n4_ := aK (zba (by repeat (first | (with_reducible first | exact HB.out | apply zaa | apply zac | apply zaf) | exact HB.out)) hb); clear HO_0; clear HO135; clear HO138; clear HB; have HO_0 := n0_; have HO135 := n1_; have HO138 := n2_; have HO141 := n3_; have HB := n4_; clear n0_ n1_ n2_ n3_ n4_; (try clear hb); (try clear hb2); (try clear hk); (try clear hi); (try clear ho0)))
         have n0_ := aK (Kd.V_drew HO_0.out)
         have n1_ := aK (Kd.V_drew HO135.out)
         have n2_ := aK (Kd.N_drew HO138.out)
         have n3_ := aK (Kd.R_drew HO141.out)
         have n4_ := aK (zaf HB.out)
         clear HO_0
         clear HO135
         clear HO138
         clear HO141
         clear HB
         have HO_0 := n0_
         have HO135 := n1_
         have HO138 := n2_
         have HO141 := n3_
         have HB := n4_
         clear n0_ n1_ n2_ n3_ n4_
         have q37 : (4 : Int) ≤ ((l0.length : Int) : Int) := of_decide_eq_true (by first | (with_reducible assumption) | assumption)
         obtain ⟨i037, hi037, _, hsz37, _⟩ := info_parts info5
         have hroom37 : l0.length ≤ c0 := (Kd.V_reads' HO_0.out).2.1
         have hC37 : Kd.F (Kd.int .u8) _ _ A0 l0.length l0 := (Kd.V_at (base := w.heap.size) HO_0.out).2.2
         have hcut37 := cut_to (P := Try.prog) 37 5 .i64 Try.underlying37 hi037 A0 l0.length c0 4 (by omega) q37 hroom37
         have hr37 := Kd.F_take (m := 4) hC37 (by omega)
         have hy37 : y142.length = (4 : Int).toNat := (by rw [Ny142.out, List.length_take]; omega)
         rw [← Ny142.out] at hr37
         rw [← hy37] at hcut37
         have HO146 := aK (show Kd.V (Kd.int .u8) 5 _ w.heap.size _ (.slice A0 y142.length c0) y142 from Kd.V_mk (by omega) hr37)
         have HC146 := aK (show y142.length ≤ c0 from by omega)
         clear hr37 hC37 hroom37 hi037 hsz37
         have KY37 := aK hy37
         clear hy37
         replace q37 := eq_true q37
         have q38 : (4 : Int) ≤ ((l0.length : Int) : Int) := of_decide_eq_true (by first | (with_reducible assumption) | assumption)
         obtain ⟨i038, hi038, _, hsz38, _⟩ := info_parts info5
         have hroom38 : l0.length ≤ c0 := (Kd.V_reads' HO_0.out).2.1
         have hC38 : Kd.F (Kd.int .u8) _ _ A0 l0.length l0 := (Kd.V_at (base := w.heap.size) HO_0.out).2.2
         have hcut38 := zny (P := Try.prog) 37 5 .i64 Try.underlying37 hi038 1 hsz38 A0 l0.length c0 4 (by omega) q38
         have hr38 := Kd.F_cut (m := (4 : Int).toNat) (c := c0) hC38 (by omega) hroom38
         obtain ⟨A38, hA38⟩ : ∃ A1, A1 = (if c0 = (4 : Int).toNat then A0 else (A0 : Option Addr).map (·.add ((4 : Int).toNat * 1))) := ⟨_, rfl⟩
         obtain ⟨c38, hc38⟩ : ∃ c1, c1 = c0 - (4 : Int).toNat := ⟨_, rfl⟩
         have hy38 : y149.length = l0.length - (4 : Int).toNat := (by rw [Ny149.out, List.length_drop] <;> omega)
         rw [show (l0).drop (4 : Int).toNat = y149 from Ny149.out.symm] at hr38
         replace hr38 : Kd.F (Kd.int .u8) _ _ A38 y149.length y149 := (by rw [hA38]; exact hr38)
         rw [← hy38, ← hA38, ← hc38] at hcut38
         have HO153 := aK (show Kd.V (Kd.int .u8) 5 _ w.heap.size _ (.slice A38 y149.length c38) y149 from Kd.V_mk (by rw [hy38, hc38]; exact Nat.sub_le_sub_right hroom38 _) hr38)
         have HC153 := aK (show y149.length ≤ c38 from by rw [hy38, hc38]; exact Nat.sub_le_sub_right hroom38 _)
         clear hr38 hC38 hroom38 hi038 hsz38 hc38
         have KY38 := aK hy38
         have KA38 := aK hA38
         clear hy38 hA38
         replace q38 := eq_true q38
         refine start_ (n := 9) (S := fun w' => True) (ds := []) #[false, false, false, false, false, false, false, false, false] (by kernel_rfl) rfl rfl trivial (fun hHeld => ?_); refine zls frame_first.tab7 frame_first.bits7 (fun HT_ HW_ => ?_)
         generalize w35.drew = w36 at HO_0 HO135 HO138 HO141 HB HO146 HO153 hHeld ⊢
         refine zhw (i := 0) (N := some 31) (v := ?_) (a' := ?_) #[true, false, false, false, false, false, false, false, false] rfl rfl (zfi HT_.out (by kernel_rfl)) (fun _ _ _ h => h) (Or.inl ⟨by rfl, ?_⟩) ?_ ?_
         rotate_left
         ·intro w'
          go_simp
          with_reducible rfl
         rotate_left
         ·simp only [Act.put, aS, aZ, aC, zdw, zdx]
          rfl
         refine zhw (i := 1) (N := some 32) (v := ?_) (a' := ?_) #[true, true, false, false, false, false, false, false, false] rfl rfl (zfi HT_.out (by kernel_rfl)) (fun _ _ _ h => h) (Or.inl ⟨by rfl, ?_⟩) ?_ ?_
         rotate_left
         ·intro w'
          go_simp
          with_reducible rfl
         rotate_left
         ·simp only [Act.put, aS, aZ, aC, zdw, zdx]
          rfl
         refine zhw (i := 3) (N := some 34) (v := ?_) (a' := ?_) #[true, true, false, true, false, false, false, false, false] rfl rfl (zfi HT_.out (by kernel_rfl)) (fun _ _ _ h => h) (Or.inl ⟨by rfl, ?_⟩) ?_ ?_
         rotate_left
         ·intro w'
          go_simp
          with_reducible rfl
         rotate_left
         ·simp only [Act.put, aS, aZ, aC, zdw, zdx]
          rfl
         refine zhw (i := 5) (N := some 36) (v := ?_) (a' := ?_) #[true, true, false, true, false, true, false, false, false] rfl rfl (zfi HT_.out (by kernel_rfl)) (fun _ _ _ h => h) (Or.inl ⟨by rfl, ?_⟩) ?_ ?_
         rotate_left
         ·intro w'
          go_simp
          with_reducible rfl
         rotate_left
         ·simp only [Act.put, aS, aZ, aC, zdw, zdx]
          rfl
         refine zhw (i := 6) (N := some 37) (v := ?_) (a' := ?_) #[true, true, false, true, false, true, true, false, false] rfl rfl (zfi HT_.out (by kernel_rfl)) (fun _ _ _ h => h) (Or.inl ⟨by rfl, ?_⟩) ?_ ?_
         rotate_left
         ·intro w'
          go_simp
          with_reducible rfl
         rotate_left
         ·simp only [Act.put, aS, aZ, aC, zdw, zdx]
          rfl
         refine one_ (i := 2) (N := some 33) #[true, true, true, true, false, true, true, false, false] rfl rfl (zjp HT_.out (by kernel_rfl)) (by decide) (fun K hK => ?_)
         refine zpo Try.func46 (by kernel_rfl) rfl #[.slice A0 y142.length c0] (by rfl) rfl rfl (by (try simp only [List.map_toArray, List.map_cons, List.map_nil]); first | done | rfl | (simp only [List.length_drop, List.length_take]; rfl)) ?_
         with_reducible refine (sum_Of.calls kj3 _ _ y142 t147 _ ?side1 ?side2 A12.out).mono ?_
         (case side1 => repeat (first | exact (Kd.V_reads' HO146.out).2.2 | (with_reducible refine Kd.C_alloc ?_ _) | (with_reducible refine Kd.C_drewN ?_ _) | (with_reducible refine Kd.C_drew ?_)))
         (case side2 => exact (Kd.V_reads' HO146.out).2.1)
         rintro e w39 ⟨rfl, hb⟩
         refine ⟨_, rfl, ?_⟩
         have n0_ := aK (Kd.V_below (by (with_reducible repeat (first | apply Kd.V_alloc | apply Kd.V_drewN | apply Kd.V_drew)); exact HO_0.out) hb)
         have n1_ := aK (Kd.V_below (by (with_reducible repeat (first | apply Kd.V_alloc | apply Kd.V_drewN | apply Kd.V_drew)); exact HO135.out) hb)
         have n2_ := aK (Kd.N_below (by (with_reducible repeat (first | apply Kd.N_alloc | apply Kd.N_drewN | apply Kd.N_drew)); exact HO138.out) hb)
         have n3_ := aK (Kd.R_below (by (with_reducible repeat (first | apply Kd.R_alloc | apply Kd.R_drewN | apply Kd.R_drew)); exact HO141.out) hb)
         have n4_ := aK (Kd.V_below (by (with_reducible repeat (first | apply Kd.V_alloc | apply Kd.V_drewN | apply Kd.V_drew)); exact HO146.out) hb)
         have n5_ := aK (Kd.V_below (by (with_reducible repeat (first | apply Kd.V_alloc | apply Kd.V_drewN | apply Kd.V_drew)); exact HO153.out) hb)
         have n6_ := aK (zba (by repeat (first | (with_reducible first | exact HB.out | apply zaa | apply zac | apply zaf) | exact HB.out)) hb)
         clear HO_0
         clear HO135
         clear HO138
         clear HO141
         clear HO146
         clear HO153
         clear HB
         have HO_0 := n0_
         have HO135 := n1_
         have HO138 := n2_
         have HO141 := n3_
         have HO146 := n4_
         have HO153 := n5_
         have HB := n6_
         clear n0_ n1_ n2_ n3_ n4_ n5_ n6_
         (try clear hb)
         (try clear hb2)
         (try clear hk)
         (try clear hi)
         obtain ⟨Ao40, co40, eo40⟩ := Kd.R_slice HO141.out
         (first | subst eo40 | (injection eo40 with f1_ f2_ f3_; have f4_ := f1_.symm; have f5_ := f3_.symm; clear f1_ f2_ f3_; subst f4_; subst f5_))
         refine hK.out _ _ trivial (fun hHeld => ?_)
         clear hK K
         refine zpn (a' := ?_) ?_ ?_
         rotate_left
         ·show Act.put _ (some 33) _ = _
          simp only [Act.put, aS, aZ, aC, zdw, zdx]
          rfl
         refine one_ (i := 4) (N := some 35) #[true, true, true, true, true, true, true, false, false] rfl rfl (zjp HT_.out (by kernel_rfl)) (by decide) (fun K hK => ?_)
         refine zpo Try.func45 (by kernel_rfl) rfl #[.int .u32 t147, .slice Ao40 t139.length co40] (by rfl) rfl rfl (by (try simp only [List.map_toArray, List.map_cons, List.map_nil]); first | done | rfl | (simp only [List.length_drop, List.length_take]; rfl)) ?_
         with_reducible refine (sum_More.calls kj3 t147 _ _ t139 t148 _ ?side1 ?side2 A13.out).mono ?_
         (case side1 => repeat (first | exact (Kd.R_reads' HO141.out).2.2 | (with_reducible refine Kd.C_alloc ?_ _) | (with_reducible refine Kd.C_drewN ?_ _) | (with_reducible refine Kd.C_drew ?_)))
         (case side2 => exact (Kd.R_reads' HO141.out).2.1)
         rintro e w41 ⟨rfl, hb⟩
         refine ⟨_, rfl, ?_⟩
         have n0_ := aK (Kd.V_below (by (with_reducible repeat (first | apply Kd.V_alloc | apply Kd.V_drewN | apply Kd.V_drew)); exact HO_0.out) hb)
         have n1_ := aK (Kd.V_below (by (with_reducible repeat (first | apply Kd.V_alloc | apply Kd.V_drewN | apply Kd.V_drew)); exact HO135.out) hb)
         have n2_ := aK (Kd.N_below (by (with_reducible repeat (first | apply Kd.N_alloc | apply Kd.N_drewN | apply Kd.N_drew)); exact HO138.out) hb)
         have n3_ := aK (Kd.R_below (by (with_reducible repeat (first | apply Kd.R_alloc | apply Kd.R_drewN | apply Kd.R_drew)); exact HO141.out) hb)
         have n4_ := aK (Kd.V_below (by (with_reducible repeat (first | apply Kd.V_alloc | apply Kd.V_drewN | apply Kd.V_drew)); exact HO146.out) hb)
         have n5_ := aK (Kd.V_below (by (with_reducible repeat (first | apply Kd.V_alloc | apply Kd.V_drewN | apply Kd.V_drew)); exact HO153.out) hb)
         have n6_ := aK (zba (by repeat (first | (with_reducible first | exact HB.out | apply zaa | apply zac | apply zaf) | exact HB.out)) hb)
         clear HO_0
         clear HO135
         clear HO138
         clear HO141
         clear HO146
         clear HO153
         clear HB
         have HO_0 := n0_
         have HO135 := n1_
         have HO138 := n2_
         have HO141 := n3_
         have HO146 := n4_
         have HO153 := n5_
         have HB := n6_
         clear n0_ n1_ n2_ n3_ n4_ n5_ n6_
         (try clear hb)
         (try clear hb2)
         (try clear hk)
         (try clear hi)
         refine hK.out _ _ trivial (fun hHeld => ?_)
         clear hK K
         refine zpn (a' := ?_) ?_ ?_
         rotate_left
         ·show Act.put _ (some 35) _ = _
          simp only [Act.put, aS, aZ, aC, zdw, zdx]
          rfl
         refine one_ (i := 7) (N := some 38) #[true, true, true, true, true, true, true, true, false] rfl rfl (zjp HT_.out (by kernel_rfl)) (by decide) (fun K hK => ?_)
         refine zpo Try.func76 (by kernel_rfl) rfl #[.slice A38 y149.length c38] (by rfl) rfl rfl (by (try simp only [List.map_toArray, List.map_cons, List.map_nil]); first | done | rfl | (simp only [List.length_drop, List.length_take]; rfl)) ?_
         with_reducible refine (frame_number.calls _ _ y149 t154 _ ?side1 ?side2 A15.out).mono ?_
         (case side1 => repeat (first | exact (Kd.V_reads' HO153.out).2.2 | (with_reducible refine Kd.C_alloc ?_ _) | (with_reducible refine Kd.C_drewN ?_ _) | (with_reducible refine Kd.C_drew ?_)))
         (case side2 => exact (Kd.V_reads' HO153.out).2.1)
         rintro e w' ⟨rfl, ⟨nd, rfl⟩⟩
         refine ⟨_, rfl, ?_⟩
         refine hK.out _ _ trivial (fun hHeld => ?_)
         clear hK K
         refine zpn (a' := ?_) ?_ ?_
         rotate_left
         ·show Act.put _ (some 38) _ = _
          simp only [Act.put, aS, aZ, aC, zdw, zdx]
          rfl
         refine zhw (i := 8) (N := some 39) (v := ?_) (a' := ?_) #[true, true, true, true, true, true, true, true, true] rfl rfl (zfi HT_.out (by kernel_rfl)) (fun _ _ _ h => h) (Or.inl ⟨by rfl, ?_⟩) ?_ ?_
         rotate_left
         ·intro w'
          go_simp
          with_reducible rfl
         rotate_left
         ·simp only [Act.put, aS, aZ, aC, zdw, zdx]
          rfl
         refine done_ (zrg HT_.out (by kernel_rfl)) ?_
         try go_wp2
         go_ret2
         exact ⟨_, by first | rfl | (simp [errW_none, errW_some] <;> rfl) | (simp [*, errW_none, errW_some] <;> rfl), by first | exact Kd.R_nil _ _ _ _ _ | exact Kd.N_nil _ _ _ _ _ | exact Kd.V_nil _ _ _ _ _ | exact Kd.Q_nil _ _ _ _ _ | exact Kd.S_nil _ _ _ _ _, by repeat (first | (with_reducible first | exact HB.out | apply zaa | apply zac | apply zaf) | exact HB.out)⟩
       ·rw [if_neg c11] at H
        exact absurd H (by simp)
      ·rw [if_neg c9] at H
       exact absurd H (by simp)
     ·rw [if_neg c8] at H
      exact absurd H (by simp)
theorem frame_first.calls (k : Nat) (A0 : Option Addr) (c0 : Nat) (l0 : List Int) (r1 : List Int) (r2 : Bool) (w : World) (hr0 : Kd.C (Kd.int .u8) w A0 l0.length l0) (hc0 : l0.length ≤ c0) (h : frame_first.f k l0 = some (r1, r2)) :
  Calls Try.prog 61 #[.slice A0 l0.length c0] w fun e w' => ∃ v0_ : Value, e = .returned (.tuple #[v0_, .bool r2]) ∧ Kd.V (Kd.int .u8) 5 w' w.heap.size (fun k_ => (w.heap.size ≤ k_)) v0_ r1 ∧ Below w.heap.size w w' :=
 frame_first.walkV k (fun k => k < w.heap.size) A0 c0 l0 r1 r2 w (Kd.V_mk hc0 (Kd.C_F (by exact Kd.heap_int _) hr0)) h
def frame_Open.f (k : Nat) (l0 : List Int) : Option (List Int × Int) := (frame_first.f k l0).bind fun bt150 => (if bt150.2 = true then (if (wrap64 ((bt150.1.length : Int) + 8)) = (l0.length : Int) then (some (bt150.1, 0)) else (some (([] : List Int), 2))) else (some (([] : List Int), 2)))
theorem frame_Open.calls (k : Nat) (A0 : Option Addr) (c0 : Nat) (l0 : List Int) (r1 : List Int) (r2 : Int) (w : World) (hr0 : Kd.C (Kd.int .u8) w A0 l0.length l0) (hc0 : l0.length ≤ c0) (h : frame_Open.f k l0 = some (r1, r2)) :
  Calls Try.prog 34 #[.slice A0 l0.length c0] w fun e w' => ∃ v0_ : Value, e = .returned (.tuple #[v0_, .int .i64 r2]) ∧ Kd.V (Kd.int .u8) 5 w' w.heap.size (fun k_ => (w.heap.size ≤ k_)) v0_ r1 ∧ Below w.heap.size w w' := by
 have HR0 := aK hr0
 have HC0 := aK hc0
 clear hr0 hc0
 have HB := aK (Below.refl w.heap.size w)
 have H : ((frame_first.f k l0).bind fun bt150 => (if bt150.2 = true then (if (wrap64 ((bt150.1.length : Int) + 8)) = (l0.length : Int) then (some (bt150.1, 0)) else (some (([] : List Int), 2))) else (some (([] : List Int), 2)))) = some (r1, r2) := h
 clear h
 replace H := Option.bind_eq_some_iff.mp H
 obtain ⟨⟨t150, t153⟩, A20, H⟩ := H
 replace H : (if t153 = true then (if (wrap64 ((t150.length : Int) + 8)) = (l0.length : Int) then (some (t150, 0)) else (some (([] : List Int), 2))) else (some (([] : List Int), 2))) = some (r1, r2) := H
 have A2 := aK A20
 clear A20
 by_cases c3 : t153 = true
 ·subst c3
  have H1 : (if (wrap64 ((t150.length : Int) + 8)) = (l0.length : Int) then (some (t150, 0)) else (some (([] : List Int), 2))) = some (r1, r2) := by rw [if_pos rfl] at H; exact H
  clear H
  have H := H1
  clear H1
  by_cases c4 : (wrap64 ((t150.length : Int) + 8)) = (l0.length : Int)
  ·rw [if_pos c4] at H
   have c4b0 : ((wrap64 ((t150.length : Int) + 8)) == (l0.length : Int)) = true := beq_iff_eq.mpr c4
   have c4b1 : ((wrap64 ((t150.length : Int) + 8)) != (l0.length : Int)) = false := bne_eq_false_iff_eq.mpr c4
   clear c4
   simp only [Option.some.injEq, Prod.mk.injEq] at H
   obtain ⟨rfl, rfl⟩ := H
   go_enter Try.func34, Try.ntmps34
   go_wp2_with (first | ((with_reducible refine zbb (f := 61) rfl ?_); refine zco (some 8) rfl rfl Try.func61 (by kernel_rfl) rfl #[.slice A0 l0.length c0] rfl (by (try simp only [List.map_toArray, List.map_cons, List.map_nil]); first | done | rfl | (simp only [List.length_drop, List.length_take]; rfl)) ?_; (with_reducible refine (frame_first.calls k _ _ l0 t150 true _ ?side1 ?side2 A2.out).mono ?_); (case side1 => repeat (first | exact HR0.out | (with_reducible refine Kd.C_alloc ?_ _) | (with_reducible refine Kd.C_drewN ?_ _) | (with_reducible refine Kd.C_drew ?_))); (case side2 => exact HC0.out); rintro e w5 ⟨v151, rfl, ho0, hb⟩; refine ⟨_, rfl, ?_⟩; have n0_ := aK (Kd.V_lower (Kd.V_mono (ok' := fun k_ => (w.heap.size ≤ k_)) ho0 (fun k_ hk_ => (Nat.le_trans (zav (by repeat (first | (with_reducible first | exact HB.out | apply zaa | apply zac | apply zaf) | exact HB.out))) hk_))) (zav (by repeat (first | (with_reducible first | exact HB.out | apply zaa | apply zac | apply zaf) | exact HB.out)))); have n1_ := aK (zba (by repeat (first | (with_reducible first | exact HB.out | apply zaa | apply zac | apply zaf) | exact HB.out)) hb); clear HB; have HO152 := n0_; have HB := n1_; clear n0_ n1_; (try clear hb); (try clear hb2); (try clear hk); (try clear hi); (try clear ho0); obtain ⟨Ao6, co6, eo6⟩ := Kd.V_slice HO152.out; subst eo6))
   go_ret2
   exact ⟨_, by first | rfl | (simp [errW_none, errW_some] <;> rfl) | (simp [*, errW_none, errW_some] <;> rfl), by (with_reducible repeat (first | apply Kd.V_alloc | apply Kd.V_drewN | apply Kd.V_drew)); exact HO152.out, by repeat (first | (with_reducible first | exact HB.out | apply zaa | apply zac | apply zaf) | exact HB.out)⟩
  ·rw [if_neg c4] at H
   have c4b0 : ((wrap64 ((t150.length : Int) + 8)) == (l0.length : Int)) = false := beq_eq_false_iff_ne.mpr c4
   have c4b1 : ((wrap64 ((t150.length : Int) + 8)) != (l0.length : Int)) = true := bne_iff_ne.mpr c4
   simp only [Option.some.injEq, Prod.mk.injEq] at H
   obtain ⟨rfl, rfl⟩ := H
   go_enter Try.func34, Try.ntmps34
   go_wp2_with (first | ((with_reducible refine zbb (f := 61) rfl ?_); refine zco (some 8) rfl rfl Try.func61 (by kernel_rfl) rfl #[.slice A0 l0.length c0] rfl (by (try simp only [List.map_toArray, List.map_cons, List.map_nil]); first | done | rfl | (simp only [List.length_drop, List.length_take]; rfl)) ?_; (with_reducible refine (frame_first.calls k _ _ l0 t150 true _ ?side1 ?side2 A2.out).mono ?_); (case side1 => repeat (first | exact HR0.out | (with_reducible refine Kd.C_alloc ?_ _) | (with_reducible refine Kd.C_drewN ?_ _) | (with_reducible refine Kd.C_drew ?_))); (case side2 => exact HC0.out); rintro e w7 ⟨v151, rfl, ho0, hb⟩; refine ⟨_, rfl, ?_⟩; have n0_ := aK (Kd.V_lower (Kd.V_mono (ok' := fun k_ => (w.heap.size ≤ k_)) ho0 (fun k_ hk_ => (Nat.le_trans (zav (by repeat (first | (with_reducible first | exact HB.out | apply zaa | apply zac | apply zaf) | exact HB.out))) hk_))) (zav (by repeat (first | (with_reducible first | exact HB.out | apply zaa | apply zac | apply zaf) | exact HB.out)))); have n1_ := aK (zba (by repeat (first | (with_reducible first | exact HB.out | apply zaa | apply zac | apply zaf) | exact HB.out)) hb); clear HB; have HO152 := n0_; have HB := n1_; clear n0_ n1_; (try clear hb); (try clear hb2); (try clear hk); (try clear hi); (try clear ho0); obtain ⟨Ao8, co8, eo8⟩ := Kd.V_slice HO152.out; subst eo8))
   go_ret2
   exact ⟨_, by first | rfl | (simp [errW_none, errW_some] <;> rfl) | (simp [*, errW_none, errW_some] <;> rfl), Kd.V_nil _ _ _ _ _, by repeat (first | (with_reducible first | exact HB.out | apply zaa | apply zac | apply zaf) | exact HB.out)⟩
 ·replace c3 := Bool.eq_false_iff.mpr c3
  subst c3
  have H1 : (some (([] : List Int), 2)) = some (r1, r2) := by rw [if_neg (show ¬ (false = true) by decide)] at H; exact H
  clear H
  have H := H1
  clear H1
  simp only [Option.some.injEq, Prod.mk.injEq] at H
  obtain ⟨rfl, rfl⟩ := H
  go_enter Try.func34, Try.ntmps34
  go_wp2_with (first | ((with_reducible refine zbb (f := 61) rfl ?_); refine zco (some 8) rfl rfl Try.func61 (by kernel_rfl) rfl #[.slice A0 l0.length c0] rfl (by (try simp only [List.map_toArray, List.map_cons, List.map_nil]); first | done | rfl | (simp only [List.length_drop, List.length_take]; rfl)) ?_; (with_reducible refine (frame_first.calls k _ _ l0 t150 false _ ?side1 ?side2 A2.out).mono ?_); (case side1 => repeat (first | exact HR0.out | (with_reducible refine Kd.C_alloc ?_ _) | (with_reducible refine Kd.C_drewN ?_ _) | (with_reducible refine Kd.C_drew ?_))); (case side2 => exact HC0.out); rintro e w9 ⟨v151, rfl, ho0, hb⟩; refine ⟨_, rfl, ?_⟩; have n0_ := aK (Kd.V_lower (Kd.V_mono (ok' := fun k_ => (w.heap.size ≤ k_)) ho0 (fun k_ hk_ => (Nat.le_trans (zav (by repeat (first | (with_reducible first | exact HB.out | apply zaa | apply zac | apply zaf) | exact HB.out))) hk_))) (zav (by repeat (first | (with_reducible first | exact HB.out | apply zaa | apply zac | apply zaf) | exact HB.out)))); have n1_ := aK (zba (by repeat (first | (with_reducible first | exact HB.out | apply zaa | apply zac | apply zaf) | exact HB.out)) hb); clear HB; have HO152 := n0_; have HB := n1_; clear n0_ n1_; (try clear hb); (try clear hb2); (try clear hk); (try clear hi); (try clear ho0)))
  go_ret2
  exact ⟨_, by first | rfl | (simp [errW_none, errW_some] <;> rfl) | (simp [*, errW_none, errW_some] <;> rfl), Kd.V_nil _ _ _ _ _, by repeat (first | (with_reducible first | exact HB.out | apply zaa | apply zac | apply zaf) | exact HB.out)⟩
end Go.Proofs.Ytcbehfbfaonanaa.PFr
end
