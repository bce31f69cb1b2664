/- Part 8 of the texts that walk the program and tell its laws, joined in the order of their building. No conditions. -/
import Derived.Test.YtcbehfbfaonanaaJw6
set_option maxRecDepth 100000
set_option maxHeartbeats 16000000
section
namespace Go.Proofs.Ytcbehfbfaonanaa.PFr
open Go.RowKit Go.Proofs.YtcbehfbfaonanaaW.PrintWords Go.Proofs.YtcbehfbfaonanaaW.PrintLast Go.Proofs.YtcbehfbfaonanaaW.PrintMore
attribute [local go_sem] zgo zgp zin zio zfm zfn zgq zgr
set_option linter.unusedVariables false
set_option linter.unusedSimpArgs false
def meridianref03_Four.f (a0 : Int) : Option (List Int) := some (([(wrap64 (Int.tdiv a0 16777216)) % 256, (Int.tmod (wrap64 (Int.tdiv a0 65536)) 256) % 256, (Int.tmod (wrap64 (Int.tdiv a0 256)) 256) % 256, (Int.tmod a0 256) % 256] : List Int))
theorem meridianref03_Four.calls (a0 : Int) (r : List Int) (w : World) (h : meridianref03_Four.f a0 = some r) :
  Calls Try.prog 56 #[.int .i64 a0] w fun e w' => ∃ v0_ : Value, e = .returned (v0_) ∧ Kd.R (Kd.int .u8) 5 w' w.heap.size (fun _ => True) v0_ r ∧ Below w.heap.size w w' := by
 have HB := aK (Below.refl w.heap.size w)
 have H : (some (([(wrap64 (Int.tdiv a0 16777216)) % 256, (Int.tmod (wrap64 (Int.tdiv a0 65536)) 256) % 256, (Int.tmod (wrap64 (Int.tdiv a0 256)) 256) % 256, (Int.tmod a0 256) % 256] : List Int))) = some r := h
 clear h
 obtain ⟨y536, hy536⟩ : ∃ y_ : List Int, y_ = (([(wrap64 (Int.tdiv a0 16777216)) % 256, (Int.tmod (wrap64 (Int.tdiv a0 65536)) 256) % 256, (Int.tmod (wrap64 (Int.tdiv a0 256)) 256) % 256, (Int.tmod a0 256) % 256] : List Int)) := ⟨_, rfl⟩
 replace H : (some y536) = some r := by first | (rw [hy536]; with_reducible exact H) | (have H2_ := (Option.bind_some _ _).symm.trans H; rw [hy536]; with_reducible exact H2_) | (have H2_ := (Option.bind_some _ _).symm.trans H; with_reducible exact H2_) | with_reducible exact H | (rw [hy536]; exact H) | exact H
 have Ny536 := aK hy536
 clear hy536
 obtain rfl := Option.some.inj H
 go_enter Try.func56, Try.ntmps56
 go_wp2_with (first | ((with_reducible refine zag (N := 17) rfl ?_); refine Kd.R_lit (Kd.int .u8) _ 5 ?hg (N := 17) ?hd (xs := ([(wrap64 (Int.tdiv a0 16777216)) % 256, (Int.tmod (wrap64 (Int.tdiv a0 65536)) 256) % 256, (Int.tmod (wrap64 (Int.tdiv a0 256)) 256) % 256, (Int.tmod a0 256) % 256] : List Int)) (inner := [.int .u8 ((wrap64 (Int.tdiv a0 16777216)) % 256), .int .u8 ((Int.tmod (wrap64 (Int.tdiv a0 65536)) 256) % 256), .int .u8 ((Int.tmod (wrap64 (Int.tdiv a0 256)) 256) % 256), .int .u8 ((Int.tmod a0 256) % 256)]) (ok := fun _ => True) (okp := fun _ => True) ?hr ?hp (fun _ hk => hk) trivial (Below.refl _ _) (Nat.le_refl _) (by simp) ?_; (case hd => rfl); (case hg => rfl); (case hr => first | (go_simp; done) | (go_simp; rfl)); (case hp => exact (Reps.one (show Kd.M (Kd.int .u8) _ _ _ ((wrap64 (Int.tdiv a0 16777216)) % 256) [.int .u8 ((wrap64 (Int.tdiv a0 16777216)) % 256)] from rfl) (Reps.one (show Kd.M (Kd.int .u8) _ _ _ ((Int.tmod (wrap64 (Int.tdiv a0 65536)) 256) % 256) [.int .u8 ((Int.tmod (wrap64 (Int.tdiv a0 65536)) 256) % 256)] from rfl) (Reps.one (show Kd.M (Kd.int .u8) _ _ _ ((Int.tmod (wrap64 (Int.tdiv a0 256)) 256) % 256) [.int .u8 ((Int.tmod (wrap64 (Int.tdiv a0 256)) 256) % 256)] from rfl) (Reps.one (show Kd.M (Kd.int .u8) _ _ _ ((Int.tmod a0 256) % 256) [.int .u8 ((Int.tmod a0 256) % 256)] from rfl) (Reps.none _ _)))))); intro v537 w2 ho3 hb hg_ hnew_; clear hg_ hnew_; (first | rw [← Ny536.out] at ho3 | (simp only [Int.reduceToNat] at ho3; rw [← Ny536.out] at ho3)); have n0_ := aK (Kd.R_lower ho3 (zav (by repeat (first | (with_reducible first | exact HB.out | apply zaa | apply zac | apply zaf) | exact HB.out)))); have n1_ := aK (zba (by repeat (first | (with_reducible first | exact HB.out | apply zaa | apply zac | apply zaf) | exact HB.out)) hb); clear HB; have HO538 := n0_; have HB := n1_; clear n0_ n1_; clear hb ho3))
 go_ret
 exact ⟨_, by first | rfl | (simp [errW_none, errW_some] <;> rfl) | (simp [*, errW_none, errW_some] <;> rfl), by (with_reducible repeat (first | apply Kd.R_alloc | apply Kd.R_drewN | apply Kd.R_drew)); exact HO538.out, by repeat (first | (with_reducible first | exact HB.out | apply zaa | apply zac | apply zaf) | exact HB.out)⟩
def meridianref01_Register.l0 : Nat → Int → Int → Option (Int)
 | 0, _, _ => none
 | k + 1, x0, x5 => if x5 < 8 then (if (Int.tmod x0 2) = 1 then (meridianref01_Register.l0 k (Go.bits .xor .u32 ((Int.tdiv x0 2) % 4294967296) 3988292384) (wrap64 (x5 + 1))) else (meridianref01_Register.l0 k ((Int.tdiv x0 2) % 4294967296) (wrap64 (x5 + 1)))) else (some x0)
def meridianref01_Register.f (k : Nat) (a0 : Int) (a1 : Int) : Option (Int) := meridianref01_Register.l0 k (Go.bits .xor .u32 a0 ((a1) % 4294967296)) 0
theorem meridianref01_Register.calls (k : Nat) (a0 : Int) (a1 : Int) (r : Int) (w : World) (h : meridianref01_Register.f k a0 a1 = some r) :
  Calls Try.prog 82 #[.int .u32 a0, .int .u8 a1] w fun e w' => e = .returned (.int .u32 r) ∧ Drawn0 w w' := by
 have H : (meridianref01_Register.l0 k (Go.bits .xor .u32 a0 ((a1) % 4294967296)) 0) = some r := h
 clear h
 have H' := aK H
 clear H
 go_enter Try.func82, Try.ntmps82
 go_wp2
 go_loopg [0, 5] k (fun kq v0 v5 w' => ∃ (x0_1 : Int) (x5_1 : Int), v0 = .int .u32 x0_1 ∧ v5 = .int .i64 x5_1 ∧ Aside0 (meridianref01_Register.l0 kq x0_1 x5_1 = some r) ∧ Aside0 (kq ≤ k) ∧ Drawn0 w w')
 case atStart => exact ⟨(Go.bits .xor .u32 a0 ((a1) % 4294967296)), (0), (by first | rfl | (simp; done) | (simp [*]; done)), (by first | rfl | (simp; done) | (simp [*]; done)), H', ⟨Nat.le_refl _⟩, by repeat (first | exact Drawn0.refl _ | apply Drawn0.step)⟩
 case round =>
  clear H'
  try clear p2
  obtain ⟨x0_1, x5_1, rfl, rfl, HA, HK1, ⟨m1, rfl⟩⟩ := hrel
  cases gk with
  | zero => exact absurd HA.out (by simp [meridianref01_Register.l0])
  | succ k1 =>
   have H := HA.out
   clear HA
   simp only [meridianref01_Register.l0] at H
   by_cases c3 : x5_1 < 8
   ·rw [if_pos c3] at H
    have c3b0 : decide (x5_1 < 8) = true := decide_eq_true c3
    clear c3
    by_cases c4 : (Int.tmod x0_1 2) = 1
    ·rw [if_pos c4] at H
     have c4b0 : ((Int.tmod x0_1 2) == 1) = true := beq_iff_eq.mpr c4
     have c4b1 : ((Int.tmod x0_1 2) != 1) = false := bne_eq_false_iff_eq.mpr c4
     clear c4
     have H' := aK H
     clear H
     go_wp2
     go_roundg k1
     case measure => have := HK1.out; omega
     case rel => exact ⟨(Go.bits .xor .u32 ((Int.tdiv x0_1 2) % 4294967296) 3988292384), (wrap64 (x5_1 + 1)), (by first | rfl | (simp; done) | (simp [*]; done)), (by first | rfl | (simp; done) | (simp [*]; done)), H', ⟨by have := HK1.out; omega⟩, by repeat (first | exact Drawn0.refl _ | apply Drawn0.step)⟩
    ·rw [if_neg c4] at H
     have c4b0 : ((Int.tmod x0_1 2) == 1) = false := beq_eq_false_iff_ne.mpr c4
     have c4b1 : ((Int.tmod x0_1 2) != 1) = true := bne_iff_ne.mpr c4
     have H' := aK H
     clear H
     go_wp2
     go_roundg k1
     case measure => have := HK1.out; omega
     case rel => exact ⟨((Int.tdiv x0_1 2) % 4294967296), (wrap64 (x5_1 + 1)), (by first | rfl | (simp; done) | (simp [*]; done)), (by first | rfl | (simp; done) | (simp [*]; done)), H', ⟨by have := HK1.out; omega⟩, by repeat (first | exact Drawn0.refl _ | apply Drawn0.step)⟩
   ·rw [if_neg c3] at H
    have c3b0 : decide (x5_1 < 8) = false := decide_eq_false c3
    clear c3
    obtain rfl := Option.some.inj H
    go_wp2
    go_ret
    exact ⟨by first | rfl | (simp; done) | (simp [*]; done), by repeat (first | exact Drawn0.refl _ | apply Drawn0.step)⟩
def meridianref01_More.l0 : Nat → List Int → Int → Int → Option (Int)
 | 0, _, _, _ => none
 | k + 1, x1, x5, x6 => if x6 < (x1.length : Int) then (if 0 ≤ x6 then ((meridianref01_Register.f k x5 (rd x1 x6)).bind fun t540 => (meridianref01_More.l0 k x1 t540 (wrap64 (x6 + 1)))) else (none)) else (some ((4294967295 - x5) % 4294967296))
def meridianref01_More.f (k : Nat) (a0 : Int) (l1 : List Int) : Option (Int) := meridianref01_More.l0 k l1 ((4294967295 - a0) % 4294967296) 0
theorem meridianref01_More.calls (k : Nat) (a0 : Int) (A1 : Option Addr) (c1 : Nat) (l1 : List Int) (r : Int) (w : World) (hr1 : Kd.C (Kd.int .u8) w A1 l1.length l1) (hc1 : l1.length ≤ c1) (h : meridianref01_More.f k a0 l1 = some r) :
  Calls Try.prog 74 #[.int .u32 a0, .slice A1 l1.length c1] w fun e w' => e = .returned (.int .u32 r) ∧ Drawn0 w w' := by
 have HR1 := aK hr1
 have HC1 := aK hc1
 clear hr1 hc1
 have H : (meridianref01_More.l0 k l1 ((4294967295 - a0) % 4294967296) 0) = some r := h
 clear h
 have H' := aK H
 clear H
 go_enter Try.func74, Try.ntmps74
 go_wp2
 go_loopg [5, 6] k (fun kq v5 v6 w' => ∃ (x5_1 : Int) (x6_1 : Int), v5 = .int .u32 x5_1 ∧ v6 = .int .i64 x6_1 ∧ Aside0 (meridianref01_More.l0 kq l1 x5_1 x6_1 = some r) ∧ Aside0 (kq ≤ k) ∧ Drawn0 w w')
 case atStart => exact ⟨((4294967295 - a0) % 4294967296), (0), (by first | rfl | (simp; done) | (simp [*]; done)), (by first | rfl | (simp; done) | (simp [*]; done)), H', ⟨Nat.le_refl _⟩, by repeat (first | exact Drawn0.refl _ | apply Drawn0.step)⟩
 case round =>
  clear H'
  try clear c1
  try clear p2
  obtain ⟨x5_1, x6_1, rfl, rfl, HA, HK1, ⟨m1, rfl⟩⟩ := hrel
  cases gk with
  | zero => exact absurd HA.out (by simp [meridianref01_More.l0])
  | succ k1 =>
   have H := HA.out
   clear HA
   simp only [meridianref01_More.l0] at H
   by_cases c3 : x6_1 < (l1.length : Int)
   ·rw [if_pos c3] at H
    have c3b0 : decide (x6_1 < (l1.length : Int)) = true := decide_eq_true c3
    clear c3
    by_cases c4 : 0 ≤ x6_1
    ·rw [if_pos c4] at H
     have c4b0 : decide (0 ≤ x6_1) = true := decide_eq_true c4
     clear c4
     replace H := Option.bind_eq_some_iff.mp H
     obtain ⟨t540, A50, H⟩ := H
     replace H : (meridianref01_More.l0 k1 l1 t540 (wrap64 (x6_1 + 1))) = some r := H
     have A5 := aK A50
     clear A50
     have H' := aK H
     clear H
     have p539 : 0 ≤ (x6_1 : Int) := of_decide_eq_true (by first | (with_reducible assumption) | assumption)
     have q539 : x6_1 < (l1.length : Int) := of_decide_eq_true (by first | (with_reducible assumption) | assumption)
     obtain ⟨ad539, e539, hx539_0⟩ := Kd.at_int HR1.out x6_1 p539 q539
     cases e539
     replace p539 := eq_true p539
     replace q539 := eq_true q539
     go_wp2_with (first | ((with_reducible refine zbb (f := 82) rfl ?_); refine zco (some 20) rfl rfl Try.func82 (by kernel_rfl) rfl #[.int .u32 x5_1, .int .u8 (rd l1 x6_1)] rfl (by (try simp only [List.map_toArray, List.map_cons, List.map_nil]); first | done | rfl | (simp only [List.length_drop, List.length_take]; rfl)) ?_; (with_reducible refine (meridianref01_Register.calls k1 x5_1 (rd l1 x6_1) t540 _ A5.out).mono ?_); rintro e w' ⟨rfl, ⟨nd, rfl⟩⟩; refine ⟨_, rfl, ?_⟩))
     go_roundg k1
     case measure => have := HK1.out; omega
     case rel => exact ⟨(t540), (wrap64 (x6_1 + 1)), (by first | rfl | (simp; done) | (simp [*]; done)), (by first | rfl | (simp; done) | (simp [*]; done)), H', ⟨by have := HK1.out; omega⟩, by repeat (first | exact Drawn0.refl _ | apply Drawn0.step)⟩
    ·rw [if_neg c4] at H
     exact absurd H (by simp)
   ·rw [if_neg c3] at H
    have c3b0 : decide (x6_1 < (l1.length : Int)) = false := decide_eq_false c3
    clear c3
    obtain rfl := Option.some.inj H
    go_wp2
    go_ret
    exact ⟨by first | rfl | (simp; done) | (simp [*]; done), by repeat (first | exact Drawn0.refl _ | apply Drawn0.step)⟩
def meridianref01_Of.f (k : Nat) (l0 : List Int) : Option (Int) := (meridianref01_More.f k 0 l0).bind fun t541 => (some t541)
theorem meridianref01_Of.calls (k : Nat) (A0 : Option Addr) (c0 : Nat) (l0 : List Int) (r : Int) (w : World) (hr0 : Kd.C (Kd.int .u8) w A0 l0.length l0) (hc0 : l0.length ≤ c0) (h : meridianref01_Of.f k l0 = some r) :
  Calls Try.prog 57 #[.slice A0 l0.length c0] w fun e w' => e = .returned (.int .u32 r) ∧ Drawn0 w w' := by
 have HR0 := aK hr0
 have HC0 := aK hc0
 clear hr0 hc0
 have H : ((meridianref01_More.f k 0 l0).bind fun t541 => (some t541)) = some r := h
 clear h
 replace H := Option.bind_eq_some_iff.mp H
 obtain ⟨t541, A20, H⟩ := H
 replace H : (some t541) = some r := H
 have A2 := aK A20
 clear A20
 obtain rfl := Option.some.inj H
 go_enter Try.func57, Try.ntmps57
 go_wp2_with (first | ((with_reducible refine zbb (f := 74) rfl ?_); refine zco (some 4) rfl rfl Try.func74 (by kernel_rfl) rfl #[.int .u32 0, .slice A0 l0.length c0] rfl (by (try simp only [List.map_toArray, List.map_cons, List.map_nil]); first | done | rfl | (simp only [List.length_drop, List.length_take]; rfl)) ?_; (with_reducible refine (meridianref01_More.calls k 0 _ _ l0 t541 _ ?side1 ?side2 A2.out).mono ?_); (case side1 => repeat (first | exact HR0.out | (with_reducible refine Kd.C_alloc ?_ _) | (with_reducible refine Kd.C_drewN ?_ _) | (with_reducible refine Kd.C_drew ?_))); (case side2 => exact HC0.out); rintro e w' ⟨rfl, ⟨nd, rfl⟩⟩; refine ⟨_, rfl, ?_⟩))
 go_ret
 exact ⟨by first | rfl | (simp; done) | (simp [*]; done), by repeat (first | exact Drawn0.refl _ | apply Drawn0.step)⟩
def meridianref03_Seal.j0 : Nat → List Int → Bool → Option (List Int × Bool)
 | 0, _, _ => none
 | k + 1, x0, x13 => if x13 = true then (some (([] : List Int), false)) else ((meridianref03_Four.f (x0.length : Int)).bind fun t542 => (if t542.length + x0.length < 140737488355328 then ((meridianref03_Four.f (x0.length : Int)).bind fun t548 => ((meridianref01_Of.f k (t542 ++ x0)).bind fun t551 => ((meridianref03_Four.f (wrap64 (t551))).bind fun t552 => (if t548.length + t552.length < 140737488355328 then ((some (t548 ++ t552 : List Int)).bind fun y555 => (if y555.length + x0.length < 140737488355328 then (some ((y555 ++ x0), true)) else (none))) else (none))))) else (none)))
def meridianref03_Seal.f (k : Nat) (l0 : List Int) : Option (List Int × Bool) := if (l0.length : Int) < 1 then (meridianref03_Seal.j0 k l0 true) else (meridianref03_Seal.j0 k l0 (decide ((l0.length : Int) > 65536)))
theorem meridianref03_Seal.calls (k : Nat) (A0 : Option Addr) (c0 : Nat) (l0 : List Int) (r1 : List Int) (r2 : Bool) (w : World) (hr0 : Kd.C (Kd.int .u8) w A0 l0.length l0) (hc0 : l0.length ≤ c0) (h : meridianref03_Seal.f k l0 = some (r1, r2)) :
  Calls Try.prog 24 #[.slice A0 l0.length c0] w fun e w' => ∃ v0_ : Value, e = .returned (.tuple #[v0_, .bool r2]) ∧ Kd.R (Kd.int .u8) 5 w' w.heap.size (fun _ => True) v0_ r1 ∧ Below w.heap.size w w' := by
 have HR0 := aK hr0
 have HC0 := aK hc0
 clear hr0 hc0
 have HB := aK (Below.refl w.heap.size w)
 have H : (if (l0.length : Int) < 1 then (meridianref03_Seal.j0 k l0 true) else (meridianref03_Seal.j0 k l0 (decide ((l0.length : Int) > 65536)))) = some (r1, r2) := h
 clear h
 have HC2 := aK H
 clear H
 go_enter Try.func24, Try.ntmps24
 go_upto_region 1 with (fail)
 go_cut [13] (fun v13 wc => ∃ (kq : Nat) (x13_1 : Bool), v13 = .bool x13_1 ∧ Aside0 (meridianref03_Seal.j0 kq l0 x13_1 = some (r1, r2)) ∧ Aside0 (kq ≤ k) ∧ Aside0 (Below w.heap.size w wc))
 case first =>
  have H := HC2.out
  clear HC2
  by_cases c3 : (l0.length : Int) < 1
  ·rw [if_pos c3] at H
   have c3b0 : decide ((l0.length : Int) < 1) = true := decide_eq_true c3
   have c3b1 : decide (l0.length < 1) = true := decide_eq_true (by omega)
   clear c3
   (first | rw [c3b0] | (simp only [zdw, zdx]; rw [c3b0]) | skip)
   have H' := aK H
   clear H
   go_wp2
   go_meet
   case rel => exact ⟨_, (true), (by first | rfl | (simp; done) | (simp [*]; done)), H', ⟨by first | omega | exact Nat.le_refl _⟩, ⟨by repeat (first | (with_reducible first | exact HB.out | apply zaa | apply zac | apply zaf) | exact HB.out)⟩⟩
  ·rw [if_neg c3] at H
   have c3b0 : decide ((l0.length : Int) < 1) = false := decide_eq_false c3
   have c3b1 : decide (l0.length < 1) = false := decide_eq_false (by omega)
   clear c3
   (first | rw [c3b0] | (simp only [zdw, zdx]; rw [c3b0]) | skip)
   have H' := aK H
   clear H
   go_wp2
   go_meet
   case rel => exact ⟨_, (decide ((l0.length : Int) > 65536)), (by first | rfl | (simp; done) | (simp [*]; done)), H', ⟨by first | omega | exact Nat.le_refl _⟩, ⟨by repeat (first | (with_reducible first | exact HB.out | apply zaa | apply zac | apply zaf) | exact HB.out)⟩⟩
 case rest =>
  clear HC2
  try clear c2
  try clear p2
  try clear c3
  try clear c3b0
  try clear c3b1
  obtain ⟨kq, x13_1, rfl, HA, HJ1, HB⟩ := hcut
  cases kq with
  | zero => exact absurd HA.out (by simp [meridianref03_Seal.j0])
  | succ kj1 =>
   have H := HA.out
   clear HA
   simp only [meridianref03_Seal.j0] at H
   by_cases c4 : x13_1 = true
   ·subst c4
    have H1 : (some (([] : List Int), false)) = some (r1, r2) := by rw [if_pos rfl] at H; exact H
    clear H
    have H := H1
    clear H1
    simp only [Option.some.injEq, Prod.mk.injEq] at H
    obtain ⟨rfl, rfl⟩ := H
    go_wp2
    go_ret2
    exact ⟨_, by first | rfl | (simp [errW_none, errW_some] <;> rfl) | (simp [*, errW_none, errW_some] <;> rfl), by first | exact Kd.R_nil _ _ _ _ _ | exact Kd.N_nil _ _ _ _ _ | exact Kd.V_nil _ _ _ _ _ | exact Kd.Q_nil _ _ _ _ _ | exact Kd.S_nil _ _ _ _ _, by repeat (first | (with_reducible first | exact HB.out | apply zaa | apply zac | apply zaf) | exact HB.out)⟩
   ·replace c4 := Bool.eq_false_iff.mpr c4
    subst c4
    have H1 : ((meridianref03_Four.f (l0.length : Int)).bind fun t542 => (if t542.length + l0.length < 140737488355328 then ((meridianref03_Four.f (l0.length : Int)).bind fun t548 => ((meridianref01_Of.f kj1 (t542 ++ l0)).bind fun t551 => ((meridianref03_Four.f (wrap64 (t551))).bind fun t552 => (if t548.length + t552.length < 140737488355328 then ((some (t548 ++ t552 : List Int)).bind fun y555 => (if y555.length + l0.length < 140737488355328 then (some ((y555 ++ l0), true)) else (none))) else (none))))) else (none))) = some (r1, r2) := by rw [if_neg (show ¬ (false = true) by decide)] at H; exact H
    clear H
    have H := H1
    clear H1
    replace H := Option.bind_eq_some_iff.mp H
    obtain ⟨t542, A50, H⟩ := H
    replace H : (if t542.length + l0.length < 140737488355328 then ((meridianref03_Four.f (l0.length : Int)).bind fun t548 => ((meridianref01_Of.f kj1 (t542 ++ l0)).bind fun t551 => ((meridianref03_Four.f (wrap64 (t551))).bind fun t552 => (if t548.length + t552.length < 140737488355328 then ((some (t548 ++ t552 : List Int)).bind fun y555 => (if y555.length + l0.length < 140737488355328 then (some ((y555 ++ l0), true)) else (none))) else (none))))) else (none)) = some (r1, r2) := H
    have A5 := aK A50
    clear A50
    by_cases c6 : t542.length + l0.length < 140737488355328
    ·rw [if_pos c6] at H
     have LMc6 := aK c6
     clear c6
     obtain ⟨y545, hy545⟩ : ∃ y_ : List Int, y_ = (t542 ++ l0) := ⟨_, rfl⟩
     replace H : ((meridianref03_Four.f (l0.length : Int)).bind fun t548 => ((meridianref01_Of.f kj1 y545).bind fun t551 => ((meridianref03_Four.f (wrap64 (t551))).bind fun t552 => (if t548.length + t552.length < 140737488355328 then ((some (t548 ++ t552 : List Int)).bind fun y555 => (if y555.length + l0.length < 140737488355328 then (some ((y555 ++ l0), true)) else (none))) else (none))))) = some (r1, r2) := by first | (rw [hy545]; with_reducible exact H) | (have H2_ := (Option.bind_some _ _).symm.trans H; rw [hy545]; with_reducible exact H2_) | (have H2_ := (Option.bind_some _ _).symm.trans H; with_reducible exact H2_) | with_reducible exact H | (rw [hy545]; exact H) | exact H
     have Ny545 := aK hy545
     clear hy545
     replace H := Option.bind_eq_some_iff.mp H
     obtain ⟨t548, A70, H⟩ := H
     replace H : ((meridianref01_Of.f kj1 y545).bind fun t551 => ((meridianref03_Four.f (wrap64 (t551))).bind fun t552 => (if t548.length + t552.length < 140737488355328 then ((some (t548 ++ t552 : List Int)).bind fun y555 => (if y555.length + l0.length < 140737488355328 then (some ((y555 ++ l0), true)) else (none))) else (none)))) = some (r1, r2) := H
     have A7 := aK A70
     clear A70
     replace H := Option.bind_eq_some_iff.mp H
     obtain ⟨t551, A80, H⟩ := H
     replace H : ((meridianref03_Four.f (wrap64 (t551))).bind fun t552 => (if t548.length + t552.length < 140737488355328 then ((some (t548 ++ t552 : List Int)).bind fun y555 => (if y555.length + l0.length < 140737488355328 then (some ((y555 ++ l0), true)) else (none))) else (none))) = some (r1, r2) := H
     have A8 := aK A80
     clear A80
     replace H := Option.bind_eq_some_iff.mp H
     obtain ⟨t552, A90, H⟩ := H
     replace H : (if t548.length + t552.length < 140737488355328 then ((some (t548 ++ t552 : List Int)).bind fun y555 => (if y555.length + l0.length < 140737488355328 then (some ((y555 ++ l0), true)) else (none))) else (none)) = some (r1, r2) := H
     have A9 := aK A90
     clear A90
     by_cases c10 : t548.length + t552.length < 140737488355328
     ·rw [if_pos c10] at H
      have LMc10 := aK c10
      clear c10
      obtain ⟨y555, hy555⟩ : ∃ y_ : List Int, y_ = (t548 ++ t552) := ⟨_, rfl⟩
      replace H : (if y555.length + l0.length < 140737488355328 then (some ((y555 ++ l0), true)) else (none)) = some (r1, r2) := by first | (rw [hy555]; with_reducible exact H) | (have H2_ := (Option.bind_some _ _).symm.trans H; rw [hy555]; with_reducible exact H2_) | (have H2_ := (Option.bind_some _ _).symm.trans H; with_reducible exact H2_) | with_reducible exact H | (rw [hy555]; exact H) | exact H
      have Ny555 := aK hy555
      clear hy555
      by_cases c11 : y555.length + l0.length < 140737488355328
      ·rw [if_pos c11] at H
       have LMc11 := aK c11
       clear c11
       obtain ⟨y558, hy558⟩ : ∃ y_ : List Int, y_ = (y555 ++ l0) := ⟨_, rfl⟩
       replace H : (some (y558, true)) = some (r1, r2) := by first | (rw [hy558]; with_reducible exact H) | (have H2_ := (Option.bind_some _ _).symm.trans H; rw [hy558]; with_reducible exact H2_) | (have H2_ := (Option.bind_some _ _).symm.trans H; with_reducible exact H2_) | with_reducible exact H | (rw [hy558]; exact H) | exact H
       have Ny558 := aK hy558
       clear hy558
       simp only [Option.some.injEq, Prod.mk.injEq] at H
       obtain ⟨rfl, rfl⟩ := H
       go_wp2_with (first | ((with_reducible refine zbb (f := 56) rfl ?_); refine zco (some 16) rfl rfl Try.func56 (by kernel_rfl) rfl #[.int .i64 (l0.length : Int)] rfl (by (try simp only [List.map_toArray, List.map_cons, List.map_nil]); first | done | rfl | (simp only [List.length_drop, List.length_take]; rfl)) ?_; (with_reducible refine (meridianref03_Four.calls (l0.length : Int) t542 _ A5.out).mono ?_); rintro e w12 ⟨v543, rfl, ho0, hb⟩; refine ⟨_, rfl, ?_⟩; have n0_ := aK (Kd.R_lower ho0 (zav (by repeat (first | (with_reducible first | exact HB.out | apply zaa | apply zac | apply zaf) | exact HB.out)))); have n1_ := aK (zba (by repeat (first | (with_reducible first | exact HB.out | apply zaa | apply zac | apply zaf) | exact HB.out)) hb); clear HB; have HO544 := n0_; have HB := n1_; clear n0_ n1_; (try clear hb); (try clear hb2); (try clear hk); (try clear hi); (try clear ho0)) | ((with_reducible refine zap (b := .append) (xs := #[.tmp 16, .tmp 17]) rfl ?_); (try (refine zbi (by rfl) ?_; dsimp only)); at_builtin; refine Kd.R_append_rows (Kd.int .u8) (w0 := w) w.heap.size rfl (.tmp 16) (.tmp 17) 37 5 (.int .u8 0) 1 rfl Try.underlying37 info5 rfl (by decide) (by omega) v543 t542 l0 _ _ _ (fun _ => True) (fun _ => False) rfl rfl ?aO ?aR (fun _ _ h => h) (fun _ h => h.elim) ?aF ?aB ?aS ?aL ?_; (case aR => repeat (first | exact (Kd.C_below HR0.out HB.out) | (with_reducible refine Kd.C_alloc ?_ _) | (with_reducible refine Kd.C_drewN ?_ _) | (with_reducible refine Kd.C_drew ?_))); (case aB => exact (by repeat (first | (with_reducible first | exact HB.out | apply zaa | apply zac | apply zaf) | exact HB.out))); (case aF => exact (fun _ _ => trivial)); (case aO => exact (by (with_reducible repeat (first | apply Kd.R_alloc | apply Kd.R_drewN | apply Kd.R_drew)); exact HO544.out)); (case aS => exact (zav (by repeat (first | (with_reducible first | exact HB.out | apply zaa | apply zac | apply zaf) | exact HB.out)))); (case aL => have := LMc6.out; omega); intro v546 w13 ho hb hg hat; rw [← Ny545.out] at ho; have n0_ := aK (hb); have n1_ := aK (ho); clear HB; clear HO544; have HB := n0_; have HO547 := n1_; clear n0_ n1_; clear ho hb hg hat) | ((with_reducible refine zbb (f := 56) rfl ?_); refine zco (some 21) rfl rfl Try.func56 (by kernel_rfl) rfl #[.int .i64 (l0.length : Int)] rfl (by (try simp only [List.map_toArray, List.map_cons, List.map_nil]); first | done | rfl | (simp only [List.length_drop, List.length_take]; rfl)) ?_; (with_reducible refine (meridianref03_Four.calls (l0.length : Int) t548 _ A7.out).mono ?_); rintro e w14 ⟨v549, rfl, ho0, hb⟩; refine ⟨_, rfl, ?_⟩; have n0_ := aK (Kd.R_elder' (by (with_reducible repeat (first | apply Kd.R_alloc | apply Kd.R_drewN | apply Kd.R_drew)); exact HO547.out) (Kd.R_base ho0) hb); have n1_ := aK (Kd.R_lower (Kd.R_new' ho0 (Kd.R_lt (by (with_reducible repeat (first | apply Kd.R_alloc | apply Kd.R_drewN | apply Kd.R_drew)); exact HO547.out))) (zav (by repeat (first | (with_reducible first | exact HB.out | apply zaa | apply zac | apply zaf) | exact HB.out)))); have n2_ := aK (zba (by repeat (first | (with_reducible first | exact HB.out | apply zaa | apply zac | apply zaf) | exact HB.out)) hb); clear HO547; clear HB; have HO547 := n0_; have HO550 := n1_; have HB := n2_; clear n0_ n1_ n2_; (try clear hb); (try clear hb2); (try clear hk); (try clear hi); (try clear ho0); obtain ⟨Ao15, co15, eo15⟩ := Kd.R_slice HO547.out; subst eo15) | ((with_reducible refine zbb (f := 57) rfl ?_); refine zco (some 23) rfl rfl Try.func57 (by kernel_rfl) rfl #[.slice Ao15 y545.length co15] rfl (by (try simp only [List.map_toArray, List.map_cons, List.map_nil]); first | done | rfl | (simp only [List.length_drop, List.length_take]; rfl)) ?_; (with_reducible refine (meridianref01_Of.calls kj1 _ _ y545 t551 _ ?side1 ?side2 A8.out).mono ?_); (case side1 => repeat (first | exact (Kd.R_reads' HO547.out).2.2 | (with_reducible refine Kd.C_alloc ?_ _) | (with_reducible refine Kd.C_drewN ?_ _) | (with_reducible refine Kd.C_drew ?_))); (case side2 => exact (Kd.R_reads' HO547.out).2.1); rintro e w' ⟨rfl, ⟨nd, rfl⟩⟩; refine ⟨_, rfl, ?_⟩) | ((with_reducible refine zbb (f := 56) rfl ?_); refine zco (some 25) rfl rfl Try.func56 (by kernel_rfl) rfl #[.int .i64 (wrap64 (t551))] rfl (by (try simp only [List.map_toArray, List.map_cons, List.map_nil]); first | done | rfl | (simp only [List.length_drop, List.length_take]; rfl)) ?_; (with_reducible refine (meridianref03_Four.calls (wrap64 (t551)) t552 _ A9.out).mono ?_); rintro e w16 ⟨v553, rfl, ho0, hb⟩; refine ⟨_, rfl, ?_⟩; have n0_ := aK (Kd.R_elder' (by (with_reducible repeat (first | apply Kd.R_alloc | apply Kd.R_drewN | apply Kd.R_drew)); exact HO547.out) (Kd.R_base ho0) hb); have n1_ := aK (Kd.R_elder' (by (with_reducible repeat (first | apply Kd.R_alloc | apply Kd.R_drewN | apply Kd.R_drew)); exact HO550.out) (Kd.R_base ho0) hb); have n2_ := aK (Kd.R_lower (Kd.R_new' (Kd.R_new' ho0 (Kd.R_lt (by (with_reducible repeat (first | apply Kd.R_alloc | apply Kd.R_drewN | apply Kd.R_drew)); exact HO547.out))) (Kd.R_lt (by (with_reducible repeat (first | apply Kd.R_alloc | apply Kd.R_drewN | apply Kd.R_drew)); exact HO550.out))) (zav (by repeat (first | (with_reducible first | exact HB.out | apply zaa | apply zac | apply zaf) | exact HB.out)))); have n3_ := aK (zba (by repeat (first | (with_reducible first | exact HB.out | apply zaa | apply zac | apply zaf) | exact HB.out)) hb); clear HO547; clear HO550; clear HB; have HO547 := n0_; have HO550 := n1_; have HO554 := n2_; have HB := n3_; clear n0_ n1_ n2_ n3_; (try clear hb); (try clear hb2); (try clear hk); (try clear hi); (try clear ho0); obtain ⟨Ao18, co18, eo18⟩ := Kd.R_slice HO554.out; subst eo18) | ((with_reducible refine zap (b := .append) (xs := #[.tmp 21, .tmp 25]) rfl ?_); (try (refine zbi (by rfl) ?_; dsimp only)); at_builtin; refine Kd.R_append_rows (Kd.int .u8) (w0 := w) w.heap.size rfl (.tmp 21) (.tmp 25) 37 5 (.int .u8 0) 1 rfl Try.underlying37 info5 rfl (by decide) (by omega) v549 t548 t552 _ _ _ (fun k_ => some k_ ≠ (.slice Ao15 y545.length co15 : Value).ownBlock ∧ some k_ ≠ (.slice Ao18 t552.length co18 : Value).ownBlock) (fun _ => False) rfl rfl ?aO ?aR (fun _ _ h => h) (fun _ h => h.elim) ?aF ?aB ?aS ?aL ?_; (case aR => repeat (first | exact (Kd.R_reads' HO554.out).2.2 | (with_reducible refine Kd.C_alloc ?_ _) | (with_reducible refine Kd.C_drewN ?_ _) | (with_reducible refine Kd.C_drew ?_))); (case aB => exact (by repeat (first | (with_reducible first | exact HB.out | apply zaa | apply zac | apply zaf) | exact HB.out))); (case aF => exact (fun k_ hk => ⟨Kd.fresh' (Kd.R_lt (by (with_reducible repeat (first | apply Kd.R_alloc | apply Kd.R_drewN | apply Kd.R_drew)); exact HO547.out)) k_ hk, Kd.fresh' (Kd.R_lt (by (with_reducible repeat (first | apply Kd.R_alloc | apply Kd.R_drewN | apply Kd.R_drew)); exact HO554.out)) k_ hk⟩)); (case aO => exact (by (with_reducible repeat (first | apply Kd.R_alloc | apply Kd.R_drewN | apply Kd.R_drew)); exact Kd.R_mono HO550.out (fun _ hk => ⟨hk.1.2, hk.2⟩))); (case aS => exact (zav (by repeat (first | (with_reducible first | exact HB.out | apply zaa | apply zac | apply zaf) | exact HB.out)))); (case aL => have := LMc10.out; omega); intro v556 w17 ho hb hg hat; rw [← Ny555.out] at ho; have n0_ := aK (Kd.R_after (ok := (fun k_ => some k_ ≠ (.slice Ao18 t552.length co18 : Value).ownBlock)) (by (with_reducible repeat (first | apply Kd.R_alloc | apply Kd.R_drewN | apply Kd.R_drew)); exact Kd.R_mono HO547.out (fun _ hk => ⟨hk.2, hk.1.2⟩)) hg hat); have n1_ := aK (Kd.R_after (ok := (fun k_ => some k_ ≠ (.slice Ao15 y545.length co15 : Value).ownBlock)) (by (with_reducible repeat (first | apply Kd.R_alloc | apply Kd.R_drewN | apply Kd.R_drew)); exact Kd.R_mono HO554.out (fun _ hk => ⟨hk.1.2, hk.2⟩)) hg hat); have n2_ := aK (hb); have n3_ := aK (ho); clear HO547; clear HO554; clear HB; clear HO550; have HO547 := n0_; have HO554 := n1_; have HB := n2_; have HO557 := n3_; clear n0_ n1_ n2_ n3_; clear ho hb hg hat) | ((with_reducible refine zap (b := .append) (xs := #[.tmp 27, .tmp 28]) rfl ?_); (try (refine zbi (by rfl) ?_; dsimp only)); at_builtin; refine Kd.R_append_rows (Kd.int .u8) (w0 := w) w.heap.size rfl (.tmp 27) (.tmp 28) 37 5 (.int .u8 0) 1 rfl Try.underlying37 info5 rfl (by decide) (by omega) v556 y555 l0 _ _ _ (fun k_ => some k_ ≠ (.slice Ao15 y545.length co15 : Value).ownBlock ∧ some k_ ≠ (.slice Ao18 t552.length co18 : Value).ownBlock) (fun _ => False) rfl rfl ?aO ?aR (fun _ _ h => h) (fun _ h => h.elim) ?aF ?aB ?aS ?aL ?_; (case aR => repeat (first | exact (Kd.C_below HR0.out HB.out) | (with_reducible refine Kd.C_alloc ?_ _) | (with_reducible refine Kd.C_drewN ?_ _) | (with_reducible refine Kd.C_drew ?_))); (case aB => exact (by repeat (first | (with_reducible first | exact HB.out | apply zaa | apply zac | apply zaf) | exact HB.out))); (case aF => exact (fun k_ hk => ⟨Kd.fresh' (Kd.R_lt (by (with_reducible repeat (first | apply Kd.R_alloc | apply Kd.R_drewN | apply Kd.R_drew)); exact HO547.out)) k_ hk, Kd.fresh' (Kd.R_lt (by (with_reducible repeat (first | apply Kd.R_alloc | apply Kd.R_drewN | apply Kd.R_drew)); exact HO554.out)) k_ hk⟩)); (case aO => exact (by (with_reducible repeat (first | apply Kd.R_alloc | apply Kd.R_drewN | apply Kd.R_drew)); exact HO557.out)); (case aS => exact (zav (by repeat (first | (with_reducible first | exact HB.out | apply zaa | apply zac | apply zaf) | exact HB.out)))); (case aL => have := LMc11.out; omega); intro v559 w19 ho hb hg hat; rw [← Ny558.out] at ho; have n0_ := aK (Kd.R_after (ok := (fun k_ => some k_ ≠ (.slice Ao18 t552.length co18 : Value).ownBlock)) (by (with_reducible repeat (first | apply Kd.R_alloc | apply Kd.R_drewN | apply Kd.R_drew)); exact HO547.out) hg hat); have n1_ := aK (Kd.R_after (ok := (fun k_ => some k_ ≠ (.slice Ao15 y545.length co15 : Value).ownBlock)) (by (with_reducible repeat (first | apply Kd.R_alloc | apply Kd.R_drewN | apply Kd.R_drew)); exact HO554.out) hg hat); have n2_ := aK (hb); have n3_ := aK (ho); clear HO547; clear HO554; clear HB; clear HO557; have HO547 := n0_; have HO554 := n1_; have HB := n2_; have HO560 := n3_; clear n0_ n1_ n2_ n3_; clear ho hb hg hat))
       go_ret2
       exact ⟨_, by first | rfl | (simp [errW_none, errW_some] <;> rfl) | (simp [*, errW_none, errW_some] <;> rfl), by (with_reducible repeat (first | apply Kd.R_alloc | apply Kd.R_drewN | apply Kd.R_drew)); exact Kd.R_mono HO560.out (fun _ hk => trivial), by repeat (first | (with_reducible first | exact HB.out | apply zaa | apply zac | apply zaf) | exact HB.out)⟩
      ·rw [if_neg c11] at H
       exact absurd H (by simp)
     ·rw [if_neg c10] at H
      exact absurd H (by simp)
    ·rw [if_neg c6] at H
     exact absurd H (by simp)
end Go.Proofs.Ytcbehfbfaonanaa.PFr
end
section
namespace Go.Proofs.Ytcbehfbfaonanaa.PFr
open Go.RowKit Go.Proofs.YtcbehfbfaonanaaW.PrintWords Go.Proofs.YtcbehfbfaonanaaW.PrintLast Go.Proofs.YtcbehfbfaonanaaW.PrintMore
set_option linter.unusedVariables false
set_option linter.unusedSimpArgs false
abbrev B := BitVec 32
def V (r : B) : Int := (r.toNat : Int)
theorem V_lt (r : B) : 0 ≤ V r ∧ V r < 4294967296 := by unfold V; have := r.isLt; omega
theorem zhi (r : B) : BitVec.ofInt 32 (V r) = r := by
 unfold V
 rw [BitVec.ofInt_natCast]
 simp
theorem V_ofInt {x : Int} (h0 : 0 ≤ x) (h1 : x < 4294967296) : V (BitVec.ofInt 32 x) = x := by
 unfold V
 rw [BitVec.toNat_ofInt]
 omega
theorem V_of {x : Int} (h0 : 0 ≤ x) (h1 : x < 4294967296) : ∃ r, x = V r := ⟨_, (V_ofInt h0 h1).symm⟩
theorem zqi (a b : B) : Go.bits .xor .u32 (V a) (V b) = V (a ^^^ b) := by
 show IntKind.u32.wrap (((BitVec.ofInt 32 (V a) ^^^ BitVec.ofInt 32 (V b)).toNat : Nat) : Int) = _
 rw [zhi, zhi, IntKind.wrap_u32]
 have := V_lt (a ^^^ b)
 unfold V at *
 omega
theorem V_and (a b : B) : Go.bits .and .u32 (V a) (V b) = V (a &&& b) := by
 show IntKind.u32.wrap (((BitVec.ofInt 32 (V a) &&& BitVec.ofInt 32 (V b)).toNat : Nat) : Int) = _
 rw [zhi, zhi, IntKind.wrap_u32]
 have := V_lt (a &&& b)
 unfold V at *
 omega
theorem zsq (a : B) : (V a / (16 : Int) : Int) = V (a >>> 4) := by
 unfold V
 rw [BitVec.toNat_ushiftRight, Nat.shiftRight_eq_div_pow]
 omega
theorem V_ones : (4294967295 : Int) = V (BitVec.allOnes 32) := by decide
theorem V_15 : (15 : Int) = V 15#32 := by decide
theorem V_not (a : B) : Go.bits .xor .u32 4294967295 (V a) = V (~~~ a) := by
 rw [V_ones, zqi, BitVec.allOnes_xor]
def bit (a : B) : B := if a.getLsbD 0 then (a >>> 1) ^^^ 0xEDB88320#32 else a >>> 1
theorem bit_xor (a b : B) : bit (a ^^^ b) = bit a ^^^ bit b := by
 unfold bit
 rw [BitVec.getLsbD_xor, BitVec.ushiftRight_xor_distrib]
 cases a.getLsbD 0 <;> cases b.getLsbD 0 <;> simp
 ·rw [BitVec.xor_assoc]
 ·rw [BitVec.xor_assoc, BitVec.xor_assoc, BitVec.xor_comm 0xEDB88320#32]
 ·rw [show a >>> 1 ^^^ 0xEDB88320#32 ^^^ (b >>> 1 ^^^ 0xEDB88320#32) = a >>> 1 ^^^ b >>> 1 ^^^ (0xEDB88320#32 ^^^ 0xEDB88320#32) from by ac_rfl]
  simp
def ziy (a : B) : B := bit (bit (bit (bit a)))
def bits8 (a : B) : B := ziy (ziy a)
theorem zsr (a b : B) : ziy (a ^^^ b) = ziy a ^^^ ziy b := by unfold ziy; simp only [bit_xor]
def tabB (j : Nat) : B := match j with
 | 0 => 0 | 1 => 498536548 | 2 => 997073096 | 3 => 651767980 | 4 => 1994146192 | 5 => 1802195444 | 6 => 1303535960 | 7 => 1342533948 | 8 => 3988292384 | 9 => 4027552580
 | 10 => 3604390888 | 11 => 3412177804 | 12 => 2607071920 | 13 => 2262029012 | 14 => 2685067896 | _ => 3183342108
theorem zss (j : Nat) (hj : j < 16) : ziy (BitVec.ofNat 32 j) = tabB j ∧ sum_half.t.getD j 0 = V (tabB j) := by
 have : ∀ j : Fin 16, ziy (BitVec.ofNat 32 j.val) = tabB j.val ∧ sum_half.t.getD j.val 0 = V (tabB j.val) := by decide +kernel
 exact this ⟨j, hj⟩
theorem zst (a : B) (h : a &&& 15#32 = 0#32) : ziy a = a >>> 4 := by
 have key : ∀ i, i < 4 → a.getLsbD i = false := by
  intro i hi
  have h1 : (a &&& 15#32).getLsbD i = false := by rw [h]; simp
  rw [BitVec.getLsbD_and] at h1
  have h2 : (15#32 : B).getLsbD i = true := by
   have : ∀ i : Fin 4, (15#32 : B).getLsbD i.val = true := by decide
   exact this ⟨i, hi⟩
  simpa [h2] using h1
 have s1 : ∀ b : B, b.getLsbD 0 = false → bit b = b >>> 1 := fun b hb => by unfold bit; rw [hb]; rfl
 unfold ziy
 rw [s1 a (key 0 (by omega))]
 rw [s1 (a >>> 1) (by rw [BitVec.getLsbD_ushiftRight]; exact key 1 (by omega))]
 rw [← BitVec.shiftRight_add, s1 (a >>> (1 + 1)) (by rw [BitVec.getLsbD_ushiftRight]; exact key 2 (by omega))]
 rw [← BitVec.shiftRight_add, s1 (a >>> (1 + 1 + 1)) (by rw [BitVec.getLsbD_ushiftRight]; exact key 3 (by omega))]
 rw [← BitVec.shiftRight_add]
theorem nib (a : B) : (a >>> 4) ^^^ tabB (a &&& 15#32).toNat = ziy a := by
 have h15 : (a &&& 15#32).toNat < 16 := by
  rw [BitVec.toNat_and]
  have : (15#32 : B).toNat = 2 ^ 4 - 1 := by decide
  rw [this, Nat.and_two_pow_sub_one_eq_mod]
  omega
 obtain ⟨t1, _⟩ := zss _ h15
 have e : BitVec.ofNat 32 (a &&& 15#32).toNat = a &&& 15#32 := by simp
 rw [e] at t1
 have hx : a = (a ^^^ (a &&& 15#32)) ^^^ (a &&& 15#32) := by rw [BitVec.xor_assoc]; simp
 have hz : (a ^^^ (a &&& 15#32)) &&& 15#32 = 0#32 := by
  ext i hi
  simp
 conv => rhs; rw [hx]
 rw [zsr, zst _ hz, t1, BitVec.ushiftRight_xor_distrib]
 have : (a &&& 15#32) >>> 4 = 0#32 := by
  apply BitVec.eq_of_toNat_eq
  rw [BitVec.toNat_ushiftRight, Nat.shiftRight_eq_div_pow]
  simp only [BitVec.toNat_ofNat]
  all_goals omega
 rw [this]
 simp
theorem half_V (a : B) : sum_half.f (V a) = some (V (tabB (a &&& 15#32).toNat)) := by
 unfold sum_half.f
 rw [V_15, V_and]
 have h15 : (a &&& 15#32).toNat < 16 := by
  rw [BitVec.toNat_and]
  have : (15#32 : B).toNat = 2 ^ 4 - 1 := by decide
  rw [this, Nat.and_two_pow_sub_one_eq_mod]
  omega
 rw [← (zss _ h15).2]
 unfold V
 rw [Int.toNat_natCast]
def byt (r : B) (c : Int) : B := bits8 (r ^^^ BitVec.ofInt 32 c)
def reg (r : B) (l : List Int) : B := l.foldl byt r
def IsB (x : Int) : Prop := 0 ≤ x ∧ x < 256
theorem zoo (r : B) (c : Int) (l : List Int) : reg r (c :: l) = reg (byt r c) l := rfl
theorem zqj (r : B) (a b : List Int) : reg r (a ++ b) = reg (reg r a) b := by unfold reg; rw [List.foldl_append]
theorem zku (l : List Int) (i : Nat) (h : i < l.length) : l.drop i = rd l i :: l.drop (i + 1) := by
 rw [List.drop_eq_getElem_cons h]
 unfold rd
 rw [Int.toNat_natCast, List.getD_eq_getElem?_getD, List.getElem?_eq_getElem h]
 rfl
theorem w64 {x : Int} (h : -9223372036854775808 ≤ x) (h2 : x ≤ 9223372036854775807) : wrap64 x = x := by unfold wrap64; omega
theorem more_l0 (l : List Int) (hb : ∀ x ∈ l, IsB x) (hl : l.length ≤ 1000000000000000000) (d : Nat) : ∀ (i : Nat) (r : B), i + d = l.length →
  Ev (fun k => sum_More.l0 k (V r) l (l.length : Int) (i : Int)) (V (~~~ reg r (l.drop i))) := by
 induction d with
 | zero =>
  intro i r hi
  refine Ev.step (f := fun _ => some (V (~~~ r))) (fun k => ?_) ?_
  ·simp only [sum_More.l0]; rw [if_neg (by omega), V_not]
  ·rw [List.drop_eq_nil_of_le (by omega)]; exact Ev.now _
 | succ d ih =>
  intro i r hi
  have hlt : i < l.length := by omega
  have hm : rd l i ∈ l := by
   have : rd l i :: l.drop (i + 1) = l.drop i := (zku l i hlt).symm
   exact List.mem_of_mem_drop (i := i) (by rw [← this]; exact List.mem_cons_self)
  obtain ⟨b0, b1⟩ := hb _ hm
  rw [zku l i hlt, zoo]
  refine Ev.step (fun k => ?_) (ih (i + 1) (byt r (rd l i)) (by omega))
  simp only [sum_More.l0]
  rw [if_pos (by omega), if_pos (by omega), if_pos (by omega)]
  obtain ⟨c, hc⟩ := V_of (x := rd l i) b0 (by omega)
  have e1 : rd l i % 4294967296 = V c := by rw [hc] at b0 b1 ⊢; omega
  rw [e1, zqi, half_V, Option.bind_some, zsq, zqi, nib, half_V, Option.bind_some, zsq, zqi, nib, w64 (by omega) (by omega)]
  unfold byt bits8
  rw [hc, zhi]
  rfl
theorem more_f (l : List Int) (hb : ∀ x ∈ l, IsB x) (hl : l.length ≤ 1000000000000000000) (s : B) : Ev (fun k => sum_More.f k (V s) l) (V (~~~ reg (~~~ s) l)) := by
 unfold sum_More.f
 rw [V_not]
 exact more_l0 l hb hl l.length 0 (~~~ s) (by omega)
theorem of_f (l : List Int) (hb : ∀ x ∈ l, IsB x) (hl : l.length ≤ 1000000000000000000) : Ev (fun k => sum_Of.f k l) (V (~~~ reg (BitVec.allOnes 32) l)) := by
 unfold sum_Of.f
 refine Ev.bind (a := V (~~~ reg (BitVec.allOnes 32) l)) ?_ (Ev.now _)
 have := more_f l hb hl 0#32
 rw [show V 0#32 = 0 from rfl] at this
 rw [show (~~~ (0#32 : B)) = BitVec.allOnes 32 from by decide] at this
 exact this
theorem V_mod2 (a : B) : Int.tmod (V a) 2 = if a.getLsbD 0 then 1 else 0 := by
 have h : a.getLsbD 0 = decide (a.toNat % 2 = 1) := by
  unfold BitVec.getLsbD
  rw [Nat.testBit_zero]
 rw [h, Int.tmod_eq_emod_of_nonneg (V_lt a).1]
 unfold V
 by_cases e : a.toNat % 2 = 1
 ·rw [decide_eq_true e, if_pos rfl]; omega
 ·rw [decide_eq_false e, if_neg (by decide)]; omega
theorem V_div2 (a : B) : (Int.tdiv (V a) 2 % (4294967296 : Int) : Int) = V (a >>> 1) := by
 have := V_lt a
 rw [Int.tdiv_eq_ediv_of_nonneg this.1]
 unfold V at *
 rw [BitVec.toNat_ushiftRight, Nat.shiftRight_eq_div_pow]
 omega
theorem V_poly : (3988292384 : Int) = V 0xEDB88320#32 := by decide
def bitN : Nat → B → B
 | 0, a => a
 | n + 1, a => bitN n (bit a)
theorem reg_l0 (d : Nat) : ∀ (i : Nat) (a : B), i + d = 8 → Ev (fun k => meridianref01_Register.l0 k (V a) (i : Int)) (V (bitN d a)) := by
 induction d with
 | zero =>
  intro i a hi
  refine Ev.step (f := fun _ => some (V a)) (fun k => ?_) (Ev.now _)
  simp only [meridianref01_Register.l0]; rw [if_neg (by omega)]
 | succ d ih =>
  intro i a hi
  refine Ev.step (fun k => ?_) (ih (i + 1) (bit a) (by omega))
  simp only [meridianref01_Register.l0]
  rw [if_pos (by omega), V_mod2, V_div2, V_poly, zqi, w64 (by omega) (by omega)]
  unfold bit
  cases a.getLsbD 0 with
  | true => rw [if_pos rfl, if_pos rfl, if_pos rfl]; rfl
  | false => rw [if_neg (by decide), if_neg (by decide)]; rfl
theorem reg_f (a : B) (c : Int) (hc : IsB c) : Ev (fun k => meridianref01_Register.f k (V a) c) (V (byt a c)) := by
 unfold meridianref01_Register.f
 obtain ⟨b0, b1⟩ := hc
 obtain ⟨e, he⟩ := V_of (x := c) b0 (by omega)
 have e1 : c % 4294967296 = V e := by rw [he] at b0 b1 ⊢; omega
 rw [e1, zqi]
 unfold byt
 rw [he, zhi]
 exact reg_l0 8 0 (a ^^^ e) (by omega)
theorem V_not' (a : B) : (((4294967295 : Int) - V a) % (4294967296 : Int) : Int) = V (~~~ a) := by
 unfold V
 rw [BitVec.toNat_not]
 have := a.isLt
 omega
theorem rmore_l0 (l : List Int) (hb : ∀ x ∈ l, IsB x) (hl : l.length ≤ 1000000000000000000) (d : Nat) : ∀ (i : Nat) (r : B), i + d = l.length →
  Ev (fun k => meridianref01_More.l0 k l (V r) (i : Int)) (V (~~~ reg r (l.drop i))) := by
 induction d with
 | zero =>
  intro i r hi
  refine Ev.step (f := fun _ => some (V (~~~ r))) (fun k => ?_) ?_
  ·simp only [meridianref01_More.l0]; rw [if_neg (by omega), V_not']
  ·rw [List.drop_eq_nil_of_le (by omega)]; exact Ev.now _
 | succ d ih =>
  intro i r hi
  have hlt : i < l.length := by omega
  have hm : rd l i ∈ l := by
   have : rd l i :: l.drop (i + 1) = l.drop i := (zku l i hlt).symm
   exact List.mem_of_mem_drop (i := i) (by rw [← this]; exact List.mem_cons_self)
  rw [zku l i hlt, zoo]
  refine Ev.step (f := fun k => (meridianref01_Register.f k (V r) (rd l i)).bind fun t106 => (meridianref01_More.l0 k l t106 ((i + 1 : Nat) : Int))) (fun k => ?_) ?_
  ·simp only [meridianref01_More.l0]
   rw [if_pos (by omega), if_pos (by omega), w64 (by omega) (by omega)]
   rfl
  ·exact Ev.bind (reg_f r (rd l i) (hb _ hm)) (ih (i + 1) _ (by omega))
theorem rmore_f (l : List Int) (hb : ∀ x ∈ l, IsB x) (hl : l.length ≤ 1000000000000000000) (s : B) : Ev (fun k => meridianref01_More.f k (V s) l) (V (~~~ reg (~~~ s) l)) := by
 unfold meridianref01_More.f
 rw [V_not']
 exact rmore_l0 l hb hl l.length 0 (~~~ s) (by omega)
theorem rof_f (l : List Int) (hb : ∀ x ∈ l, IsB x) (hl : l.length ≤ 1000000000000000000) : Ev (fun k => meridianref01_Of.f k l) (V (~~~ reg (BitVec.allOnes 32) l)) := by
 unfold meridianref01_Of.f
 refine Ev.bind (a := V (~~~ reg (BitVec.allOnes 32) l)) ?_ (Ev.now _)
 have := rmore_f l hb hl 0#32
 rw [show V 0#32 = 0 from rfl] at this
 rw [show (~~~ (0#32 : B)) = BitVec.allOnes 32 from by decide] at this
 exact this
def num4 (a : Int) : List Int := [(a / 16777216) % 256, (a / 65536) % 256, (a / 256) % 256, a % 256]
def val4 (l : List Int) : Int := rd l 0 * 16777216 + rd l 1 * 65536 + rd l 2 * 256 + rd l 3
theorem zic (a : Int) : ∀ x ∈ num4 a, IsB x := by
 intro x hx
 unfold num4 at hx
 simp at hx
 unfold IsB
 omega
theorem zcf (a : Int) : (num4 a).length = 4 := rfl
theorem rd_app (a : Int) (t : List Int) : rd (num4 a ++ t) 0 = (a / 16777216) % 256 ∧ rd (num4 a ++ t) 1 = (a / 65536) % 256 ∧ rd (num4 a ++ t) 2 = (a / 256) % 256 ∧ rd (num4 a ++ t) 3 = a % 256 := ⟨rfl, rfl, rfl, rfl⟩
theorem ziz {a : Int} (h0 : 0 ≤ a) (h1 : a < 4294967296) (t : List Int) : val4 (num4 a ++ t) = a := by
 unfold val4
 obtain ⟨e0, e1, e2, e3⟩ := rd_app a t
 rw [e0, e1, e2, e3]
 omega
theorem zmj {l : List Int} (hb : ∀ x ∈ l, IsB x) (h : 4 ≤ l.length) : num4 (val4 l) = l.take 4 ∧ 0 ≤ val4 l ∧ val4 l < 4294967296 := by
 match l, h with
 | a :: b :: c :: d :: t, _ =>
  have ha := hb a (by simp)
  have hb' := hb b (by simp)
  have hc := hb c (by simp)
  have hd := hb d (by simp)
  unfold IsB at ha hb' hc hd
  have e : val4 (a :: b :: c :: d :: t) = a * 16777216 + b * 65536 + c * 256 + d := rfl
  rw [e]
  refine ⟨?_, by omega, by omega⟩
  unfold num4
  rw [show (a * 16777216 + b * 65536 + c * 256 + d) / 16777216 % 256 = a from by omega, show (a * 16777216 + b * 65536 + c * 256 + d) / 65536 % 256 = b from by omega, show (a * 16777216 + b * 65536 + c * 256 + d) / 256 % 256 = c from by omega, show (a * 16777216 + b * 65536 + c * 256 + d) % 256 = d from by omega]
  rfl
theorem four_f (a : Int) : frame_four.f a = some (num4 a) := rfl
theorem zsu {a : Int} (h0 : 0 ≤ a) (h1 : a < 4294967296) : meridianref03_Four.f a = some (num4 a) := by
 unfold meridianref03_Four.f num4
 rw [Int.tdiv_eq_ediv_of_nonneg h0, Int.tdiv_eq_ediv_of_nonneg h0, Int.tdiv_eq_ediv_of_nonneg h0, w64 (by omega) (by omega), w64 (by omega) (by omega), w64 (by omega) (by omega),
  Int.tmod_eq_emod_of_nonneg (by omega), Int.tmod_eq_emod_of_nonneg (by omega), Int.tmod_eq_emod_of_nonneg h0]
 simp only [Int.emod_emod_of_dvd _ (Int.dvd_refl 256)]
theorem zsv {a b : Nat} (i : Nat) (hb : b < 2 ^ i) (ha : a * 2 ^ i < 4294967296) (hb2 : b < 4294967296) : Go.bits .or .u32 ((a * 2 ^ i : Nat) : Int) (b : Int) = ((a * 2 ^ i + b : Nat) : Int) := by
 show IntKind.u32.wrap (((BitVec.ofInt 32 ((a * 2 ^ i : Nat) : Int) ||| BitVec.ofInt 32 (b : Int)).toNat : Nat) : Int) = _
 rw [Go.IntKind.wrap_u32, BitVec.toNat_or, BitVec.ofInt_natCast, BitVec.ofInt_natCast, BitVec.toNat_ofNat, BitVec.toNat_ofNat, Nat.mod_eq_of_lt (by omega : a * 2 ^ i < 2 ^ 32), Nat.mod_eq_of_lt (by omega : b < 2 ^ 32)]
 rw [← Nat.shiftLeft_eq, ← Nat.shiftLeft_add_eq_or_of_lt hb, Nat.shiftLeft_eq]
 have hlt : a * 2 ^ i + b < 4294967296 := by
  have hor : a <<< i + b = a <<< i ||| b := Nat.shiftLeft_add_eq_or_of_lt hb a
  have h32 : a <<< i ||| b < 2 ^ 32 := Nat.or_lt_two_pow (by rw [Nat.shiftLeft_eq]; omega) (by omega)
  rw [← hor, Nat.shiftLeft_eq] at h32
  omega
 omega
theorem zgv {l : List Int} (hb : ∀ x ∈ l, IsB x) (h : 4 ≤ l.length) : frame_number.f l = some (val4 l) := by
 match l, h with
 | x0 :: x1 :: x2 :: x3 :: t, _ =>
  have h0 := hb x0 (by simp)
  have h1 := hb x1 (by simp)
  have h2 := hb x2 (by simp)
  have h3 := hb x3 (by simp)
  unfold IsB at h0 h1 h2 h3
  unfold frame_number.f
  have e : val4 (x0 :: x1 :: x2 :: x3 :: t) = x0 * 16777216 + x1 * 65536 + x2 * 256 + x3 := rfl
  have r0 : rd (x0 :: x1 :: x2 :: x3 :: t) 0 = x0 := rfl
  have r1 : rd (x0 :: x1 :: x2 :: x3 :: t) 1 = x1 := rfl
  have r2 : rd (x0 :: x1 :: x2 :: x3 :: t) 2 = x2 := rfl
  have r3 : rd (x0 :: x1 :: x2 :: x3 :: t) 3 = x3 := rfl
  simp only [List.length_cons]
  rw [if_pos (by omega), if_pos (by omega), if_pos (by omega), if_pos (by omega), e, r0, r1, r2, r3]
  obtain ⟨a, rfl⟩ := Int.eq_ofNat_of_zero_le h0.1
  obtain ⟨b, rfl⟩ := Int.eq_ofNat_of_zero_le h1.1
  obtain ⟨c, rfl⟩ := Int.eq_ofNat_of_zero_le h2.1
  obtain ⟨d, rfl⟩ := Int.eq_ofNat_of_zero_le h3.1
  rw [show ((a : Int) % 4294967296) * 16777216 % 4294967296 = ((a * 2 ^ 24 : Nat) : Int) from by omega, show ((b : Int) % 4294967296) * 65536 % 4294967296 = ((b * 65536 : Nat) : Int) from by omega,
   show ((c : Int) % 4294967296) * 256 % 4294967296 = ((c * 256 : Nat) : Int) from by omega, show ((d : Int) % 4294967296) = (d : Int) from by omega]
  rw [zsv 24 (by omega) (by omega) (by omega)]
  rw [show a * 2 ^ 24 + b * 65536 = (a * 256 + b) * 2 ^ 16 from by omega, zsv 16 (by omega) (by omega) (by omega)]
  rw [show (a * 256 + b) * 2 ^ 16 + c * 256 = ((a * 256 + b) * 256 + c) * 2 ^ 8 from by omega, zsv 8 (by omega) (by omega) (by omega)]
  refine congrArg some ?_
  have e2 : ((a * 256 + b) * 256 + c) * 2 ^ 8 + d = a * 16777216 + b * 65536 + c * 256 + d := by omega
  rw [e2]
  simp only [Int.natCast_add, Int.natCast_mul]
  rfl
theorem join_l0 (L : List (List Int)) (hs : (L.map List.length).sum < 140737488355328) (hL : L.length < 1000000000000) (d : Nat) : ∀ (i : Nat) (acc : List Int), i + d = L.length → acc.length + ((L.drop i).map List.length).sum < 140737488355328 →
  Ev (fun k => frame_join.l0 k acc L (L.length : Int) (i : Int)) (acc ++ (L.drop i).flatten) := by
 induction d with
 | zero =>
  intro i acc hi _
  refine Ev.step (f := fun _ => some acc) (fun k => ?_) ?_
  ·simp only [frame_join.l0]; rw [if_neg (by omega)]
  ·rw [List.drop_eq_nil_of_le (by omega), List.flatten_nil, List.append_nil]; exact Ev.now _
 | succ d ih =>
  intro i acc hi hacc
  have hlt : i < L.length := by omega
  have e : L.drop i = zfj L i :: L.drop (i + 1) := by
   rw [List.drop_eq_getElem_cons hlt]
   unfold zfj
   rw [Int.toNat_natCast, List.getD_eq_getElem?_getD, List.getElem?_eq_getElem hlt]
   rfl
  rw [e] at hacc ⊢
  rw [List.map_cons, List.sum_cons] at hacc
  rw [List.flatten_cons, ← List.append_assoc]
  refine Ev.step (fun k => ?_) (ih (i + 1) (acc ++ zfj L i) (by omega) (by rw [List.length_append]; omega))
  simp only [frame_join.l0]
  rw [if_pos (by omega), if_pos (by omega), if_pos (by omega), if_pos (by omega), w64 (by omega) (by omega)]
  rfl
theorem join_f (L : List (List Int)) (hs : (L.map List.length).sum < 140737488355328) (hL : L.length < 1000000000000) : Ev (fun k => frame_join.f k L) L.flatten := by
 unfold frame_join.f
 have := join_l0 L hs hL L.length 0 [] (by omega) (by simpa using hs)
 simpa using this
def crc (l : List Int) : Int := V (~~~ reg (BitVec.allOnes 32) l)
def zcc (p : List Int) : List Int := num4 (p.length : Int) ++ num4 (crc (num4 (p.length : Int) ++ p)) ++ p
abbrev Ok (p : List Int) : Prop := 1 ≤ p.length ∧ p.length ≤ 65536
theorem zgw (l : List Int) : 0 ≤ crc l ∧ crc l < 4294967296 := V_lt _
theorem zhq (p : List Int) : (zcc p).length = 8 + p.length := by
 unfold zcc
 rw [List.length_append, List.length_append, zcf, zcf]
theorem sealL_isB {p : List Int} (hb : ∀ x ∈ p, IsB x) : ∀ x ∈ zcc p, IsB x := by
 intro x hx
 unfold zcc at hx
 rw [List.mem_append, List.mem_append] at hx
 rcases hx with (h | h) | h
 ·exact zic _ x h
 ·exact zic _ x h
 ·exact hb x h
theorem app_isB {a b : List Int} (ha : ∀ x ∈ a, IsB x) (hb : ∀ x ∈ b, IsB x) : ∀ x ∈ a ++ b, IsB x := by
 intro x hx
 rcases List.mem_append.mp hx with h | h
 ·exact ha x h
 ·exact hb x h
theorem zop {a : List Int} (ha : ∀ x ∈ a, IsB x) (n : Nat) : ∀ x ∈ a.take n, IsB x := fun x hx => ha x (List.mem_of_mem_take hx)
theorem zoq {a : List Int} (ha : ∀ x ∈ a, IsB x) (n : Nat) : ∀ x ∈ a.drop n, IsB x := fun x hx => ha x (List.mem_of_mem_drop hx)
theorem crc2 {a p : List Int} (ha : ∀ x ∈ a, IsB x) (hp : ∀ x ∈ p, IsB x) (hl : a.length ≤ 1000000) (hl2 : p.length ≤ 1000000000000000) :
  ∀ {β : Type} {g : Nat → Int → Option β} {r : β}, Ev (fun k => g k (crc (a ++ p))) r → Ev (fun k => (sum_Of.f k a).bind fun t => (sum_More.f k t p).bind fun t2 => g k t2) r := by
 intro β g r h
 refine Ev.bind (f := fun k t => (sum_More.f k t p).bind fun t2 => g k t2) (of_f a ha (by omega)) ?_
 refine Ev.bind (f := fun k t2 => g k t2) (more_f p hp (by omega) _) ?_
 have e : V (~~~ reg (~~~ ~~~ reg (BitVec.allOnes 32) a) p) = crc (a ++ p) := by
  unfold crc
  rw [zqj, BitVec.not_not]
 rw [e]
 exact h
theorem seal_f {p : List Int} (hb : ∀ x ∈ p, IsB x) (hl : p.length ≤ 140737488351232) : Ev (fun k => frame_Seal.f k p) (if Ok p then (zcc p, 0) else ([], 1)) := by
 unfold frame_Seal.f
 by_cases h0 : p.length = 0
 ·rw [if_neg (by unfold Ok; omega)]
  refine Ev.step (f := fun _ => some ([], 1)) (fun k => ?_) (Ev.now _)
  rw [if_pos (by omega)]
  simp [frame_Seal.j0]
 by_cases h1 : p.length > 65536
 ·rw [if_neg (by unfold Ok; omega)]
  refine Ev.step (f := fun _ => some ([], 1)) (fun k => ?_) (Ev.now _)
  rw [if_neg (by omega), decide_eq_true (by omega : (p.length : Int) > 65536)]
  simp [frame_Seal.j0]
 rw [if_pos (by unfold Ok; omega)]
 refine Ev.step (f := fun k => (sum_Of.f k (num4 (p.length : Int))).bind fun t115 => ((sum_More.f k t115 p).bind fun t116 => ((frame_four.f t116).bind fun t117 => ((frame_join.f k (([num4 (p.length : Int), t117, p] : List (List Int)))).bind fun t123 => (some (t123, (0 : Int))))))) (fun k => ?_) ?_
 ·rw [if_neg (by omega), decide_eq_false (by omega)]
  simp only [frame_Seal.j0]
  rw [if_neg (by decide), four_f, Option.bind_some, show (p.length : Int) % 4294967296 = (p.length : Int) from by omega]
 refine crc2 (zic _) hb (by rw [zcf]; omega) (by omega) (g := fun k t116 => ((frame_four.f t116).bind fun t117 => ((frame_join.f k (([num4 (p.length : Int), t117, p] : List (List Int)))).bind fun t123 => (some (t123, (0 : Int)))))) ?_
 refine Ev.congr (f := fun k => (frame_join.f k [num4 (p.length : Int), num4 (crc (num4 (p.length : Int) ++ p)), p]).bind fun t123 => (some (t123, (0 : Int)))) (fun k => by rw [four_f, Option.bind_some]) ?_
 refine Ev.bind (f := fun _ t123 => some (t123, (0 : Int))) (join_f [num4 (p.length : Int), num4 (crc (num4 (p.length : Int) ++ p)), p] ?_ ?_) ?_
 ·simp only [List.map_cons, List.map_nil, List.sum_cons, List.sum_nil, zcf]; omega
 ·simp
 ·have : List.flatten [num4 (p.length : Int), num4 (crc (num4 (p.length : Int) ++ p)), p] = zcc p := by
   unfold zcc
   simp
  rw [this]
  exact Ev.now _
theorem zsw {p : List Int} (hb : ∀ x ∈ p, IsB x) (hl : p.length ≤ 140737488351232) : Ev (fun k => meridianref03_Seal.f k p) (if Ok p then (zcc p, true) else ([], false)) := by
 unfold meridianref03_Seal.f
 by_cases h0 : p.length = 0
 ·rw [if_neg (by unfold Ok; omega)]
  refine Ev.step (f := fun _ => some ([], false)) (fun k => ?_) (Ev.now _)
  rw [if_pos (by omega)]
  simp [meridianref03_Seal.j0]
 by_cases h1 : p.length > 65536
 ·rw [if_neg (by unfold Ok; omega)]
  refine Ev.step (f := fun _ => some ([], false)) (fun k => ?_) (Ev.now _)
  rw [if_neg (by omega), decide_eq_true (by omega : (p.length : Int) > 65536)]
  simp [meridianref03_Seal.j0]
 rw [if_pos (by unfold Ok; omega)]
 have hq := app_isB (zic (p.length : Int)) hb
 refine Ev.step (f := fun k => (meridianref01_Of.f k (num4 (p.length : Int) ++ p)).bind fun t149 => ((meridianref03_Four.f (wrap64 (t149))).bind fun t150 => (if (num4 (p.length : Int)).length + t150.length < 140737488355328 then ((some (num4 (p.length : Int) ++ t150 : List Int)).bind fun y153 => (if y153.length + p.length < 140737488355328 then (some ((y153 ++ p), true)) else (none))) else (none)))) (fun k => ?_) ?_
 ·rw [if_neg (by omega), decide_eq_false (by omega)]
  simp only [meridianref03_Seal.j0]
  rw [if_neg (by decide), zsu (by omega) (by omega), Option.bind_some, if_pos (by rw [zcf]; omega), Option.bind_some]
 refine Ev.bind (f := fun k t149 => ((meridianref03_Four.f (wrap64 (t149))).bind fun t150 => (if (num4 (p.length : Int)).length + t150.length < 140737488355328 then ((some (num4 (p.length : Int) ++ t150 : List Int)).bind fun y153 => (if y153.length + p.length < 140737488355328 then (some ((y153 ++ p), true)) else (none))) else (none)))) (rof_f _ hq (by rw [List.length_append, zcf]; omega)) ?_
 refine Ev.congr (f := fun _ => some (zcc p, true)) (fun k => ?_) (Ev.now _)
 have hc := zgw (num4 (p.length : Int) ++ p)
 show ((meridianref03_Four.f (wrap64 (crc (num4 (p.length : Int) ++ p)))).bind fun t150 => _) = _
 rw [w64 (by omega) (by omega), zsu hc.1 hc.2, Option.bind_some, zcf, zcf, if_pos (by omega), Option.bind_some, List.length_append, zcf, zcf, if_pos (by omega)]
 rfl
def zdf (b : List Int) : Option (List Int) := if Ok (b.drop 8) ∧ b = zcc (b.drop 8) then some (b.drop 8) else none
def zfr (l : List Int) : Option (List Int) := if 9 ≤ l.length ∧ val4 l ≤ (l.length : Int) - 8 then zdf (l.take (8 + val4 l).toNat) else none
def ans (o : Option (List Int)) : List Int × Bool := match o with | some p => (p, true) | none => ([], false)
def ansE (o : Option (List Int)) : List Int × Int := match o with | some p => (p, 0) | none => ([], 2)
theorem openL_some {b p : List Int} (h : zdf b = some p) : Ok p ∧ b = zcc p ∧ p = b.drop 8 := by
 unfold zdf at h
 split at h
 ·rename_i c
  cases h
  exact ⟨c.1, c.2, rfl⟩
 ·cases h
theorem zqk (p : List Int) : (zcc p).drop 8 = p := by unfold zcc num4; rfl
theorem openL_sealL {p : List Int} (h : Ok p) : zdf (zcc p) = some p := by
 unfold zdf
 rw [zqk, if_pos ⟨h, rfl⟩]
theorem zql {p : List Int} (h : Ok p) (t : List Int) : val4 (zcc p ++ t) = p.length := by
 unfold Ok at h
 unfold zcc
 rw [List.append_assoc, List.append_assoc]
 exact ziz (by omega) (by omega) _
theorem openL_first {b p : List Int} : zdf b = some p ↔ zfr b = some p ∧ p.length + 8 = b.length := by
 constructor
 ·intro h
  obtain ⟨ok, e, _⟩ := openL_some h
  have hl : b.length = 8 + p.length := by rw [e, zhq]
  have hv : val4 b = p.length := by have := zql ok []; rw [List.append_nil] at this; rw [e]; exact this
  have ok' := ok
  unfold Ok at ok'
  refine ⟨?_, by omega⟩
  unfold zfr
  rw [if_pos ⟨by omega, by omega⟩, hv, List.take_of_length_le (by omega)]
  exact h
 ·rintro ⟨h, hl⟩
  unfold zfr at h
  split at h
  ·obtain ⟨ok, e, _⟩ := openL_some h
   have h2 : (b.take (8 + val4 b).toNat).length = 8 + p.length := by rw [e, zhq]
   rw [List.length_take] at h2
   rw [List.take_of_length_le (by omega)] at h
   exact h
  ·cases h
theorem first_f {l : List Int} (hb : ∀ x ∈ l, IsB x) (hl : l.length ≤ 140737488351232) : Ev (fun k => frame_first.f k l) (ans (zfr l)) := by
 unfold frame_first.f
 by_cases h9 : l.length < 9
 ·refine Ev.congr (f := fun _ => some ([], false)) (fun k => by rw [if_pos (by omega)]) ?_
  unfold zfr
  rw [if_neg (by omega)]
  exact Ev.now _
 obtain ⟨e4, v0, v1⟩ := zmj hb (by omega)
 have pl : ((l.take (8 + val4 l).toNat).drop 8).length = min (8 + val4 l).toNat l.length - 8 := by rw [List.length_drop, List.length_take]
 have none_of : ¬ (1 ≤ val4 l ∧ val4 l ≤ 65536 ∧ val4 l ≤ (l.length : Int) - 8) → zfr l = none := by
  intro h
  unfold zfr
  split
  ·unfold zdf
   rw [if_neg]
   rintro ⟨ok, _⟩
   unfold Ok at ok
   rw [pl] at ok
   omega
  ·rfl
 by_cases hn0 : val4 l = 0
 ·rw [none_of (by omega)]
  refine Ev.step (f := fun _ => some ([], false)) (fun k => ?_) (Ev.now _)
  rw [if_neg (by omega), zgv hb (by omega), Option.bind_some, if_pos hn0]
  simp [frame_first.j0]
 by_cases hn1 : val4 l > 65536
 ·rw [none_of (by omega)]
  refine Ev.step (f := fun _ => some ([], false)) (fun k => ?_) (Ev.now _)
  rw [if_neg (by omega), zgv hb (by omega), Option.bind_some, if_neg hn0, if_pos hn1]
  simp [frame_first.j0]
 by_cases hn2 : val4 l > (l.length : Int) - 8
 ·rw [none_of (by omega)]
  refine Ev.step (f := fun _ => some ([], false)) (fun k => ?_) (Ev.now _)
  rw [if_neg (by omega), zgv hb (by omega), Option.bind_some, if_neg hn0, if_neg hn1, w64 (by omega) (by omega), w64 (by omega) (by omega), decide_eq_true hn2]
  simp [frame_first.j0]
 obtain ⟨pay, hpay⟩ : ∃ p, p = (l.take (8 + val4 l).toNat).drop 8 := ⟨_, rfl⟩
 have hbp : ∀ x ∈ pay, IsB x := by rw [hpay]; exact zoq (zop hb _) _
 rw [← hpay] at pl
 have lp : pay.length = (val4 l).toNat := by omega
 have okp : Ok pay := by unfold Ok; omega
 have hq8 : l.take (8 + val4 l).toNat = l.take 4 ++ (l.drop 4).take 4 ++ pay := by
  have h1 : l.take (8 + val4 l).toNat = (l.take (8 + val4 l).toNat).take 8 ++ (l.take (8 + val4 l).toNat).drop 8 := (List.take_append_drop 8 _).symm
  rw [← hpay, List.take_take, Nat.min_eq_left (by omega)] at h1
  rw [h1]
  congr 1
  have : l.take 8 = (l.take 8).take 4 ++ (l.take 8).drop 4 := (List.take_append_drop 4 _).symm
  rw [this, List.take_take, List.drop_take]
  rfl
 have hd : ∀ x ∈ l.drop 4, IsB x := zoq hb 4
 obtain ⟨f4, u0, u1⟩ := zmj hd (by rw [List.length_drop]; omega)
 have hc := zgw (num4 (pay.length : Int) ++ pay)
 have e4' : num4 (pay.length : Int) = l.take 4 := by rw [lp, ← e4]; congr 1; omega
 have key : zfr l = if crc (l.take 4 ++ pay) = val4 (l.drop 4) then some pay else none := by
  unfold zfr
  rw [if_pos ⟨by omega, by omega⟩]
  unfold zdf
  rw [← hpay]
  by_cases c : crc (l.take 4 ++ pay) = val4 (l.drop 4)
  ·rw [if_pos c, if_pos]
   refine ⟨okp, ?_⟩
   rw [hq8]
   unfold zcc
   rw [e4', c, f4]
  ·rw [if_neg c, if_neg]
   rintro ⟨_, h⟩
   rw [hq8] at h
   unfold zcc at h
   have h2 := List.append_cancel_right h
   rw [e4'] at h2
   have h3 := List.append_cancel_left h2
   rw [← f4] at h3
   have h4 := ziz u0 u1 []
   rw [h3, ziz (zgw _).1 (zgw _).2] at h4
   exact c h4
 rw [key]
 refine Ev.step (f := fun k => (frame_join.f k [pay]).bind fun t139 => (if 4 ≤ (l.length : Int) then ((sum_Of.f k (l.take 4)).bind fun t147 => ((sum_More.f k t147 t139).bind fun t148 => ((frame_number.f (l.drop 4)).bind fun t154 => (if t148 = t154 then (if 0 ≤ (t139.length : Int) then (if (t139.length : Int) ≤ (t139.length : Int) then (some ((t139.take ((t139.length : Int) : Int).toNat), true)) else (none)) else (none)) else (some (([] : List Int), false)))))) else (none))) (fun k => ?_) ?_
 ·rw [if_neg (by omega), zgv hb (by omega), Option.bind_some, if_neg hn0, if_neg hn1, w64 (by omega) (by omega), w64 (by omega) (by omega), decide_eq_false hn2]
  simp only [frame_first.j0]
  rw [if_neg (by decide), show (8 + val4 l) % 4294967296 = 8 + val4 l from by omega, if_pos (by omega), if_pos (by omega), ← hpay]
 have hj := join_f [pay] (by simp only [List.map_cons, List.map_nil, List.sum_cons, List.sum_nil]; omega) (by simp)
 rw [show List.flatten [pay] = pay from by simp] at hj
 refine Ev.bind (f := fun k t139 => (if 4 ≤ (l.length : Int) then ((sum_Of.f k (l.take 4)).bind fun t147 => ((sum_More.f k t147 t139).bind fun t148 => ((frame_number.f (l.drop 4)).bind fun t154 => (if t148 = t154 then (if 0 ≤ (t139.length : Int) then (if (t139.length : Int) ≤ (t139.length : Int) then (some ((t139.take ((t139.length : Int) : Int).toNat), true)) else (none)) else (none)) else (some (([] : List Int), false)))))) else (none))) hj ?_
 refine Ev.congr (f := fun k => (sum_Of.f k (l.take 4)).bind fun t147 => ((sum_More.f k t147 pay).bind fun t148 => ((frame_number.f (l.drop 4)).bind fun t154 => (if t148 = t154 then (if 0 ≤ (pay.length : Int) then (if (pay.length : Int) ≤ (pay.length : Int) then (some ((pay.take ((pay.length : Int) : Int).toNat), true)) else (none)) else (none)) else (some (([] : List Int), false)))))) (fun k => by rw [if_pos (by omega)]) ?_
 refine crc2 (zop hb 4) hbp (by rw [List.length_take]; omega) (by omega) (g := fun k t148 => ((frame_number.f (l.drop 4)).bind fun t154 => (if t148 = t154 then (if 0 ≤ (pay.length : Int) then (if (pay.length : Int) ≤ (pay.length : Int) then (some ((pay.take ((pay.length : Int) : Int).toNat), true)) else (none)) else (none)) else (some (([] : List Int), false))))) ?_
 refine Ev.congr (f := fun _ => some (ans (if crc (l.take 4 ++ pay) = val4 (l.drop 4) then some pay else none))) (fun k => ?_) (Ev.now _)
 rw [zgv hd (by rw [List.length_drop]; omega), Option.bind_some]
 by_cases c : crc (l.take 4 ++ pay) = val4 (l.drop 4)
 ·rw [if_pos c, if_pos c, if_pos (by omega), if_pos (by omega), Int.toNat_natCast, List.take_length]
  rfl
 ·rw [if_neg c, if_neg c]
  rfl
theorem open_f {l : List Int} (hb : ∀ x ∈ l, IsB x) (hl : l.length ≤ 140737488351232) : Ev (fun k => frame_Open.f k l) (ansE (zdf l)) := by
 unfold frame_Open.f
 refine Ev.bind (f := fun _ bt130 => (if bt130.2 = true then (if (wrap64 ((bt130.1.length : Int) + 8)) = (l.length : Int) then (some (bt130.1, (0 : Int))) else (some (([] : List Int), (2 : Int)))) else (some (([] : List Int), (2 : Int))))) (first_f hb hl) ?_
 refine Ev.congr (f := fun _ => some (ansE (zdf l))) (fun k => ?_) (Ev.now _)
 cases hf : zfr l with
 | none =>
  have : zdf l = none := by
   cases ho : zdf l with
   | none => rfl
   | some p => have := (openL_first.mp ho).1; rw [hf] at this; cases this
  rw [this]
  show (if false = true then _ else _) = _
  rw [if_neg (by decide)]
  rfl
 | some p =>
  show (if true = true then (if (wrap64 ((p.length : Int) + 8)) = (l.length : Int) then (some (p, (0 : Int))) else (some (([] : List Int), 2))) else _) = _
  have hp : p.length ≤ l.length := by
   unfold zfr at hf
   split at hf
   ·obtain ⟨_, _, e⟩ := openL_some hf
    rw [e, List.length_drop, List.length_take]; omega
   ·cases hf
  rw [if_pos rfl, w64 (by omega) (by omega)]
  by_cases c : p.length + 8 = l.length
  ·rw [if_pos (by omega), openL_first.mpr ⟨hf, c⟩]
   rfl
  ·rw [if_neg (by omega)]
   have : zdf l = none := by
    cases ho : zdf l with
    | none => rfl
    | some q =>
     obtain ⟨h1, h2⟩ := openL_first.mp ho
     rw [hf] at h1
     cases h1
     exact absurd h2 c
   rw [this]
   rfl
end Go.Proofs.Ytcbehfbfaonanaa.PFr
end
