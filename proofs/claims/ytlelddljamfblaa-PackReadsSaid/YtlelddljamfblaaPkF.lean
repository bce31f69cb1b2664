/- The packer's writer: what add and Num come to. -/
import Derived.Test.YtlelddljamfblaaPkE
import Derived.Outline
namespace Go.Proofs.Ytlelddljamfblaa.Pk
open Go.RowKit Go.Proofs.YtlelddljamfblaaW.PrintWords Go.Proofs.YtlelddljamfblaaW.PrintLast Go.Proofs.YtlelddljamfblaaW.PrintMore
set_option linter.unusedVariables false
set_option linter.unusedSimpArgs false

/-- What a call on the writer at g leaves. -/
def IsWr (g T : Nat) (r : List Value) (v : Value) (xs : List Int) (bad : Bool) (w : World) (e : Ending) (w' : World) : Prop :=
  ∃ v', e = .returned (.tuple #[]) ∧ WrAt w' g T r v' xs bad ∧ NewRow w v v' ∧ Only (WS g v) w w'

section
variable {w : World} {g T : Nat} {r : List Value} {v : Value} {xs : List Int} {bad : Bool}
theorem WrAt.cell0 (h : WrAt w g T r v xs bad) : w.cell? ⟨g, 0, none⟩ = some v := by rw [blk_cell h.1]; rfl
theorem WrAt.cell1 (h : WrAt w g T r v xs bad) : w.cell? ⟨g, 1, none⟩ = some (.bool bad) := by rw [blk_cell h.1]; rfl
theorem WrAt.frozen (h : WrAt w g T r v xs bad) (i : Nat) : w.frozen? ⟨g, i, none⟩ = false := blk_frozen h.1 i
theorem WrAt.spoil (h : WrAt w g T r v xs bad) (b : Bool) : WrAt (w.setCell ⟨g, 1, none⟩ (.bool b)) g T r v xs b :=
  ⟨by rw [blk_set h.1]; simp, own_setCell h.2.1 (p := ⟨g, 1, none⟩) (Ne.symm h.2.2) _, h.2.2⟩
theorem WrAt.alloc (h : WrAt w g T r v xs bad) (o : Obj) : WrAt (w.alloc o) g T r v xs bad := h.move fun k hk => by
  refine Below.heap_alloc _ _ _ ?_
  rcases hk with rfl | hk
  · exact blk_lt h.1
  · exact own_lt h.2.1 k hk
theorem WrAt.drewN (h : WrAt w g T r v xs bad) (n : Nat) : WrAt (w.drewN n) g T r v xs bad := h
theorem reads_box (w : World) (x : Int) : ReadsInt (w.alloc (.cells #[.int .u8 x] 5)) .u8 (some ⟨w.heap.size, 0, none⟩) 1 [x] := by
  refine ⟨rfl, by decide, fun _ => ⟨_, rfl, fun j hj => ?_⟩⟩
  obtain rfl : j = 0 := by omega
  rw [add_plain, World.cell?_alloc_new]
  rfl
end

theorem NewRow.of_alloc {w : World} {o : Obj} {v v' : Value} (h : NewRow (w.alloc o) v v') : NewRow w v v' := by
  rcases h with h | ⟨b, h, hb⟩
  · exact .inl h
  · exact .inr ⟨b, h, by rw [World.size_alloc] at hb; omega⟩
set_option maxHeartbeats 1000000 in
theorem add_c (g T : Nat) (r : List Value) (v : Value) (xs : List Int) (bad : Bool) (A : Option Addr) (n c : Nat) (ys : List Int) (w : World) (h : WrAt w g T r v xs bad) (hr : ReadsInt w .u8 A n ys) (hn : xs.length + n ≤ 140737488355328) :
    Calls Try.prog 28 #[.pointer (some ⟨g, 0, none⟩), .slice A n c] w (IsWr g T r v (xs ++ ys) bad w) := by
  have h0 := h.cell0
  have H := Aside0.mk h
  have HR := Aside0.mk hr
  have hg : g < w.heap.size := blk_lt h.1
  clear h hr
  go_enter Try.func28, Try.ntmps28
  go_wp2_with (at_builtin; refine print_append_row (w0 := w) 0 rfl (.tmp 8) (.tmp 9) 25 5 .u8 1 rfl Try.underlying25 info_u8 (by decide) v xs ys A n c rfl rfl H.out.2.1 HR.out (Below.refl _ _) (Nat.zero_le _) (by simpa using hn) ?_; intro v1 w1 hO hB hg hat; obtain ⟨A1, c1, rfl⟩ := own_slice hO; have hb := blk_grown H.out.1 hg (Ne.symm H.out.2.2); have c0 : w1.cell? ⟨g, 0, none⟩ = some v := by { rw [blk_cell hb]; rfl }; have f0 := blk_frozen hb 0; have HB := Aside0.mk hb; have HO := Aside0.mk hO; have HG := Aside0.mk hg; have HT := Aside0.mk hat; clear hO hg hat hB hb)
  go_end0
  have hne : (Value.slice A1 (xs ++ ys).length c1).ownBlock ≠ some g := by
    rcases HT.out with e | ⟨b, e, hb⟩
    · rw [e]; exact H.out.2.2
    · rw [e]; intro e'; injection e' with e'; omega
  exact ⟨_, rfl, ⟨by rw [blk_set HB.out]; simp, own_setCell HO.out (p := ⟨g, 0, none⟩) (Ne.symm hne) _, hne⟩, HT.out, ((Only.refl _ _).grown HG.out (fun k hk => .inr (.inr hk))).set (.inr (.inl rfl)) _⟩

def enc (n : Nat) : List Int := if h : n < 128 then [(n : Int)] else ((n : Int) % 128 + 128) :: enc (n / 128)
theorem enc_lt {n : Nat} (h : n < 128) : enc n = [(n : Int)] := by unfold enc; rw [dif_pos h]
theorem enc_ge {n : Nat} (h : ¬ n < 128) : enc n = ((n : Int) % 128 + 128) :: enc (n / 128) := by rw [enc, dif_neg h]
theorem enc_pos (n : Nat) : 0 < (enc n).length := by
  by_cases h : n < 128
  · rw [enc_lt h]; simp
  · rw [enc_ge h]; simp
theorem enc_len : ∀ (k n : Nat), n < 128 ^ (k + 1) → (enc n).length ≤ k + 1 := by
  intro k
  induction k with
  | zero => intro n h; rw [enc_lt (by simpa using h)]; simp
  | succ k ih =>
    intro n h
    by_cases hn : n < 128
    · rw [enc_lt hn]; simp
    · rw [enc_ge hn]
      have := ih (n / 128) (by rw [Nat.pow_succ] at h; omega)
      simp; omega
theorem enc_len8 {n : Nat} (h : n ≤ 9007199254740992) : (enc n).length ≤ 8 := enc_len 7 n (by omega)
def wnum (n : Int) (xs : List Int) (bad : Bool) : List Int × Bool := if n < 0 ∨ n > 9007199254740992 then (xs, true) else if bad = true then (xs, true) else (xs ++ enc n.toNat, false)

theorem IsWr.mk {g T : Nat} {r : List Value} {v v' : Value} {xs : List Int} {bad : Bool} {w w' : World} {R : List Int × Bool} (h : R = (xs, bad)) (h1 : WrAt w' g T r v' xs bad) (h2 : NewRow w v v') (h3 : Only (WS g v) w w') : IsWr g T r v R.1 R.2 w (.returned (.tuple #[])) w' := by
  subst h
  exact ⟨v', rfl, h1, h2, h3⟩
theorem wnum_cases (n : Int) (xs : List Int) (bad : Bool) : (n < 0 ∧ wnum n xs bad = (xs, true)) ∨ (0 ≤ n ∧ 9007199254740992 < n ∧ wnum n xs bad = (xs, true)) ∨ (0 ≤ n ∧ n ≤ 9007199254740992 ∧ bad = true ∧ wnum n xs bad = (xs, true)) ∨ (0 ≤ n ∧ n ≤ 9007199254740992 ∧ bad = false ∧ wnum n xs bad = (xs ++ enc n.toNat, false)) := by
  unfold wnum
  by_cases h1 : n < 0
  · exact .inl ⟨h1, if_pos (.inl h1)⟩
  by_cases h2 : 9007199254740992 < n
  · exact .inr (.inl ⟨by omega, h2, if_pos (.inr h2)⟩)
  rw [if_neg (by omega)]
  cases bad
  · exact .inr (.inr (.inr ⟨by omega, by omega, rfl, rfl⟩))
  · exact .inr (.inr (.inl ⟨by omega, by omega, rfl, rfl⟩))
set_option maxRecDepth 100000 in
set_option maxHeartbeats 2000000 in
theorem wNum_c (n : Int) (g T : Nat) (r : List Value) (v : Value) (xs : List Int) (bad : Bool) (w : World) (h : WrAt w g T r v xs bad) (hn : xs.length ≤ 140737488350000) :
    Calls Try.prog 10 #[.pointer (some ⟨g, 0, none⟩), .int .i64 n] w (IsWr g T r v (wnum n xs bad).1 (wnum n xs bad).2 w) := by
  have c1 := h.cell1
  have f1 := h.frozen 1
  have HO := Aside0.mk (Only.refl (WS g v) w)
  have H := Aside0.mk h
  have e := wnum_cases n xs bad
  generalize wnum n xs bad = R at *
  clear h
  rcases e with ⟨h1, e⟩ | ⟨h1, h2, e⟩ | ⟨h1, h2, rfl, e⟩ | ⟨h1, h2, rfl, e⟩
  · have E := Aside0.mk e
    have h1' : decide (n < 0) = true := decide_eq_true h1
    clear e
    go_enter Try.func10, Try.ntmps10
    go_wp2
    refine bodyPost_ret (results_none rfl _ _ _) rfl ?_
    exact IsWr.mk E.out (H.out.spoil true) (NewRow.refl _ _) (HO.out.set (.inr (.inl rfl)) _)
  · have E := Aside0.mk e
    have h1' : decide (n < 0) = false := decide_eq_false (by omega)
    have h2' : decide (9007199254740992 < n) = true := decide_eq_true h2
    clear e
    go_enter Try.func10, Try.ntmps10
    go_wp2
    refine bodyPost_ret (results_none rfl _ _ _) rfl ?_
    exact IsWr.mk E.out (H.out.spoil true) (NewRow.refl _ _) (HO.out.set (.inr (.inl rfl)) _)
  · have E := Aside0.mk e
    have h1' : decide (n < 0) = false := decide_eq_false (by omega)
    have h2' : decide (9007199254740992 < n) = false := decide_eq_false (by omega)
    clear e
    go_enter Try.func10, Try.ntmps10
    go_wp2
    refine bodyPost_ret (results_none rfl _ _ _) rfl ?_
    exact IsWr.mk E.out H.out (NewRow.refl _ _) HO.out
  · have h1' : decide (n < 0) = false := decide_eq_false (by omega)
    have h2' : decide (9007199254740992 < n) = false := decide_eq_false (by omega)
    obtain ⟨n, rfl⟩ := Int.eq_ofNat_of_zero_le h1
    rw [Int.toNat_natCast] at e
    have E := Aside0.mk e
    have hl := Aside0.mk (enc_len8 (n := n) (by omega))
    have HN0 := Aside0.mk (show n ≤ 9007199254740992 by omega)
    have HXS := Aside0.mk hn
    have HS := Aside0.mk (show xs ++ enc n = xs ++ enc n from rfl)
    clear e h1 h2 hn
    go_enter Try.func10, Try.ntmps10
    go_wp2
    go_loopw [1] (fun nv wr => ∃ (m : Nat) (acc : List Int) (v' : Value), nv = .int .i64 m ∧ Aside0 (m ≤ 9007199254740992) ∧ Aside0 (acc ++ enc m = xs ++ enc n) ∧ Aside0 (WrAt wr g T r v' acc false) ∧ Aside0 (NewRow w v v') ∧ Aside0 (Only (WS g v) w wr)) (fun nv _ => (intOf nv).toNat)
    case atStart => exact ⟨n, xs, v, rfl, HN0, ⟨rfl⟩, H, ⟨NewRow.refl _ _⟩, HO⟩
    case round =>
      clear h1' h2'
      obtain ⟨m, acc, v', rfl, hm, HA, HW, HN, HO1⟩ := hrel
      have hla := Aside0.mk (show acc.length + 1 ≤ 140737488355328 by
        have := congrArg List.length HA.out
        rw [List.length_append, List.length_append] at this
        have := enc_pos m
        have := HXS.out
        have := hl.out
        omega)
      by_cases hlt : 128 ≤ m
      · have e2 := enc_ge (n := m) (by omega)
        have HE := Aside0.mk e2
        clear e2
        have E3 := Aside0.mk (show wrap64 ((m : Int) / 128) = ((m / 128 : Nat) : Int) by have := hm.out; unfold wrap64; omega)
        have b0 : 0 ≤ (m : Int) % 128 := by omega
        have b1 : (m : Int) % 128 < 128 := by omega
        go_wp2_with (refine (add_c g T r v' acc false _ 1 1 [(m : Int) % 128 + 128] _ (HW.out.alloc _) (reads_box _ _) hla.out).mono ?_; rintro e w' ⟨v2, rfl, hW2, hN2, hO2⟩; have HW2 := Aside0.mk hW2; have HN2 := Aside0.mk hN2; have HO2 := Aside0.mk hO2; clear hW2 hN2 hO2)
        go_roundw
        case rel => exact ⟨m / 128, acc ++ [(m : Int) % 128 + 128], v2, congrArg (Value.int .i64) E3.out, ⟨by have := hm.out; omega⟩, ⟨by rw [List.append_assoc, ← HA.out, HE.out]; rfl⟩, HW2, ⟨HN.out.trans (NewRow.of_alloc HN2.out) HO1.out.size⟩, ⟨HO1.out.trans ((Only.refl _ _).alloc _ |>.then_ HO2.out) (fun i hi s => WS.step HN.out hi s)⟩⟩
        case measure => rw [E3.out]; simp [intOf]; omega
      · have hlt' : decide (128 ≤ m) = false := decide_eq_false hlt
        have HE := Aside0.mk (enc_lt (n := m) (by omega))
        go_wp2_with (refine (add_c g T r v' acc false _ 1 1 [(m : Int)] _ (HW.out.alloc _) (reads_box _ _) hla.out).mono ?_; rintro e w' ⟨v2, rfl, hW2, hN2, hO2⟩; have HW2 := Aside0.mk hW2; have HN2 := Aside0.mk hN2; have HO2 := Aside0.mk hO2; clear hW2 hN2 hO2)
        go_end0
        exact IsWr.mk (by rw [E.out, ← HA.out, HE.out]) HW2.out (HN.out.trans (NewRow.of_alloc HN2.out) HO1.out.size) (HO1.out.trans ((Only.refl _ _).alloc _ |>.then_ HO2.out) (fun i hi s => WS.step HN.out hi s))
end Go.Proofs.Ytlelddljamfblaa.Pk
