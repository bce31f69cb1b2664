/- Plain laws: the reference's digits are the packer's bytes; lists of a size that is looked at. -/
import Derived.Test.YtlelddljamfblaaPkH
import Derived.Test.YtlelddljamfblaaPPkx1
namespace Go.Proofs.Ytlelddljamfblaa.Pk
open Go.RowKit Go.Proofs.YtlelddljamfblaaW.PrintWords Go.Proofs.YtlelddljamfblaaW.PrintLast Go.Proofs.YtlelddljamfblaaW.PrintMore Go.Proofs.Ytlelddljamfblaa.PPk
set_option linter.unusedVariables false
set_option linter.unusedSimpArgs false

theorem w64 {x : Int} (h0 : -9223372036854775808 ≤ x) (h1 : x ≤ 9223372036854775807) : wrap64 x = x := by unfold wrap64; omega
/-- A row of the call's own, told with its block. -/
theorem GoodRow.mk {R : List Int × Bool} {w w' : World} {v : Value} {b0 : Nat} (h : w'.ownsRow w.heap.size 5 1 v R.1.length (nums .u8 R.1)) (hb : Below w.heap.size w w') (hv : v.ownBlock = some b0) : ∃ q c, v = .slice (some ⟨q, 0, none⟩) R.1.length c ∧ GoodRow R w w' q c := by
  have h' := h
  rcases h.2 with ⟨rfl, _⟩ | ⟨g, cap, cur, rfl, hg, hh, h1, h2, h3, h4⟩
  · simp [Value.ownBlock] at hv
  · exact ⟨g, cap, rfl, h', h1, h2, hg, hb⟩
/-- The loop's state. -/
def DigAt (w wr : World) (v : Value) (acc : List Int) : Prop := wr.ownsRow w.heap.size 5 1 v acc.length (nums .u8 acc) ∧ (∃ b, v.ownBlock = some b) ∧ Below w.heap.size w wr
theorem DigAt.next {w wr w1 : World} {v v1 : Value} {acc : List Int} {x : Int} {o : Obj} (h : DigAt w wr v acc) (hO : w1.ownsRow w.heap.size 5 1 v1 (acc ++ [x]).length (nums .u8 (acc ++ [x]))) (hB : Below w.heap.size w w1) (hat : v1.ownBlock = v.ownBlock ∨ ∃ b, v1.ownBlock = some b ∧ wr.heap.size ≤ b) : DigAt w w1 v1 (acc ++ [x]) := by
  refine ⟨hO, ?_, hB⟩
  rcases hat with e | ⟨b, e, _⟩
  · rw [e]; exact h.2.1
  · exact ⟨b, e⟩
set_option maxRecDepth 100000 in
set_option maxHeartbeats 2000000 in
theorem digits_ok (n : Nat) (hn : n ≤ 9007199254740992) (w : World) :
    Calls Try.prog 30 #[.int .i64 (n : Int)] w fun e w' => ∃ q c, e = .returned (.tuple #[.slice (some ⟨q, 0, none⟩) (enc n).length c, .bool true]) ∧ GoodRow (enc n, false) w w' q c := by
  have HN0 := Aside0.mk hn
  have hl := Aside0.mk (enc_len8 hn)
  have h1' : decide ((n : Int) < 0) = false := decide_eq_false (by omega)
  have h2' : decide (9007199254740992 < (n : Int)) = false := decide_eq_false (by omega)
  have H0 := Aside0.mk (show DigAt w (w.alloc (.cells #[] 5)) (.slice (some ⟨w.heap.size, 0, none⟩) 0 0) [] from ⟨own_lit w w.heap.size 5 .u8 [] (Nat.le_refl _) (by simp), ⟨_, rfl⟩, below_alloc (Below.refl _ _) _⟩)
  clear hn
  go_enter Try.func30, Try.ntmps30
  go_wp2
  clear h1' h2'
  go_loopw [0, 4] (fun nv v wr => ∃ (m : Nat) (acc : List Int) (v4 : Value), nv = .int .i64 m ∧ v = v4 ∧ Aside0 (m ≤ 9007199254740992) ∧ Aside0 (acc ++ enc m = enc n) ∧ Aside0 (DigAt w wr v4 acc)) (fun nv _ _ => (intOf nv).toNat)
  case atStart => exact ⟨n, [], _, rfl, rfl, HN0, ⟨rfl⟩, H0⟩
  case round =>
    clear H0
    obtain ⟨m, acc, v4, rfl, rfl, hm, HA, HD⟩ := hrel
    have HLA := Aside0.mk (show (acc.length + 1) * 1 ≤ 140737488355328 by
      have := congrArg List.length HA.out
      rw [List.length_append] at this
      have := enc_pos m
      have := hl.out
      omega)
    have b0 : 0 ≤ (m : Int) % 128 := by omega
    have b1 : (m : Int) % 128 < 128 := by omega
    have E3 := Aside0.mk (show wrap64 ((m : Int) / 128) = ((m / 128 : Nat) : Int) by have := hm.out; unfold wrap64; omega)
    have e3 := E3.out
    by_cases hlt : m < 128
    · have e4 : (wrap64 ((m : Int) / 128) == 0) = true := by rw [E3.out]; simp; omega
      have HEQ := Aside0.mk (show acc ++ [(m : Int) % 128] = enc n by
        rw [← HA.out, enc_lt hlt, show (m : Int) % 128 = m by omega])
      go_wp2_with (at_builtin; refine print_append_num (w0 := w) w.heap.size rfl (.tmp 20) (.tmp 22) 25 5 .u8 1 rfl Try.underlying25 info_u8 (by decide) u4 acc ((m : Int) % 128) rfl rfl HD.out.1 HD.out.2.2 HD.out.2.2.size HLA.out ?_; intro v1 w1 hO hB hg hat; obtain ⟨b1, hb1⟩ := (HD.out.next (o := .cells #[] 0) hO hB hat).2.1; rw [HEQ.out] at hO; obtain ⟨q, c, rfl, hG⟩ := GoodRow.mk (R := (enc n, false)) hO hB hb1; have HG := Aside0.mk hG; clear hO hB hg hat hb1 hG)
      go_ret2
      exact ⟨q, c, rfl, HG.out⟩
    · have e4 : (wrap64 ((m : Int) / 128) == 0) = false := by rw [E3.out]; simp; omega
      have HE := Aside0.mk (enc_ge hlt)
      go_wp2_with (at_builtin; refine print_append_num (w0 := w) w.heap.size rfl (.tmp 24) (.tmp 27) 25 5 .u8 1 rfl Try.underlying25 info_u8 (by decide) u4 acc ((m : Int) % 128 + 128) rfl rfl HD.out.1 HD.out.2.2 HD.out.2.2.size HLA.out ?_; intro v1 w1 hO hB hg hat; have HX := Aside0.mk (HD.out.next (o := .cells #[] 0) hO hB hat); clear hO hB hg hat)
      go_roundw
      case rel => exact ⟨m / 128, acc ++ [(m : Int) % 128 + 128], v1, by first | rfl | exact congrArg (Value.int .i64) E3.out, rfl, ⟨by have := hm.out; omega⟩, ⟨by rw [List.append_assoc, ← HA.out, HE.out]; rfl⟩, HX⟩
      case measure => first | (rw [E3.out]; simp [intOf]; omega) | (simp [intOf]; omega)
theorem digits_no (n : Int) (h : n < 0 ∨ 9007199254740992 < n) (w : World) :
    Calls Try.prog 30 #[.int .i64 n] w fun e w' => e = .returned (.tuple #[.slice none 0 0, .bool false]) ∧ w = w' := by
  by_cases h0 : n < 0
  · have h1' : decide (n < 0) = true := decide_eq_true h0
    clear h
    go_enter Try.func30, Try.ntmps30
    go_wp2
    go_ret2
    exact ⟨rfl, rfl⟩
  · have h1' : decide (n < 0) = false := decide_eq_false h0
    have h2' : decide (9007199254740992 < n) = true := decide_eq_true (by omega)
    clear h
    go_enter Try.func30, Try.ntmps30
    go_wp2
    go_ret2
    exact ⟨rfl, rfl⟩
theorem mn_le (s : Nat) : 0 ≤ mn (s : Int) 100000 ∧ mn (s : Int) 100000 ≤ 100000 ∧ (mn (s : Int) 100000 < 100000 → s < 100000) := by unfold mn; split <;> omega
theorem few_l0 (l : List S46) (hl : l.length ≤ 9223372036854775806) (d : Nat) : ∀ (i : Nat) (x : Int), i + d = l.length → 0 ≤ x → x ≤ 100000 →
    ∃ b, Ev (fun k => meridianlaw02_few.l0 k l x (l.length : Int) (i : Int)) b ∧ (b = true → (∀ y ∈ l.drop i, y.f2.size ≤ 100000) ∧ x + d ≤ 100000) := by
  induction d with
  | zero =>
    intro i x hi h0 h1
    refine ⟨true, Ev.step (f := fun _ => some true) (fun k => ?_) (Ev.now _), fun _ => ⟨fun y hy => ?_, by omega⟩⟩
    · simp only [meridianlaw02_few.l0]; exact if_neg (by omega)
    · rw [List.drop_eq_nil_of_le (by omega)] at hy; simp at hy
  | succ d ih =>
    intro i x hi h0 h1
    have hil : i < l.length := by omega
    obtain ⟨m0, m1, m2⟩ := mn_le (rd_T46 l i).f2.size
    by_cases hb : x + (1 + mn ((rd_T46 l i).f2.size : Int) 100000) > 100000
    · refine ⟨false, Ev.step (f := fun _ => some false) (fun k => ?_) (Ev.now _), fun h => by cases h⟩
      simp only [meridianlaw02_few.l0]
      rw [if_pos (by omega), if_pos (by omega), if_pos (by omega), w64 (by omega) (by omega), if_pos hb]
    · obtain ⟨b, h2, h3⟩ := ih (i + 1) (x + (1 + mn ((rd_T46 l i).f2.size : Int) 100000)) (by omega) (by omega) (by omega)
      refine ⟨b, Ev.step (fun k => ?_) h2, fun hbt => ?_⟩
      · simp only [meridianlaw02_few.l0]
        rw [if_pos (by omega), if_pos (by omega), if_pos (by omega), w64 (x := x + _) (by omega) (by omega), if_neg hb, w64 (by omega) (by omega)]
        rfl
      · obtain ⟨h4, h5⟩ := h3 hbt
        refine ⟨fun y hy => ?_, by omega⟩
        have e : l.drop i = rd_T46 l i :: l.drop (i + 1) := by
          rw [List.drop_eq_getElem_cons hil]
          unfold rd_T46
          rw [Int.toNat_natCast, List.getD_eq_getElem?_getD, List.getElem?_eq_getElem hil]
          rfl
        rw [e] at hy
        rcases List.mem_cons.1 hy with rfl | hy
        · have := m2 (by omega); omega
        · exact h4 y hy
theorem few_f (l : List S46) (hl : l.length ≤ 9223372036854775806) :
    ∃ b k, meridianlaw02_few.f k l = some b ∧ (b = true → (∀ y ∈ l, y.f2.size ≤ 100000) ∧ l.length ≤ 100000) := by
  obtain ⟨b, h, h2⟩ := few_l0 l hl l.length 0 0 (by omega) (by omega) (by omega)
  obtain ⟨k, hk⟩ := h.rounds
  refine ⟨b, k, hk, fun hb => ?_⟩
  obtain ⟨h3, h4⟩ := h2 hb
  rw [List.drop_zero] at h3
  exact ⟨h3, by omega⟩
end Go.Proofs.Ytlelddljamfblaa.Pk
