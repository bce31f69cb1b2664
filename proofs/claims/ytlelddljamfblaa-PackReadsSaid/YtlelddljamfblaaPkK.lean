/- The reference's Bytes: the walk; what it comes to is what the packer's writer writes. -/
import Derived.Test.YtlelddljamfblaaPkJ
import Derived.Outline
namespace Go.Proofs.Ytlelddljamfblaa.Pk
open Go.RowKit Go.Proofs.YtlelddljamfblaaW.PrintWords Go.Proofs.YtlelddljamfblaaW.PrintLast Go.Proofs.YtlelddljamfblaaW.PrintMore Go.Proofs.Ytlelddljamfblaa.PPk
set_option linter.unusedVariables false
set_option linter.unusedSimpArgs false

/-- What the reference's Bytes answers. -/
def IsWanted (R : List Int × Bool) (w : World) (e : Ending) (w' : World) : Prop :=
  (R.2 = true ∧ e = .returned (.tuple #[.slice none 0 0, .bool false]) ∧ Below w.heap.size w w') ∨
  (R.2 = false ∧ ∃ q c, e = .returned (.tuple #[.slice (some ⟨q, 0, none⟩) R.1.length c, .bool true]) ∧ GoodRow R w w' q c)
theorem IsWanted.good {R : List Int × Bool} {w w' : World} {e : Ending} (h : IsWanted R w e w') (hb : R.2 = false) : ∃ q c, e = .returned (.tuple #[.slice (some ⟨q, 0, none⟩) R.1.length c, .bool true]) ∧ GoodRow R w w' q c := by
  rcases h with ⟨h, _⟩ | ⟨_, h⟩
  · rw [hb] at h; cases h
  · exact h
theorem IsWanted.spoilt {R : List Int × Bool} {w w' : World} {e : Ending} (h : IsWanted R w e w') (hb : R.2 = true) : e = .returned (.tuple #[.slice none 0 0, .bool false]) ∧ Below w.heap.size w w' := by
  rcases h with ⟨_, h⟩ | ⟨h, _⟩
  · exact h
  · rw [hb] at h; cases h
theorem wnum_bad (n : Int) (xs : List Int) : (wnum n xs true).2 = true := by unfold wnum; split <;> rfl
theorem wstep_bad {R : List Int × Bool} (h : R.2 = true) (x : S46) : (wstep R x).2 = true := by
  obtain ⟨xs, b⟩ := R
  simp only at h
  subst h
  unfold wstep
  split
  · exact wnum_bad _ _
  · split
    · unfold wtext
      rw [if_pos (wnum_bad _ _)]
    · exact wnum_bad _ _
theorem fold_bad {R : List Int × Bool} (h : R.2 = true) : ∀ l : List S46, (l.foldl wstep R).2 = true := by
  intro l
  induction l generalizing R with
  | nil => exact h
  | cons x l ih => exact ih (wstep_bad h x)
theorem wall_bad {l : List S46} {k : Nat} (h : (wall (l.take k)).2 = true) : (wall l).2 = true := by
  have e : wall l = (l.drop k).foldl wstep (wall (l.take k)) := by
    unfold wall
    rw [← List.foldl_append, List.take_append_drop]
  rw [e]
  exact fold_bad h _
theorem wnum_good {n : Int} (h0 : 0 ≤ n) (h1 : n ≤ 9007199254740992) (xs : List Int) : wnum n xs false = (xs ++ enc n.toNat, false) := by
  unfold wnum
  rw [if_neg (by omega), if_neg (by simp)]
theorem wnum_out {n : Int} (h : n < 0 ∨ 9007199254740992 < n) (xs : List Int) : (wnum n xs false).2 = true := by
  unfold wnum
  rw [if_pos h]
theorem DigAt.row {w w1 : World} {v v1 : Value} {acc ys : List Int} {wr : World} (h : DigAt w wr v acc) (hO : w1.ownsRow w.heap.size 5 1 v1 (acc ++ ys).length (nums .u8 (acc ++ ys))) (hB : Below w.heap.size w w1) (hat : v1.ownBlock = v.ownBlock ∨ ∃ b, v1.ownBlock = some b ∧ wr.heap.size ≤ b) : DigAt w w1 v1 (acc ++ ys) := by
  refine ⟨hO, ?_, hB⟩
  rcases hat with e | ⟨b, e, _⟩
  · rw [e]; exact h.2.1
  · exact ⟨b, e⟩
theorem DigAt.below {w w1 wr : World} {v : Value} {acc : List Int} (h : DigAt w wr v acc) (hB : Below wr.heap.size wr w1) : DigAt w w1 v acc := ⟨pw_own_below h.1 hB, h.2.1, below_step h.2.2 hB⟩
theorem DigAt.reads {wr : World} {R : List Int × Bool} {w1 : World} {q c : Nat} (h : GoodRow R w1 wr q c) : ReadsInt wr .u8 (some ⟨q, 0, none⟩) R.1.length R.1 := own_reads' h.1
theorem DigAt.of_pos {w w1 : World} {v : Value} {acc : List Int} (hO : w1.ownsRow w.heap.size 5 1 v acc.length (nums .u8 acc)) (h0 : 0 < acc.length) (hB : Below w.heap.size w w1) : DigAt w w1 v acc := by
  obtain ⟨g, cap, rfl, _, _⟩ := hO.form h0
  exact ⟨hO, ⟨g, rfl⟩, hB⟩
theorem some_row {w wr : World} {v : Value} {acc : List Int} (h : DigAt w wr v acc) : ∃ q c, v = .slice (some ⟨q, 0, none⟩) acc.length c ∧ GoodRow (acc, false) w wr q c := by
  obtain ⟨h1, ⟨b, h2⟩, h3⟩ := h
  exact GoodRow.mk (R := (acc, false)) h1 h3 h2

set_option maxRecDepth 100000 in
set_option maxHeartbeats 8000000 in
theorem refBytes_c (A : Option Addr) (c : Nat) (l : List S46) (w : World) (hr : Kd.C k46 w A l.length l) (hs : ∀ x ∈ l, x.f2.size ≤ 100000) (hl : l.length ≤ 100000) :
    Calls Try.prog 14 #[.slice A l.length c] w (IsWanted (wall l) w) := by
  have HR := Aside0.mk hr
  have HS := Aside0.mk hs
  have HL := Aside0.mk (wall_le hs)
  have HN := Aside0.mk hl
  have HW := Aside0.mk (show wall l = wall (l.take l.length) by rw [List.take_length])
  have H0 := Aside0.mk (show DigAt w (w.alloc (.cells #[] 5)) (.slice (some ⟨w.heap.size, 0, none⟩) 0 0) [] from ⟨own_lit w w.heap.size 5 .u8 [] (Nat.le_refl _) (by simp), ⟨_, rfl⟩, below_alloc (Below.refl _ _) _⟩)
  clear hr hs hl
  generalize hll : l.length = n at *
  have HLL := Aside0.mk hll
  clear hll
  have hn := HN.out
  go_enter Try.func14, Try.ntmps14
  go_wp2
  go_loopw [4, 5] (fun v i wr => ∃ (k : Nat), i = .int .i64 k ∧ k ≤ n ∧ Aside0 ((wall (l.take k)).2 = false) ∧ Aside0 (DigAt w wr v (wall (l.take k)).1)) (fun _ i _ => n - (intOf i).toNat)
  case atStart => exact ⟨0, rfl, by omega, ⟨rfl⟩, H0⟩
  case round =>
    clear H0
    obtain ⟨k, rfl, hk, HG, HD⟩ := hrel
    by_cases hlt : k < n
    · have hkl : k < l.length := by rw [HLL.out]; exact hlt
      have HA := Aside0.mk (wall_snoc hkl)
      have HX := Aside0.mk (HS.out _ (rd_mem hkl))
      have HBD := Aside0.mk (HL.out k (by omega))
      obtain ⟨ad, e, c0, c1, c2⟩ := at_T46 HR.out (k : Int) (by omega) (by omega)
      cases e
      have HBel := Aside0.mk HD.out.2.2
      have K1 := Aside0.mk c1
      have K2 := Aside0.mk c2
      replace c0 := (HBel.out.cell (World.block_lt_of_cell? w _ c0)).trans c0
      replace c1 := (HBel.out.cell (World.block_lt_of_cell? w _ c1)).trans c1
      replace c2 := (HBel.out.cell (World.block_lt_of_cell? w _ c2)).trans c2
      rw [Int.toNat_natCast] at c0 c1 c2; replace K1 := Aside0.mk (by have := K1.out; rw [Int.toNat_natCast] at this; exact this); replace K2 := Aside0.mk (by have := K2.out; rw [Int.toNat_natCast] at this; exact this)
      generalize rd_T46 l k = x at *
      obtain ⟨x0, x1, x2⟩ := x
      simp only at c0 c1 c2 HX
      have i0 : 0 ≤ (k : Int) := by omega
      have HAcc := HG.out
      generalize hRk : wall (l.take k) = R at *
      obtain ⟨acc, bad⟩ := R
      simp only at HG HD HBD HAcc
      subst HAcc
      have HRk := Aside0.mk hRk
      clear hRk HG
      have hb1 := Aside0.mk (show (acc.length + 1) * 1 ≤ 140737488355328 by have := HBD.out; omega)
      by_cases h1 : x0 = 1
      · subst h1
        by_cases h3 : x1 = 0
        · subst h3
          have HC := Aside0.mk (show wall (l.take (k + 1)) = (acc ++ [0], false) by
            rw [HA.out]; show wnum 0 acc false = _; rw [wnum_good (by decide) (by decide), show (0 : Int).toNat = 0 from rfl, enc_lt (by decide)]; rfl)
          go_wp2_with (at_builtin; refine print_append_num (w0 := w) w.heap.size rfl (.tmp 47) (.tmp 48) 25 5 .u8 1 rfl Try.underlying25 info_u8 (by decide) u4 acc 0 rfl rfl HD.out.1 HD.out.2.2 HD.out.2.2.size hb1.out ?_; intro v1 w1 hO hB hg hat; have HX := Aside0.mk (HD.out.row hO hB hat); clear hO hB hg hat)
          go_roundw
          case rel => exact ⟨k + 1, by go_num, by omega, ⟨by rw [HC.out]⟩, ⟨by rw [HC.out]; exact HX.out⟩⟩
          case measure => simp [intOf]; omega
        · have h3' : (x1 == 0) = false := by simpa using h3
          have h3'' : (x1 != 0) = true := by simpa using h3
          have HC := Aside0.mk (show wall (l.take (k + 1)) = (acc ++ [1], false) by
            rw [HA.out]; show wflag (x1 != 0) acc false = _; rw [h3'']; show wnum 1 acc false = _; rw [wnum_good (by decide) (by decide), show (1 : Int).toNat = 1 from rfl, enc_lt (by decide)]; rfl)
          clear h3
          go_wp2_with (at_builtin; refine print_append_num (w0 := w) w.heap.size rfl (.tmp 44) (.tmp 45) 25 5 .u8 1 rfl Try.underlying25 info_u8 (by decide) u4 acc 1 rfl rfl HD.out.1 HD.out.2.2 HD.out.2.2.size hb1.out ?_; intro v1 w1 hO hB hg hat; have HX := Aside0.mk (HD.out.row hO hB hat); clear hO hB hg hat)
          go_roundw
          case rel => exact ⟨k + 1, by go_num, by omega, ⟨by rw [HC.out]⟩, ⟨by rw [HC.out]; exact HX.out⟩⟩
          case measure => simp [intOf]; omega
      · have h1' : (x0 == 1) = false := by simpa using h1
        by_cases h2 : x0 = 2
        · subst h2
          have HSz := Aside0.mk (show x2.size ≤ 9007199254740992 by have := HX.out; omega)
          have HC := Aside0.mk (show wall (l.take (k + 1)) = (acc ++ enc x2.size ++ bytesOf x2, false) by
            rw [HA.out]; show wtext x2 acc false = _; unfold wtext; rw [wnum_good (by omega) (by have := HSz.out; omega)]; rfl)
          have hb2 := Aside0.mk (show (acc.length + (enc x2.size).length) * 1 ≤ 140737488355328 by have := HBD.out; have := enc_len8 HSz.out; omega)
          have hb3 := Aside0.mk (show (acc ++ enc x2.size).length + x2.size ≤ 140737488355328 by have := HBD.out; have := enc_len8 HSz.out; have := HX.out; rw [List.length_append]; omega)
          go_wp2_with (first
            | (go_at_call 30; (with_reducible refine (digits_ok x2.size HSz.out _).mono ?_); rintro e w1 ⟨q, d, rfl, hG⟩; have HG2 := Aside0.mk hG; have HD2 := Aside0.mk (HD.out.below hG.2.2.2.2); have cc2 := (HD2.out.2.2.cell (World.block_lt_of_cell? w _ K2.out)).trans K2.out; clear hG)
            | ((with_reducible refine gate_builtin (b := .append) (xs := #[.tmp 64, .tmp 65]) rfl ?_); at_builtin; refine print_append_row (w0 := w) w.heap.size rfl (.tmp 64) (.tmp 65) 25 5 .u8 1 rfl Try.underlying25 info_u8 (by decide) u4 acc (enc x2.size) (some ⟨q, 0, none⟩) (enc x2.size).length d rfl rfl HD2.out.1 (DigAt.reads HG2.out) HD2.out.2.2 HD2.out.2.2.size hb2.out ?_; intro v1 w2 hO hB hg hat; have HX3 := Aside0.mk (HD2.out.row hO hB hat); have cc3 := (HX3.out.2.2.cell (World.block_lt_of_cell? w _ K2.out)).trans K2.out; clear hO hB hg hat)
            | ((with_reducible refine gate_builtin (b := .append) (xs := #[.tmp 67, .tmp 72]) rfl ?_); at_builtin; refine print_append_str (w0 := w) w.heap.size rfl (.tmp 67) (.tmp 72) 25 9 5 rfl Try.underlying25 Try.underlying9 info_u8 v1 (acc ++ enc x2.size) x2 rfl rfl HX3.out.1 HX3.out.2.2 HX3.out.2.2.size hb3.out ?_; intro v2 w3 hO hB hg; have HX4 := Aside0.mk (DigAt.of_pos hO (by have := enc_pos x2.size; simp only [List.length_append]; omega) hB); clear hO hB hg))
          go_roundw
          case rel => exact ⟨k + 1, by go_num, by omega, ⟨by rw [HC.out]⟩, ⟨by rw [HC.out]; exact HX4.out⟩⟩
          case measure => simp [intOf]; omega
        · have h2' : (x0 == 2) = false := by simpa using h2
          have HC := Aside0.mk (show wall (l.take (k + 1)) = wnum x1 acc false by
            rw [HA.out]; unfold wstep; rw [if_neg h1, if_neg h2])
          clear h1 h2
          by_cases h3 : x1 < 0 ∨ 9007199254740992 < x1
          · have HZ := Aside0.mk (show (wall l).2 = true from wall_bad (k := k + 1) (by rw [HC.out]; exact wnum_out h3 acc))
            go_wp2_with (go_at_call 30; (with_reducible refine (digits_no x1 h3 _).mono ?_); rintro e w1 ⟨rfl, rfl⟩)
            go_ret2
            exact .inl ⟨HZ.out, rfl, HBel.out⟩
          · obtain ⟨m, rfl⟩ := Int.eq_ofNat_of_zero_le (show 0 ≤ x1 by omega)
            have HM := Aside0.mk (show m ≤ 9007199254740992 by omega)
            clear h3
            have HC2 := Aside0.mk (show wall (l.take (k + 1)) = (acc ++ enc m, false) by rw [HC.out, wnum_good (by omega) (by have := HM.out; omega)]; rfl)
            have hb2 := Aside0.mk (show (acc.length + (enc m).length) * 1 ≤ 140737488355328 by have := HBD.out; have := enc_len8 HM.out; omega)
            go_wp2_with (first
              | (go_at_call 30; (with_reducible refine (digits_ok m HM.out _).mono ?_); rintro e w1 ⟨q, d, rfl, hG⟩; have HG2 := Aside0.mk hG; have HD2 := Aside0.mk (HD.out.below hG.2.2.2.2); clear hG)
              | (at_builtin; refine print_append_row (w0 := w) w.heap.size rfl (.tmp 33) (.tmp 34) 25 5 .u8 1 rfl Try.underlying25 info_u8 (by decide) u4 acc (enc m) (some ⟨q, 0, none⟩) (enc m).length d rfl rfl HD2.out.1 (DigAt.reads HG2.out) HD2.out.2.2 HD2.out.2.2.size hb2.out ?_; intro v1 w2 hO hB hg hat; have HX3 := Aside0.mk (HD2.out.row hO hB hat); clear hO hB hg hat))
            go_roundw
            case rel => exact ⟨k + 1, by go_num, by omega, ⟨by rw [HC2.out]⟩, ⟨by rw [HC2.out]; exact HX3.out⟩⟩
            case measure => simp [intOf]; omega
    · obtain rfl : k = n := by omega
      have HD1 := HD.out
      have HG1 := HG.out
      rw [← HW.out] at HD1 HG1
      obtain ⟨q, d, rfl, hG⟩ := some_row HD1
      have HX := Aside0.mk hG
      have HY := Aside0.mk HG1
      clear HD1 HG1 hG
      go_wp2
      go_ret2
      exact .inr ⟨HY.out, q, d, rfl, HX.out⟩
end Go.Proofs.Ytlelddljamfblaa.Pk
