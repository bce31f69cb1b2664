/- Laws' helpers over the packer's writer: the document's example; items that are written. -/
import Derived.Test.YtlelddljamfblaaPkG
import Derived.Test.YtlelddljamfblaaPPkx2
import Derived.Outline
namespace Go.Proofs.Ytlelddljamfblaa.Pk
open Go.RowKit Go.Proofs.YtlelddljamfblaaW.PrintWords Go.Proofs.YtlelddljamfblaaW.PrintLast Go.Proofs.YtlelddljamfblaaW.PrintMore Go.Proofs.Ytlelddljamfblaa.PPk
set_option linter.unusedVariables false
set_option linter.unusedSimpArgs false

/-- A writer that was made behind w. -/
def WrNew (w w' : World) (g T : Nat) (r : List Value) (R : List Int × Bool) : Prop :=
  ∃ v, WrAt w' g T r v R.1 R.2 ∧ (∀ b, v.ownBlock = some b → w.heap.size ≤ b) ∧ w.heap.size ≤ g ∧ Below w.heap.size w w'
theorem WrNew.mk_new {w w1 : World} (hb : Below w.heap.size w w1) : WrNew w (w1.alloc (.cells #[.slice none 0 0, .bool false] 29)) w1.heap.size 29 [] ([], false) :=
  ⟨.slice none 0 0, ⟨heap_alloc_new _ _, World.ownsRow_nil _ _ _ _, by simp [Value.ownBlock]⟩, by simp [Value.ownBlock], hb.size, below_alloc hb _⟩
theorem WrNew.step {w w1 w2 : World} {g T : Nat} {r : List Value} {R2 : List Int × Bool} {e : Ending} {v : Value} (hv : ∀ b, v.ownBlock = some b → w.heap.size ≤ b) (hg : w.heap.size ≤ g) (hb : Below w.heap.size w w1) (k : IsWr g T r v R2.1 R2.2 w1 e w2) :
    e = .returned (.tuple #[]) ∧ WrNew w w2 g T r R2 := by
  obtain ⟨v2, he, hW2, hN, hO⟩ := k
  refine ⟨he, v2, hW2, fun b hb2 => ?_, hg, ⟨hO.os.trans hb.os, hO.tape.trans hb.tape, hO.output.trans hb.output, Nat.le_trans hb.size hO.size, fun i hi => (hO.block i (Nat.lt_of_lt_of_le hi hb.size) ?_).trans (hb.block i hi)⟩⟩
  · rcases hN with e | ⟨b', e, hb'⟩
    · exact hv b (e ▸ hb2)
    · rw [e] at hb2
      injection hb2 with hb2
      have := hb.size
      omega
  · rintro (rfl | e)
    · omega
    · have := hv i e
      omega
theorem num_new {w w1 : World} {g T : Nat} {r : List Value} {R : List Int × Bool} (h : WrNew w w1 g T r R) (n : Int) (hn : R.1.length ≤ 140737488350000) :
    Calls Try.prog 10 #[.pointer (some ⟨g, 0, none⟩), .int .i64 n] w1 fun e w2 => e = .returned (.tuple #[]) ∧ WrNew w w2 g T r (wnum n R.1 R.2) := by
  obtain ⟨v, hW, hv, hg, hb⟩ := h
  exact (wNum_c n g T r v R.1 R.2 w1 hW hn).mono fun e w2 k => WrNew.step hv hg hb k
theorem flag_new {w w1 : World} {g T : Nat} {r : List Value} {R : List Int × Bool} (h : WrNew w w1 g T r R) (on : Bool) (hn : R.1.length ≤ 140737488350000) :
    Calls Try.prog 29 #[.pointer (some ⟨g, 0, none⟩), .bool on] w1 fun e w2 => e = .returned (.tuple #[]) ∧ WrNew w w2 g T r (wflag on R.1 R.2) := by
  obtain ⟨v, hW, hv, hg, hb⟩ := h
  exact (wFlag_c on g T r v R.1 R.2 w1 hW hn).mono fun e w2 k => WrNew.step hv hg hb k
theorem text_new {w w1 : World} {g T : Nat} {r : List Value} {R : List Int × Bool} (h : WrNew w w1 g T r R) (s : ByteArray) (hn : R.1.length + s.size ≤ 140737488350000) :
    Calls Try.prog 15 #[.pointer (some ⟨g, 0, none⟩), .string s] w1 fun e w2 => e = .returned (.tuple #[]) ∧ WrNew w w2 g T r (wtext s R.1 R.2) := by
  obtain ⟨v, hW, hv, hg, hb⟩ := h
  exact (wText_c s g T r v R.1 R.2 w1 hW hn).mono fun e w2 k => WrNew.step hv hg hb k
/-- What Bytes of a writer answers: a new row, or nil and 1. -/
def IsWritten (R : List Int × Bool) (w : World) (e : Ending) (w' : World) : Prop :=
  (R.2 = true ∧ e = .returned (.tuple #[.slice none 0 0, .int .i64 1]) ∧ Below w.heap.size w w') ∨
  (R.2 = false ∧ ∃ q c, e = .returned (.tuple #[.slice (some ⟨q, 0, none⟩) R.1.length c, .int .i64 0]) ∧ w'.ownsRow w.heap.size 5 1 (.slice (some ⟨q, 0, none⟩) R.1.length c) R.1.length (nums .u8 R.1) ∧ R.1.length ≤ c ∧ c ≤ 9223372036854775807 ∧ w.heap.size ≤ q ∧ Below w.heap.size w w')
def GoodRow (R : List Int × Bool) (w w' : World) (q c : Nat) : Prop := w'.ownsRow w.heap.size 5 1 (.slice (some ⟨q, 0, none⟩) R.1.length c) R.1.length (nums .u8 R.1) ∧ R.1.length ≤ c ∧ c ≤ 9223372036854775807 ∧ w.heap.size ≤ q ∧ Below w.heap.size w w'
theorem IsWritten.good {R : List Int × Bool} {w w' : World} {e : Ending} (h : IsWritten R w e w') (hb : R.2 = false) : ∃ q c, e = .returned (.tuple #[.slice (some ⟨q, 0, none⟩) R.1.length c, .int .i64 0]) ∧ GoodRow R w w' q c := by
  rcases h with ⟨h, _⟩ | ⟨_, h⟩
  · rw [hb] at h; cases h
  · exact h
theorem IsWritten.spoilt {R : List Int × Bool} {w w' : World} {e : Ending} (h : IsWritten R w e w') (hb : R.2 = true) : e = .returned (.tuple #[.slice none 0 0, .int .i64 1]) ∧ Below w.heap.size w w' := by
  rcases h with ⟨_, h⟩ | ⟨h, _⟩
  · exact h
  · rw [hb] at h; cases h
theorem bytes_new {w w1 : World} {g T : Nat} {r : List Value} {R : List Int × Bool} (h : WrNew w w1 g T r R) (hn : R.1.length ≤ 140737488350000) :
    Calls Try.prog 11 #[.pointer (some ⟨g, 0, none⟩)] w1 (IsWritten R w) := by
  obtain ⟨xs, bad⟩ := R
  obtain ⟨v, hW, hv, hg, hb⟩ := h
  cases bad
  · refine (wBytes_c g T r v xs w1 hW (Nat.le_trans hn (by decide))).mono ?_
    rintro e w2 ⟨q, c, rfl, hO, h1, h2, h3, h4⟩
    exact .inr ⟨rfl, q, c, rfl, own_less hO hb.size, h1, h2, Nat.le_trans hb.size h3, below_step hb h4⟩
  · refine (wBytes_bad g T r v xs w1 hW).mono ?_
    rintro e w2 ⟨rfl, rfl⟩
    exact .inl ⟨rfl, rfl, hb⟩

theorem enc300 : wtext ⟨#[97, 98]⟩ (wnum 300 [] false).1 (wnum 300 [] false).2 = ([172, 2, 2, 97, 98], false) := by
  have e1 : wnum 300 [] false = ([172, 2], false) := by
    unfold wnum
    rw [if_neg (by decide), if_neg (by decide), show (300 : Int).toNat = 300 from rfl, enc_ge (by decide), enc_lt (by decide)]
    rfl
  rw [e1]
  have e2 : wnum ((⟨#[97, 98]⟩ : ByteArray).size : Int) [172, 2] false = ([172, 2, 2], false) := by
    unfold wnum
    rw [if_neg (by decide), if_neg (by decide), show (((⟨#[97, 98]⟩ : ByteArray).size : Nat) : Int).toNat = 2 from rfl, enc_lt (by decide)]
    rfl
  unfold wtext
  rw [e2]
  rfl
set_option maxRecDepth 100000 in
set_option maxHeartbeats 1000000 in
theorem awake_c (w : World) : Calls Try.prog 9 #[] w fun e w' => e = .returned (.bool true) ∧ Below w.heap.size w w' := by
  have H0 := Aside0.mk (WrNew.mk_new (Below.refl w.heap.size w))
  have E := Aside0.mk enc300
  have hs := fun (W : World) (q c : Nat) (h : W.ownsRow w.heap.size 5 1 (.slice (some ⟨q, 0, none⟩) 5 c) 5 (nums .u8 [172, 2, 2, 97, 98])) => own_string (P := Try.prog) Try.underlying25 Try.underlying5 Try.underlying9 h
  have HS := Aside0.mk hs
  clear hs
  go_enter Try.func9, Try.ntmps9
  go_wp2_with (first
    | (go_at_call 10; (with_reducible refine (num_new H0.out 300 (by simp)).mono ?_); rintro e w1 ⟨rfl, h1⟩; have H1 := Aside0.mk h1; clear h1)
    | (go_at_call 15; (with_reducible refine (text_new H1.out ⟨#[97, 98]⟩ (Nat.le_trans (Nat.add_le_add_right (wnum_le _ _ _) _) (by decide))).mono ?_); rintro e w2 ⟨rfl, h1⟩; rw [enc300] at h1; have H2 := Aside0.mk h1; clear h1)
    | (go_at_call 11; (with_reducible refine (bytes_new H2.out (by simp)).mono ?_); rintro e w3 (⟨h, _⟩ | ⟨_, q, c, rfl, hO, _, _, _, hB⟩); { cases h }; have hs := HS.out _ _ _ hO; have HB := Aside0.mk hB; clear hO hB))
  go_ret
  exact ⟨congrArg (fun b => Ending.returned (.bool b)) (by first | rfl | kernel_rfl | decide), HB.out⟩

/-- One item, written. -/
def wstep (R : List Int × Bool) (x : S46) : List Int × Bool := if x.f0 = 1 then wflag (x.f1 != 0) R.1 R.2 else if x.f0 = 2 then wtext x.f2 R.1 R.2 else wnum x.f1 R.1 R.2
def wall (l : List S46) : List Int × Bool := l.foldl wstep ([], false)
theorem wtext_le (s : ByteArray) (xs : List Int) (bad : Bool) : (wtext s xs bad).1.length ≤ xs.length + 8 + s.size := by
  have h := wnum_le (s.size : Int) xs bad
  unfold wtext
  split
  · simp only; omega
  · simp only [List.length_append, bytesOf_length]; omega
theorem wstep_le (R : List Int × Bool) (x : S46) (h : x.f2.size ≤ 100000) : (wstep R x).1.length ≤ R.1.length + 100008 := by
  unfold wstep
  split
  · have := wnum_le (if (x.f1 != 0) = true then 1 else 0) R.1 R.2
    unfold wflag; omega
  · split
    · have := wtext_le x.f2 R.1 R.2; omega
    · have := wnum_le x.f1 R.1 R.2; omega
theorem wall_snoc {l : List S46} {k : Nat} (h : k < l.length) : wall (l.take (k + 1)) = wstep (wall (l.take k)) (rd_T46 l k) := by
  unfold wall rd_T46
  rw [Int.toNat_natCast, List.getD_eq_getElem?_getD, List.getElem?_eq_getElem h, List.take_succ_eq_append_getElem h, List.foldl_append]
  rfl
theorem rd_mem {l : List S46} {k : Nat} (h : k < l.length) : rd_T46 l k ∈ l := by
  unfold rd_T46
  rw [Int.toNat_natCast, List.getD_eq_getElem?_getD, List.getElem?_eq_getElem h]
  exact List.getElem_mem h
theorem wall_le {l : List S46} (h : ∀ x ∈ l, x.f2.size ≤ 100000) : ∀ k, k ≤ l.length → (wall (l.take k)).1.length ≤ k * 100008 := by
  intro k
  induction k with
  | zero => intro _; simp [wall]
  | succ k ih =>
    intro hk
    rw [wall_snoc (by omega)]
    have h1 := ih (by omega)
    have h2 := wstep_le (wall (l.take k)) (rd_T46 l k) (h _ (rd_mem (by omega)))
    omega

set_option maxRecDepth 100000 in
set_option maxHeartbeats 4000000 in
theorem written_c (A : Option Addr) (c : Nat) (l : List S46) (w : World) (hr : Kd.C k46 w A l.length l) (hs : ∀ x ∈ l, x.f2.size ≤ 100000) (hl : l.length ≤ 100000) :
    Calls Try.prog 13 #[.slice A l.length c] w (IsWritten (wall l) w) := by
  have HR := Aside0.mk hr
  have HS := Aside0.mk hs
  have HL := Aside0.mk (wall_le hs)
  have HN := Aside0.mk hl
  have H0 := Aside0.mk (WrNew.mk_new (Below.refl w.heap.size w))
  have HW := Aside0.mk (show wall l = wall (l.take l.length) by rw [List.take_length])
  clear hr hs hl
  generalize hll : l.length = n at *
  have HLL := Aside0.mk hll
  clear hll
  have hn := HN.out
  go_enter Try.func13, Try.ntmps13
  go_wp2
  go_loopw [10] (fun i wr => ∃ k : Nat, i = .int .i64 k ∧ k ≤ n ∧ Aside0 (WrNew w wr w.heap.size 29 [] (wall (l.take k)))) (fun i _ => n - (intOf i).toNat)
  case atStart => exact ⟨0, rfl, by omega, H0⟩
  case round =>
    clear H0
    obtain ⟨k, rfl, hk, HV⟩ := hrel
    by_cases hlt : k < n
    · have hkl : k < l.length := by rw [HLL.out]; exact hlt
      have HA := Aside0.mk (wall_snoc hkl)
      have HB := Aside0.mk (HL.out k (by omega))
      have HX := Aside0.mk (HS.out _ (rd_mem hkl))
      obtain ⟨ad, e, c0, c1, c2⟩ := at_T46 HR.out (k : Int) (by omega) (by omega)
      cases e
      have HBel := Aside0.mk (show Below w.heap.size w wr from by obtain ⟨v, _, _, _, hb⟩ := HV.out; exact hb)
      replace c0 := (HBel.out.cell (World.block_lt_of_cell? w _ c0)).trans c0
      replace c1 := (HBel.out.cell (World.block_lt_of_cell? w _ c1)).trans c1
      replace c2 := (HBel.out.cell (World.block_lt_of_cell? w _ c2)).trans c2
      rw [Int.toNat_natCast] at c0 c1 c2
      generalize rd_T46 l k = x at *
      obtain ⟨x0, x1, x2⟩ := x
      simp only at c0 c1 c2 HX
      have i0 : 0 ≤ (k : Int) := by omega
      by_cases h1 : x0 = 1
      · subst h1
        have HC := Aside0.mk (show wall (l.take (k + 1)) = wflag (x1 != 0) (wall (l.take k)).1 (wall (l.take k)).2 from HA.out)
        go_wp2_with (refine (flag_new HV.out (x1 != 0) (by have := HB.out; have := HN.out; omega)).mono ?_; rintro e w1 ⟨rfl, h1⟩; have H1 := Aside0.mk h1; clear h1)
        go_roundw
        case rel => exact ⟨k + 1, by go_num, by omega, ⟨by rw [HC.out]; exact H1.out⟩⟩
        case measure => simp [intOf]; omega
      · have h1' : (x0 == 1) = false := by simpa using h1
        by_cases h2 : x0 = 2
        · subst h2
          have HC := Aside0.mk (show wall (l.take (k + 1)) = wtext x2 (wall (l.take k)).1 (wall (l.take k)).2 from HA.out)
          go_wp2_with (refine (text_new HV.out x2 (by have := HB.out; have := HN.out; have := HX.out; omega)).mono ?_; rintro e w1 ⟨rfl, h1⟩; have H1 := Aside0.mk h1; clear h1)
          go_roundw
          case rel => exact ⟨k + 1, by go_num, by omega, ⟨by rw [HC.out]; exact H1.out⟩⟩
          case measure => simp [intOf]; omega
        · have h2' : (x0 == 2) = false := by simpa using h2
          have HC := Aside0.mk (show wall (l.take (k + 1)) = wnum x1 (wall (l.take k)).1 (wall (l.take k)).2 by rw [HA.out]; unfold wstep; rw [if_neg h1, if_neg h2])
          clear h1 h2
          go_wp2_with (refine (num_new HV.out x1 (by have := HB.out; have := HN.out; omega)).mono ?_; rintro e w1 ⟨rfl, h1⟩; have H1 := Aside0.mk h1; clear h1)
          go_roundw
          case rel => exact ⟨k + 1, by go_num, by omega, ⟨by rw [HC.out]; exact H1.out⟩⟩
          case measure => simp [intOf]; omega
    · obtain rfl : k = n := by omega
      have H1 := HV.out
      rw [← HW.out] at H1
      have hb : (wall l).1.length ≤ 140737488350000 := by
        have := HL.out k (by omega)
        have := HN.out
        rw [HW.out]; omega
      have C := Aside0.mk (bytes_new H1 hb)
      clear H1 hb
      rcases hbad : (wall l).2 with _ | _
      · have C2 := Aside0.mk (C.out.mono fun e w' h => IsWritten.good h hbad)
        have HBAD := Aside0.mk hbad
        clear hbad
        go_wp2_with (refine C2.out.mono ?_; rintro e w1 ⟨q, cc, rfl, h⟩; have H := Aside0.mk h; clear h)
        go_ret2
        exact .inr ⟨HBAD.out, q, cc, rfl, H.out⟩
      · have C2 := Aside0.mk (C.out.mono fun e w' h => IsWritten.spoilt h hbad)
        have HBAD := Aside0.mk hbad
        clear hbad
        go_wp2_with (refine C2.out.mono ?_; rintro e w1 ⟨rfl, h⟩; have H := Aside0.mk h; clear h)
        go_ret2
        exact .inl ⟨HBAD.out, rfl, H.out⟩
end Go.Proofs.Ytlelddljamfblaa.Pk
