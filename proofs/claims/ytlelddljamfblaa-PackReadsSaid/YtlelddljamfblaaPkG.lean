/- The packer's writer: what Flag, Text and Bytes come to; and what is answered where there is no writer. -/
import Derived.Test.YtlelddljamfblaaPkF
import Derived.Outline
namespace Go.Proofs.Ytlelddljamfblaa.Pk
open Go.RowKit Go.Proofs.YtlelddljamfblaaW.PrintWords Go.Proofs.YtlelddljamfblaaW.PrintLast Go.Proofs.YtlelddljamfblaaW.PrintMore
set_option linter.unusedVariables false
set_option linter.unusedSimpArgs false

def wflag (on : Bool) (xs : List Int) (bad : Bool) : List Int × Bool := wnum (if on = true then 1 else 0) xs bad
def wtext (s : ByteArray) (xs : List Int) (bad : Bool) : List Int × Bool := if (wnum (s.size : Int) xs bad).2 = true then ((wnum (s.size : Int) xs bad).1, true) else ((wnum (s.size : Int) xs bad).1 ++ bytesOf s, false)
theorem wnum_le (n : Int) (xs : List Int) (bad : Bool) : (wnum n xs bad).1.length ≤ xs.length + 8 := by
  rcases wnum_cases n xs bad with ⟨_, e⟩ | ⟨_, _, e⟩ | ⟨_, _, _, e⟩ | ⟨h0, h1, _, e⟩
  · rw [e]; simp
  · rw [e]; simp
  · rw [e]; simp
  · rw [e]
    have := enc_len8 (n := n.toNat) (by omega)
    simp; omega

theorem WrAt.bytes {w : World} {g T : Nat} {r : List Value} {v : Value} {xs : List Int} {bad : Bool} (h : WrAt w g T r v xs bad) (e : TypeId) (s : ByteArray) : WrAt (Lib.bytesWorld w e s) g T r v xs bad := h.move fun k hk => by
  refine Lib.bytesWorld_at_old w e s k ?_
  rcases hk with rfl | hk
  · exact blk_lt h.1
  · exact own_lt h.2.1 k hk
theorem bytes_size (w : World) (e : TypeId) (s : ByteArray) : w.heap.size ≤ (Lib.bytesWorld w e s).heap.size := (bytes_below (Below.refl w.heap.size w) (Nat.le_refl _) e s).size
set_option maxHeartbeats 1000000 in
theorem wFlag_c (on : Bool) (g T : Nat) (r : List Value) (v : Value) (xs : List Int) (bad : Bool) (w : World) (h : WrAt w g T r v xs bad) (hn : xs.length ≤ 140737488350000) :
    Calls Try.prog 29 #[.pointer (some ⟨g, 0, none⟩), .bool on] w (IsWr g T r v (wflag on xs bad).1 (wflag on xs bad).2 w) := by
  cases on
  · have C := Aside0.mk (show Calls Try.prog _ _ w (IsWr g T r v (wflag false xs bad).1 (wflag false xs bad).2 w) from wNum_c 0 g T r v xs bad w h hn)
    generalize wflag false xs bad = R at *
    clear h
    go_enter Try.func29, Try.ntmps29
    go_wp2_with (refine C.out.mono ?_; rintro e w' ⟨v2, rfl, hW2, hN2, hO2⟩; have H := Aside0.mk (show IsWr g T r v R.1 R.2 w (.returned (.tuple #[])) w' from ⟨v2, rfl, hW2, hN2, hO2⟩); clear hW2 hN2 hO2)
    go_end0
    exact H.out
  · have C := Aside0.mk (show Calls Try.prog _ _ w (IsWr g T r v (wflag true xs bad).1 (wflag true xs bad).2 w) from wNum_c 1 g T r v xs bad w h hn)
    generalize wflag true xs bad = R at *
    clear h
    go_enter Try.func29, Try.ntmps29
    go_wp2_with (refine C.out.mono ?_; rintro e w' ⟨v2, rfl, hW2, hN2, hO2⟩; have H := Aside0.mk (show IsWr g T r v R.1 R.2 w (.returned (.tuple #[])) w' from ⟨v2, rfl, hW2, hN2, hO2⟩); clear hW2 hN2 hO2)
    go_end0
    exact H.out

set_option maxRecDepth 100000 in
set_option maxHeartbeats 1000000 in
theorem wText_c (s : ByteArray) (g T : Nat) (r : List Value) (v : Value) (xs : List Int) (bad : Bool) (w : World) (h : WrAt w g T r v xs bad) (hn : xs.length + s.size ≤ 140737488350000) :
    Calls Try.prog 15 #[.pointer (some ⟨g, 0, none⟩), .string s] w (IsWr g T r v (wtext s xs bad).1 (wtext s xs bad).2 w) := by
  have C := Aside0.mk (wNum_c (s.size : Int) g T r v xs bad w h (by omega))
  have HL := Aside0.mk (wnum_le (s.size : Int) xs bad)
  have HS := Aside0.mk (show s.size ≤ 9223372036854775807 by omega)
  have HD := Aside0.mk (show wtext s xs bad = if (wnum (s.size : Int) xs bad).2 = true then ((wnum (s.size : Int) xs bad).1, true) else ((wnum (s.size : Int) xs bad).1 ++ bytesOf s, false) from rfl)
  generalize wtext s xs bad = R at *
  generalize wnum (s.size : Int) xs bad = R1 at *
  obtain ⟨xs1, bad1⟩ := R1
  simp only at C HL HD
  have HN := Aside0.mk (show xs1.length + s.size ≤ 140737488355328 by have := HL.out; omega)
  clear hn h
  cases bad1
  · have E := Aside0.mk (show R = (xs1 ++ bytesOf s, false) from HD.out)
    clear HD
    have kb := fun W => print_bytes (P := Try.prog) 9 25 5 Try.underlying9 Try.underlying25 Try.underlying5 s W
    go_enter Try.func15, Try.ntmps15
    go_wp2_with (first
      | (go_at_call 10; (with_reducible refine C.out.mono ?_); rintro e w' ⟨v2, rfl, hW2, hN2, hO2⟩; have c1 := hW2.cell1; have HW2 := Aside0.mk hW2; have HN2 := Aside0.mk hN2; have HO2 := Aside0.mk hO2; clear hW2 hN2 hO2)
      | (go_at_call 28; refine (add_c g T r _ xs1 false _ s.size _ (bytesOf s) _ (HW2.out.bytes _ _) (bytes_reads _ _ _ HS.out) HN.out).mono ?_; rintro e w' ⟨v3, rfl, hW3, hN3, hO3⟩; have HW3 := Aside0.mk hW3; have HN3 := Aside0.mk hN3; have HO3 := Aside0.mk hO3; clear hW3 hN3 hO3))
    go_end0
    refine IsWr.mk E.out HW3.out (HN2.out.trans ?_ HO2.out.size) (HO2.out.trans ((Only.of_below (bytes_below (Below.refl _ _) (Nat.le_refl _) _ _) _).then_ HO3.out) (fun i hi s => WS.step HN2.out hi s))
    rcases HN3.out with e | ⟨b, e, hb⟩
    · exact .inl e
    · exact .inr ⟨b, e, Nat.le_trans (bytes_size _ _ _) hb⟩
  · have E := Aside0.mk (show R = (xs1, true) from HD.out)
    clear HD
    go_enter Try.func15, Try.ntmps15
    go_wp2_with (refine C.out.mono ?_; rintro e w' ⟨v2, rfl, hW2, hN2, hO2⟩; have c1 := hW2.cell1; have HW2 := Aside0.mk hW2; have HN2 := Aside0.mk hN2; have HO2 := Aside0.mk hO2; clear hW2 hN2 hO2)
    go_end0
    exact IsWr.mk E.out HW2.out HN2.out HO2.out

theorem wNum_nil (n : Int) (w : World) : Calls Try.prog 10 #[.pointer none, .int .i64 n] w fun e w' => e = .returned (.tuple #[]) ∧ w = w' := by
  go_enter Try.func10, Try.ntmps10
  go_wp2
  refine bodyPost_ret (results_none rfl _ _ _) rfl ?_
  exact ⟨rfl, rfl⟩
theorem wText_nil (s : ByteArray) (w : World) : Calls Try.prog 15 #[.pointer none, .string s] w fun e w' => e = .returned (.tuple #[]) ∧ w = w' := by
  go_enter Try.func15, Try.ntmps15
  go_wp2
  refine bodyPost_ret (results_none rfl _ _ _) rfl ?_
  exact ⟨rfl, rfl⟩
theorem wBytes_nil (w : World) : Calls Try.prog 11 #[.pointer none] w fun e w' => e = .returned (.tuple #[.slice none 0 0, .int .i64 1]) ∧ w = w' := by
  go_enter Try.func11, Try.ntmps11
  go_wp2
  go_ret2
  exact ⟨rfl, rfl⟩
theorem wBytes_bad (g T : Nat) (r : List Value) (v : Value) (xs : List Int) (w : World) (h : WrAt w g T r v xs true) :
    Calls Try.prog 11 #[.pointer (some ⟨g, 0, none⟩)] w fun e w' => e = .returned (.tuple #[.slice none 0 0, .int .i64 1]) ∧ w = w' := by
  have c1 := h.cell1
  clear h
  go_enter Try.func11, Try.ntmps11
  go_wp2
  go_ret2
  exact ⟨rfl, rfl⟩
/-- Bytes of a writer that isn't spoilt: a new row. -/
def IsBytes (xs : List Int) (w : World) (e : Ending) (w' : World) : Prop :=
  ∃ q c, e = .returned (.tuple #[.slice (some ⟨q, 0, none⟩) xs.length c, .int .i64 0]) ∧ w'.ownsRow w.heap.size 5 1 (.slice (some ⟨q, 0, none⟩) xs.length c) xs.length (nums .u8 xs) ∧ xs.length ≤ c ∧ c ≤ 9223372036854775807 ∧ w.heap.size ≤ q ∧ Below w.heap.size w w'
set_option maxHeartbeats 1000000 in
theorem wBytes_c (g T : Nat) (r : List Value) (v : Value) (xs : List Int) (w : World) (h : WrAt w g T r v xs false) (hn : xs.length ≤ 140737488355328) :
    Calls Try.prog 11 #[.pointer (some ⟨g, 0, none⟩)] w (IsBytes xs w) := by
  have c1 := h.cell1
  obtain ⟨A, c, rfl⟩ := own_slice h.2.1
  have HL := Aside0.mk (show (w.alloc (.cells #[] 5)).cell? ⟨g, 0, none⟩ = some (.slice A xs.length c) from (h.alloc _).cell0)
  have h0 := HL.out
  have HR := Aside0.mk (own_reads' h.2.1)
  have HO := Aside0.mk (own_lit w w.heap.size 5 .u8 [] (Nat.le_refl _) (by simp))
  clear h
  have hx : xs.length = xs.length := rfl
  go_enter Try.func11, Try.ntmps11
  go_wp2_with (at_builtin; refine print_append_row (w0 := w) w.heap.size rfl (.tmp 13) (.tmp 18) 25 5 .u8 1 rfl Try.underlying25 info_u8 (by decide) (.slice (some ⟨w.heap.size, 0, none⟩) 0 0) [] xs A xs.length c rfl rfl HO.out (HR.out.allocS _) (below_alloc (Below.refl _ _) _) (by simp) (by simpa using hn) ?_; intro v1 w1 hO hB hg hat; obtain ⟨g1, cap, rfl, k1, k2, k3, k4, k5⟩ := row_some hO (b0 := w.heap.size) rfl hat; have K3 := Aside0.mk k3; have HB := Aside0.mk hB; have HO1 := Aside0.mk hO; clear hO hg hat k3 k5 hB)
  go_ret2
  exact ⟨g1, cap, rfl, HO1.out, K3.out, k4, k1, HB.out⟩
end Go.Proofs.Ytlelddljamfblaa.Pk
