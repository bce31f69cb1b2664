/- Part 2 of the texts that walk the program and tell its laws, joined in the order of their building. No conditions. -/
import Derived.Test.YtcbehfbfaonanaaJb0
import Derived.Outline
import Derived.Deep.MidRow
import Derived.Deep.WholeRow
import Derived.Deep.RegionHeld3
import Derived.Test.YtcbehfbfaonanaaWEqStruct
import Derived.Deep.LoopGhost
import Derived.Deep.QuietTactic
import Derived.BigQuiet
import Derived.Test.YtcbehfbfaonanaaWGuard
import Derived.Test.YtcbehfbfaonanaaProg
import Derived.Below
import Derived.Deep.Draws
import Derived.Deep.AppendLies
import Derived.Maps.AppendAt
import Derived.OwnWalk
import Derived.Laws.BytesArg
import Derived.Laws.MakeOwn
import Derived.Laws.OwnMore
import Derived.Deep.OwnRows
import Derived.Tactics
import Derived.Lib.ConvBytes
import Derived.Laws.Slices
import Derived.WalkKit
import Derived.KernelRfl
import Derived.RowKit3
import Derived.WideLaws
import Derived.Deep.DeepCutAuto
import Derived.Deep.CutBlock
import Derived.Laws.Rows
import Derived.Lib.AppendStr
import Derived.ArgAppend
import Derived.Laws.IdiomCopy
import Derived.OrdersHeld
import Derived.Laws.BitsLemmas
import Derived.RowKit
import Derived.Lib.SlBytesConst
import Derived.Test.YtcbehfbfaonanaaWWords
import Derived.Test.YtcbehfbfaonanaaWLast
import Derived.Test.YtcbehfbfaonanaaWTab
import Derived.Test.YtcbehfbfaonanaaWFour
import Derived.Test.YtcbehfbfaonanaaWQPut
import Derived.Test.YtcbehfbfaonanaaWApart
import Derived.Test.YtcbehfbfaonanaaWArr
import Derived.Test.YtcbehfbfaonanaaWZeros
import Derived.Test.YtcbehfbfaonanaaWFoot
import Derived.Test.YtcbehfbfaonanaaWKept
import Derived.Test.YtcbehfbfaonanaaWShare
import Derived.Test.YtcbehfbfaonanaaWN
import Derived.Test.YtcbehfbfaonanaaWFootNe
import Derived.Test.YtcbehfbfaonanaaWAt
import Derived.Test.YtcbehfbfaonanaaWRepsOne
import Derived.Test.YtcbehfbfaonanaaWInv
import Derived.Test.YtcbehfbfaonanaaWInvWords
import Derived.Test.YtcbehfbfaonanaaWNEv
import Derived.Test.YtcbehfbfaonanaaWMore
/- The form that writes: what its four methods come to. -/
section
namespace Go.Proofs.Ytcbehfbfaonanaa.Wr
open Go.RowKit Go.Proofs.YtcbehfbfaonanaaW.PrintWords Go.Proofs.YtcbehfbfaonanaaW.PrintLast Go.Proofs.YtcbehfbfaonanaaW.PrintMore Go.Proofs.Ytcbehfbfaonanaa.Pk
set_option linter.unusedVariables false
set_option linter.unusedSimpArgs false

/-- The writer's state as it is seen: its bytes, whether the packer is spoilt, whether a bound was broken. -/
abbrev OSt := List Int × Bool × Bool
def OInv (g : Nat) (s : OSt) (w : World) : Prop := ∃ v, WrAt w g 83 [.bool s.2.2] v s.1 s.2.1
def OOwn (g : Nat) (h : Array Obj) (k : Nat) : Prop := k = g ∨ ∃ cs T, h[g]? = some (.cells cs T (0, 0)) ∧ ∃ v, cs[0]? = some v ∧ v.ownBlock = some k
theorem OOwn.of {g : Nat} {w : World} {T : TypeId} {r : List Value} {v : Value} {xs : List Int} {bad : Bool} (h : WrAt w g T r v xs bad) (k : Nat) : OOwn g w.heap k ↔ WS g v k := by
  have e : ([v, .bool bad] ++ r).toArray[0]? = some v := by simp
  constructor
  · rintro (e' | ⟨cs, T', hb, v', hv, hk⟩)
    · exact .inl e'
    · rw [h.1] at hb
      injection hb with hb
      injection hb with hb
      subst hb
      rw [e] at hv
      injection hv with hv
      subst hv
      exact .inr hk
  · rintro (e' | hk)
    · exact .inl e'
    · exact .inr ⟨_, _, h.1, v, e, hk⟩
theorem WrAt.third {w : World} {g T : Nat} {o : Bool} {v : Value} {xs : List Int} {bad : Bool} (h : WrAt w g T [.bool o] v xs bad) (o' : Bool) : WrAt (w.setCell ⟨g, 2, none⟩ (.bool o')) g T [.bool o'] v xs bad :=
  ⟨by rw [blk_set h.1]; simp, own_setCell h.2.1 (p := ⟨g, 2, none⟩) (Ne.symm h.2.2) _, h.2.2⟩
theorem WrAt.cell2 {w : World} {g T : Nat} {o : Bool} {v : Value} {xs : List Int} {bad : Bool} (h : WrAt w g T [.bool o] v xs bad) : w.cell? ⟨g, 2, none⟩ = some (.bool o) := by rw [blk_cell h.1]; rfl

/-- What the writer's methods come to. -/
def onum (s : OSt) (n lo hi : Int) : OSt := ((wnum n s.1 s.2.1).1, (wnum n s.1 s.2.1).2, s.2.2 || decide (n < lo) || decide (hi < n))
def oflag (s : OSt) (x : Bool) : OSt := ((wflag x s.1 s.2.1).1, (wflag x s.1 s.2.1).2, s.2.2)
def otext (s : OSt) (x : ByteArray) (most : Int) : OSt := ((wtext x s.1 s.2.1).1, (wtext x s.1 s.2.1).2, s.2.2 || decide (most < (x.size : Int)))
def ocount (s : OSt) (n most : Int) : OSt := ((wnum n s.1 s.2.1).1, (wnum n s.1 s.2.1).2, s.2.2 || decide (most < n))
def oForm (g : Nat) : Form where
  ty := 77
  v := .pointer (some ⟨g, 0, none⟩)
  k := fun n => if n = 0 then 39 else if n = 1 then 103 else if n = 2 then 104 else 102
  σ := OSt
  Inv := OInv g
  own := OOwn g
  room := fun s => s.1.length
  num := fun s n lo hi => (onum s n lo hi, n)
  flag := fun s x => (oflag s x, x)
  text := fun s x most => (otext s x most, x)
  count := fun s n most => (ocount s n most, n)

/-- A writer's call that leaves the cell as it was, seen as a step. -/
theorem OStep {g b i : Nat} {s s' : OSt} {cs : Array Value} {T : TypeId} {u : Value} {w w' : World} {d : Nat} {v v' : Value} (h : WrAt w g 83 [.bool s.2.2] v s.1 s.2.1) (hb : w.heap[b]? = some (.cells cs T (0, 0))) (hc : cs[i]? = some u) (ho : ¬ OOwn g w.heap b)
    (h' : WrAt w' g 83 [.bool s'.2.2] v' s'.1 s'.2.1) (hN : NewRow w v v') (hO : Only (WS g v) w w') (hr : s'.1.length ≤ s.1.length + d) : Stepped (oForm g) s s' [(⟨b, i, none⟩, u)] d w w' := by
  refine ⟨⟨v', h'⟩, fun k hk ho' => (OOwn.of h k).2 (WS.step hN hk ((OOwn.of h' k).1 ho')), ?_, hr⟩
  refine ⟨hO.os, hO.tape, hO.output, hO.size, fun k hk hn => ?_⟩
  rw [hO.block k hk (fun hs => hn ((OOwn.of h k).2 hs))]
  exact (setCell_self hb hc k).symm
theorem OStep0 {g : Nat} {s s' : OSt} {w w' : World} {d : Nat} {v v' : Value} (h : WrAt w g 83 [.bool s.2.2] v s.1 s.2.1)
    (h' : WrAt w' g 83 [.bool s'.2.2] v' s'.1 s'.2.1) (hN : NewRow w v v') (hO : Only (WS g v) w w') (hr : s'.1.length ≤ s.1.length + d) : Stepped (oForm g) s s' [] d w w' :=
  ⟨⟨v', h'⟩, fun k hk ho' => (OOwn.of h k).2 (WS.step hN hk ((OOwn.of h' k).1 ho')), ⟨hO.os, hO.tape, hO.output, hO.size, fun k hk hn => hO.block k hk (fun hs => hn ((OOwn.of h k).2 hs))⟩, hr⟩

theorem OStep.of {g b i : Nat} {s s' : OSt} {cs : Array Value} {T : TypeId} {u : Value} {w w' : World} {d : Nat} {v : Value} {e : Ending} (h : WrAt w g 83 [.bool s.2.2] v s.1 s.2.1) (hb : w.heap[b]? = some (.cells cs T (0, 0))) (hc : cs[i]? = some u) (ho : ¬ OOwn g w.heap b)
    (h' : IsWr g 83 [.bool s'.2.2] v s'.1 s'.2.1 w e w') (hr : s'.1.length ≤ s.1.length + d) : Did (oForm g) s s' [(⟨b, i, none⟩, u)] d w e w' := by
  obtain ⟨v', rfl, h1, h2, h3⟩ := h'
  exact ⟨rfl, OStep h hb hc ho h1 h2 h3 hr⟩
theorem IsWr.undrew {g T : Nat} {r : List Value} {v : Value} {xs : List Int} {bad : Bool} {w w' : World} {e : Ending} (h : IsWr g T r v xs bad w.drew e w') : IsWr g T r v xs bad w e w' := by
  obtain ⟨v', rfl, h1, h2, h3⟩ := h
  exact ⟨v', rfl, h1, h2, h3.os, h3.tape, h3.output, h3.size, h3.block⟩
theorem keepCell {g b i T0 : Nat} {r : List Value} {bad : Bool} {xs : List Int} {cs : Array Value} {T : TypeId} {u : Value} {w : World} {v : Value} (h : WrAt w g T0 r v xs bad) (hb : w.heap[b]? = some (.cells cs T (0, 0))) (hc : cs[i]? = some u) (ho : ¬ OOwn g w.heap b) :
    ∀ w' : World, Only (WS g v) w w' → w'.cell? ⟨b, i, none⟩ = some u := fun w' hO => hO.cell ((blk_cell hb i).trans hc) (fun hs => ho ((OOwn.of h b).2 hs))
theorem wtext_le (x : ByteArray) (xs : List Int) (bad : Bool) : (wtext x xs bad).1.length ≤ xs.length + (8 + x.size) := by
  have h := wnum_le (x.size : Int) xs bad
  unfold wtext
  split
  · dsimp only; omega
  · rw [List.length_append, show (bytesOf x).length = x.size by simp [bytesOf]]; omega
set_option maxRecDepth 100000 in
set_option maxHeartbeats 2000000 in
theorem oflag_c (g b i : Nat) (s : OSt) (w : World) (cs : Array Value) (T : TypeId) (x : Bool) (hI : OInv g s w) (ho : ¬ OOwn g w.heap b) (hr : s.1.length + 8 ≤ cap) (hb : w.heap[b]? = some (.cells cs T (0, 0))) (hc : cs[i]? = some (.bool x)) :
    Calls Try.prog 103 #[.pointer (some ⟨g, 0, none⟩), .pointer (some ⟨b, i, none⟩)] w (Did (oForm g) s (oflag s x) [(⟨b, i, none⟩, .bool x)] 8 w) := by
  obtain ⟨v, hW⟩ := hI
  suffices hs : Calls Try.prog 103 #[.pointer (some ⟨g, 0, none⟩), .pointer (some ⟨b, i, none⟩)] w (IsWr g 83 [.bool s.2.2] v (wflag x s.1 s.2.1).1 (wflag x s.1 s.2.1).2 w) from hs.mono fun e w' h' => OStep.of (s' := oflag s x) hW hb hc ho h' (wnum_le _ _ _)
  have C := Aside0.mk (wFlag_c x g 83 [.bool s.2.2] v s.1 s.2.1 w.drew hW (by unfold cap at hr; omega))
  have HK := Aside0.mk (keepCell hW hb hc ho)
  have c0 : w.cell? ⟨b, i, none⟩ = some (.bool x) := (blk_cell hb i).trans hc
  generalize wflag x s.1 s.2.1 = R at *
  clear hW hb hc ho hr
  go_enter Try.func103, Try.ntmps103
  go_region_held3 (fun W => W.cell? ⟨b, i, none⟩ = some (.bool x)) (go_keep) ((go_at_call 101; (with_reducible refine C.out.mono ?_); rintro e w' ⟨v2, rfl, hW2, hN2, hO2⟩; have H := Aside0.mk (show IsWr g 83 [.bool s.2.2] v R.1 R.2 w.drew (.returned (.tuple #[])) w' from ⟨v2, rfl, hW2, hN2, hO2⟩); have cc := HK.out w' ⟨hO2.os, hO2.tape, hO2.output, hO2.size, hO2.block⟩; clear hW2 hN2 hO2))
  go_wp2
  go_end0
  exact IsWr.undrew H.out
theorem IsWr.unset {g : Nat} {o o' : Bool} {v : Value} {xs ys : List Int} {bad bad' : Bool} {w w' : World} {e : Ending} (h0 : WrAt w g 83 [.bool o] v ys bad') (h : IsWr g 83 [.bool o'] v xs bad (w.setCell ⟨g, 2, none⟩ (.bool o')).drew e w') : IsWr g 83 [.bool o'] v xs bad w e w' := by
  obtain ⟨v', rfl, h1, h2, h3⟩ := IsWr.undrew h
  refine ⟨v', rfl, h1, ?_, ((Only.refl (WS g v) w).set (.inr (.inl rfl)) _).then_ h3⟩
  rcases h2 with h2 | ⟨b, h2, h4⟩
  · exact .inl h2
  · exact .inr ⟨b, h2, by rwa [World.size_setCell] at h4⟩
theorem OOwn.set {g b : Nat} {w : World} {T : TypeId} {o : Bool} {v : Value} {xs : List Int} {bad : Bool} (h : WrAt w g T [.bool o] v xs bad) (ho : ¬ OOwn g w.heap b) (o' : Bool) : ¬ OOwn g (w.setCell ⟨g, 2, none⟩ (.bool o')).heap b :=
  fun h' => ho ((OOwn.of h b).2 ((OOwn.of (WrAt.third h o') b).1 h'))
set_option maxRecDepth 100000 in
set_option maxHeartbeats 2000000 in
theorem onum_c (g b i : Nat) (s : OSt) (w : World) (cs : Array Value) (T : TypeId) (n lo hi : Int) (hI : OInv g s w) (ho : ¬ OOwn g w.heap b) (hr : s.1.length + 8 ≤ cap) (hb : w.heap[b]? = some (.cells cs T (0, 0))) (hc : cs[i]? = some (.int .i64 n)) :
    Calls Try.prog 39 #[.pointer (some ⟨g, 0, none⟩), .pointer (some ⟨b, i, none⟩), .int .i64 lo, .int .i64 hi] w (Did (oForm g) s (onum s n lo hi) [(⟨b, i, none⟩, .int .i64 n)] 8 w) := by
  obtain ⟨v, hW⟩ := hI
  obtain ⟨xs, bad, o⟩ := s
  dsimp only at hW hr
  obtain ⟨o', ho'⟩ : ∃ o', o' = (o || decide (n < lo) || decide (hi < n)) := ⟨_, rfl⟩
  suffices hs : Calls Try.prog 39 #[.pointer (some ⟨g, 0, none⟩), .pointer (some ⟨b, i, none⟩), .int .i64 lo, .int .i64 hi] w (IsWr g 83 [.bool o'] v (wnum n xs bad).1 (wnum n xs bad).2 w) from hs.mono fun e w' h' => OStep.of (s := (xs, bad, o)) (s' := onum (xs, bad, o) n lo hi) hW hb hc ho (by rw [ho'] at h'; exact h') (wnum_le _ _ _)
  have C := Aside0.mk (fun o' => wNum_c n g 83 [.bool o'] v xs bad (w.setCell ⟨g, 2, none⟩ (.bool o')).drew (WrAt.third hW o') (by unfold cap at hr; omega))
  have hgb : b ≠ g := fun e => ho (.inl e)
  have hb' : ∀ o', (w.setCell ⟨g, 2, none⟩ (.bool o')).heap[b]? = some (.cells cs T (0, 0)) := fun o' => (Below.heap_setCell _ _ _ _ hgb).trans hb
  have HK := Aside0.mk (fun o' => keepCell (WrAt.third hW o') (hb' o') hc (OOwn.set hW ho o'))
  have c0 : w.cell? ⟨b, i, none⟩ = some (.int .i64 n) := (blk_cell hb i).trans hc
  have HC1 := Aside0.mk (fun o' => (blk_cell (hb' o') i).trans hc)
  have cg2 := WrAt.cell2 hW
  have fg2 := hW.frozen 2
  have HW := Aside0.mk hW
  generalize wnum n xs bad = R at *
  clear hW hb hb' hc ho hr
  cases o
  · by_cases h1 : n < lo
    · skip
      obtain rfl : o' = true := by rw [ho']; simp [h1]
      clear ho'
      have C' := Aside0.mk (C.out true)
      have HK' := Aside0.mk (HK.out true)
      have c1 := HC1.out true
      go_enter Try.func39, Try.ntmps39
      go_wp2
      go_region_held3 (fun W => W.cell? ⟨b, i, none⟩ = some (.int .i64 n)) (go_keep) ((go_at_call 62; (with_reducible refine C'.out.mono ?_); rintro e w' ⟨v2, rfl, hW2, hN2, hO2⟩; have H := Aside0.mk (show IsWr g 83 [.bool true] v R.1 R.2 (w.setCell ⟨g, 2, none⟩ (.bool true)).drew (.returned (.tuple #[])) w' from ⟨v2, rfl, hW2, hN2, hO2⟩); have cc := HK'.out w' ⟨hO2.os, hO2.tape, hO2.output, hO2.size, hO2.block⟩; clear hW2 hN2 hO2))
      go_wp2
      go_end0
      exact IsWr.unset HW.out H.out
    · by_cases h2 : hi < n
      · skip
        obtain rfl : o' = true := by rw [ho']; simp [h2]
        clear ho'
        have C' := Aside0.mk (C.out true)
        have HK' := Aside0.mk (HK.out true)
        have c1 := HC1.out true
        go_enter Try.func39, Try.ntmps39
        go_wp2
        go_region_held3 (fun W => W.cell? ⟨b, i, none⟩ = some (.int .i64 n)) (go_keep) ((go_at_call 62; (with_reducible refine C'.out.mono ?_); rintro e w' ⟨v2, rfl, hW2, hN2, hO2⟩; have H := Aside0.mk (show IsWr g 83 [.bool true] v R.1 R.2 (w.setCell ⟨g, 2, none⟩ (.bool true)).drew (.returned (.tuple #[])) w' from ⟨v2, rfl, hW2, hN2, hO2⟩); have cc := HK'.out w' ⟨hO2.os, hO2.tape, hO2.output, hO2.size, hO2.block⟩; clear hW2 hN2 hO2))
        go_wp2
        go_end0
        exact IsWr.unset HW.out H.out
      · skip
        obtain rfl : o' = false := by rw [ho']; simp [Int.not_lt.1 h1, Int.not_lt.1 h2]
        clear ho'
        have C' := Aside0.mk (C.out false)
        have HK' := Aside0.mk (HK.out false)
        have c1 := HC1.out false
        go_enter Try.func39, Try.ntmps39
        go_wp2
        go_region_held3 (fun W => W.cell? ⟨b, i, none⟩ = some (.int .i64 n)) (go_keep) ((go_at_call 62; (with_reducible refine C'.out.mono ?_); rintro e w' ⟨v2, rfl, hW2, hN2, hO2⟩; have H := Aside0.mk (show IsWr g 83 [.bool false] v R.1 R.2 (w.setCell ⟨g, 2, none⟩ (.bool false)).drew (.returned (.tuple #[])) w' from ⟨v2, rfl, hW2, hN2, hO2⟩); have cc := HK'.out w' ⟨hO2.os, hO2.tape, hO2.output, hO2.size, hO2.block⟩; clear hW2 hN2 hO2))
        go_wp2
        go_end0
        exact IsWr.unset HW.out H.out
  · skip
    obtain rfl : o' = true := by rw [ho']; simp []
    clear ho'
    have C' := Aside0.mk (C.out true)
    have HK' := Aside0.mk (HK.out true)
    have c1 := HC1.out true
    go_enter Try.func39, Try.ntmps39
    go_wp2
    go_region_held3 (fun W => W.cell? ⟨b, i, none⟩ = some (.int .i64 n)) (go_keep) ((go_at_call 62; (with_reducible refine C'.out.mono ?_); rintro e w' ⟨v2, rfl, hW2, hN2, hO2⟩; have H := Aside0.mk (show IsWr g 83 [.bool true] v R.1 R.2 (w.setCell ⟨g, 2, none⟩ (.bool true)).drew (.returned (.tuple #[])) w' from ⟨v2, rfl, hW2, hN2, hO2⟩); have cc := HK'.out w' ⟨hO2.os, hO2.tape, hO2.output, hO2.size, hO2.block⟩; clear hW2 hN2 hO2))
    go_wp2
    go_end0
    exact IsWr.unset HW.out H.out

set_option maxRecDepth 100000 in
set_option maxHeartbeats 2000000 in
theorem ocount_c (g : Nat) (s : OSt) (w : World) (n hi : Int) (hI : OInv g s w) (hr : s.1.length + 8 ≤ cap) :
    Calls Try.prog 102 #[.pointer (some ⟨g, 0, none⟩), .int .i64 n, .int .i64 hi] w (fun e w' => e = .returned (.int .i64 n) ∧ Stepped (oForm g) s (ocount s n hi) [] 8 w w') := by
  obtain ⟨v, hW⟩ := hI
  obtain ⟨xs, bad, o⟩ := s
  dsimp only at hW hr
  obtain ⟨o', ho'⟩ : ∃ o', o' = (o || decide (hi < n)) := ⟨_, rfl⟩
  suffices hs : Calls Try.prog 102 #[.pointer (some ⟨g, 0, none⟩), .int .i64 n, .int .i64 hi] w (fun e w' => e = .returned (.int .i64 n) ∧ IsWr g 83 [.bool o'] v (wnum n xs bad).1 (wnum n xs bad).2 w (.returned (.tuple #[])) w') from hs.mono fun e w' h' => by
    obtain ⟨he, v', _, h1, h2, h3⟩ := h'
    refine ⟨he, OStep0 (s' := ocount (xs, bad, o) n hi) hW (by rw [ho'] at h1; exact h1) h2 h3 (wnum_le _ _ _)⟩
  have C := Aside0.mk (fun o' => wNum_c n g 83 [.bool o'] v xs bad (w.setCell ⟨g, 2, none⟩ (.bool o')) (WrAt.third hW o') (by unfold cap at hr; omega))
  have cg2 := WrAt.cell2 hW
  have fg2 := hW.frozen 2
  have HW := Aside0.mk hW
  generalize wnum n xs bad = R at *
  clear hW hr
  cases o
  · by_cases h2 : hi < n
    · skip
      obtain rfl : o' = true := by rw [ho']; simp [h2]
      clear ho'
      have C' := Aside0.mk (C.out true)
      go_enter Try.func102, Try.ntmps102
      go_wp2_with (go_at_call 62; (with_reducible refine C'.out.mono ?_); rintro e w' ⟨v2, rfl, hW2, hN2, hO2⟩; have H := Aside0.mk (show IsWr g 83 [.bool true] v R.1 R.2 (w.setCell ⟨g, 2, none⟩ (.bool true)).drew (.returned (.tuple #[])) w' from ⟨v2, rfl, hW2, hN2.imp id id, hO2.os, hO2.tape, hO2.output, hO2.size, hO2.block⟩); clear hW2 hN2 hO2)
      go_ret
      exact ⟨rfl, IsWr.unset HW.out H.out⟩
    · skip
      obtain rfl : o' = false := by rw [ho']; simp [Int.not_lt.1 h2]
      clear ho'
      have C' := Aside0.mk (C.out false)
      go_enter Try.func102, Try.ntmps102
      go_wp2_with (go_at_call 62; (with_reducible refine C'.out.mono ?_); rintro e w' ⟨v2, rfl, hW2, hN2, hO2⟩; have H := Aside0.mk (show IsWr g 83 [.bool false] v R.1 R.2 (w.setCell ⟨g, 2, none⟩ (.bool false)).drew (.returned (.tuple #[])) w' from ⟨v2, rfl, hW2, hN2.imp id id, hO2.os, hO2.tape, hO2.output, hO2.size, hO2.block⟩); clear hW2 hN2 hO2)
      go_ret
      exact ⟨rfl, IsWr.unset HW.out H.out⟩
  · skip
    obtain rfl : o' = true := by rw [ho']; simp []
    clear ho'
    have C' := Aside0.mk (C.out true)
    go_enter Try.func102, Try.ntmps102
    go_wp2_with (go_at_call 62; (with_reducible refine C'.out.mono ?_); rintro e w' ⟨v2, rfl, hW2, hN2, hO2⟩; have H := Aside0.mk (show IsWr g 83 [.bool true] v R.1 R.2 (w.setCell ⟨g, 2, none⟩ (.bool true)).drew (.returned (.tuple #[])) w' from ⟨v2, rfl, hW2, hN2.imp id id, hO2.os, hO2.tape, hO2.output, hO2.size, hO2.block⟩); clear hW2 hN2 hO2)
    go_ret
    exact ⟨rfl, IsWr.unset HW.out H.out⟩

set_option maxRecDepth 100000 in
set_option maxHeartbeats 2000000 in
theorem otext_c (g b i : Nat) (s : OSt) (w : World) (cs : Array Value) (T : TypeId) (x : ByteArray) (hi : Int) (hI : OInv g s w) (ho : ¬ OOwn g w.heap b) (hr : s.1.length + 8 + x.size ≤ cap) (hb : w.heap[b]? = some (.cells cs T (0, 0))) (hc : cs[i]? = some (.string x)) :
    Calls Try.prog 104 #[.pointer (some ⟨g, 0, none⟩), .pointer (some ⟨b, i, none⟩), .int .i64 hi] w (Did (oForm g) s (otext s x hi) [(⟨b, i, none⟩, .string x)] (8 + x.size) w) := by
  obtain ⟨v, hW⟩ := hI
  obtain ⟨xs, bad, o⟩ := s
  dsimp only at hW hr
  obtain ⟨o', ho'⟩ : ∃ o', o' = (o || decide (hi < (x.size : Int))) := ⟨_, rfl⟩
  suffices hs : Calls Try.prog 104 #[.pointer (some ⟨g, 0, none⟩), .pointer (some ⟨b, i, none⟩), .int .i64 hi] w (IsWr g 83 [.bool o'] v (wtext x xs bad).1 (wtext x xs bad).2 w) from hs.mono fun e w' h' => OStep.of (s := (xs, bad, o)) (s' := otext (xs, bad, o) x hi) hW hb hc ho (by rw [ho'] at h'; exact h') (wtext_le _ _ _)
  have C := Aside0.mk (fun o' => wText_c x g 83 [.bool o'] v xs bad (w.setCell ⟨g, 2, none⟩ (.bool o')).drew (WrAt.third hW o') (by unfold cap at hr; omega))
  have hgb : b ≠ g := fun e => ho (.inl e)
  have hb' : ∀ o', (w.setCell ⟨g, 2, none⟩ (.bool o')).heap[b]? = some (.cells cs T (0, 0)) := fun o' => (Below.heap_setCell _ _ _ _ hgb).trans hb
  have HK := Aside0.mk (fun o' => keepCell (WrAt.third hW o') (hb' o') hc (OOwn.set hW ho o'))
  have c0 : w.cell? ⟨b, i, none⟩ = some (.string x) := (blk_cell hb i).trans hc
  have HC1 := Aside0.mk (fun o' => (blk_cell (hb' o') i).trans hc)
  have cg2 := WrAt.cell2 hW
  have fg2 := hW.frozen 2
  have HW := Aside0.mk hW
  have hx : (x.size : Int) ≤ 9223372036854775807 := by unfold cap at hr; omega
  generalize wtext x xs bad = R at *
  clear hW hb hb' hc ho hr
  cases o
  · by_cases h2 : hi < (x.size : Int)
    · skip
      obtain rfl : o' = true := by rw [ho']; simp [h2]
      clear ho'
      have C' := Aside0.mk (C.out true)
      have HK' := Aside0.mk (HK.out true)
      have c1 := HC1.out true
      go_enter Try.func104, Try.ntmps104
      go_wp2
      go_region_held3 (fun W => W.cell? ⟨b, i, none⟩ = some (.string x)) (go_keep) ((go_at_call 105; (with_reducible refine C'.out.mono ?_); rintro e w' ⟨v2, rfl, hW2, hN2, hO2⟩; have H := Aside0.mk (show IsWr g 83 [.bool true] v R.1 R.2 (w.setCell ⟨g, 2, none⟩ (.bool true)).drew (.returned (.tuple #[])) w' from ⟨v2, rfl, hW2, hN2, hO2⟩); have cc := HK'.out w' ⟨hO2.os, hO2.tape, hO2.output, hO2.size, hO2.block⟩; clear hW2 hN2 hO2))
      go_wp2
      go_end0
      exact IsWr.unset HW.out H.out
    · skip
      obtain rfl : o' = false := by rw [ho']; simp [Int.not_lt.1 h2]
      clear ho'
      have C' := Aside0.mk (C.out false)
      have HK' := Aside0.mk (HK.out false)
      have c1 := HC1.out false
      go_enter Try.func104, Try.ntmps104
      go_wp2
      go_region_held3 (fun W => W.cell? ⟨b, i, none⟩ = some (.string x)) (go_keep) ((go_at_call 105; (with_reducible refine C'.out.mono ?_); rintro e w' ⟨v2, rfl, hW2, hN2, hO2⟩; have H := Aside0.mk (show IsWr g 83 [.bool false] v R.1 R.2 (w.setCell ⟨g, 2, none⟩ (.bool false)).drew (.returned (.tuple #[])) w' from ⟨v2, rfl, hW2, hN2, hO2⟩); have cc := HK'.out w' ⟨hO2.os, hO2.tape, hO2.output, hO2.size, hO2.block⟩; clear hW2 hN2 hO2))
      go_wp2
      go_end0
      exact IsWr.unset HW.out H.out
  · skip
    obtain rfl : o' = true := by rw [ho']; simp []
    clear ho'
    have C' := Aside0.mk (C.out true)
    have HK' := Aside0.mk (HK.out true)
    have c1 := HC1.out true
    go_enter Try.func104, Try.ntmps104
    go_wp2
    go_region_held3 (fun W => W.cell? ⟨b, i, none⟩ = some (.string x)) (go_keep) ((go_at_call 105; (with_reducible refine C'.out.mono ?_); rintro e w' ⟨v2, rfl, hW2, hN2, hO2⟩; have H := Aside0.mk (show IsWr g 83 [.bool true] v R.1 R.2 (w.setCell ⟨g, 2, none⟩ (.bool true)).drew (.returned (.tuple #[])) w' from ⟨v2, rfl, hW2, hN2, hO2⟩); have cc := HK'.out w' ⟨hO2.os, hO2.tape, hO2.output, hO2.size, hO2.block⟩; clear hW2 hN2 hO2))
    go_wp2
    go_end0
    exact IsWr.unset HW.out H.out

set_option maxRecDepth 100000 in
theorem oGood (g : Nat) : (oForm g).Good where
  lt := fun {s w k} hI ho => by
    obtain ⟨v, hW⟩ := hI
    rcases (OOwn.of hW k).1 ho with rfl | hk
    · exact blk_lt hW.1
    · exact own_lt hW.2.1 k hk
  move := fun {s w w'} hI hm _ => by
    obtain ⟨v, hW⟩ := hI
    exact ⟨v, hW.move fun k hk => hm k ((OOwn.of hW k).2 hk)⟩
  own_move := fun {s w w'} hI hm k hk => by
    obtain ⟨v, hW⟩ := hI
    exact (OOwn.of hW k).2 ((OOwn.of (hW.move fun k hk => hm k ((OOwn.of hW k).2 hk)) k).1 hk)
  ahead := fun n m hn hm w => by
    obtain rfl | rfl | rfl | rfl : n = 0 ∨ n = 1 ∨ n = 2 ∨ n = 3 := by omega
    all_goals subst hm; rfl
  method := fun n m hn hm w => by
    obtain rfl | rfl | rfl | rfl : n = 0 ∨ n = 1 ∨ n = 2 ∨ n = 3 := by omega
    all_goals subst hm; rfl
  enter := fun n hn args w => by
    obtain rfl | rfl | rfl | rfl : n = 0 ∨ n = 1 ∨ n = 2 ∨ n = 3 := by omega
    all_goals rfl
  num_c := fun s w b i cs T n lo hi hI ho hr hb hc => onum_c g b i s w cs T n lo hi hI ho hr hb hc
  flag_c := fun s w b i cs T x hI ho hr hb hc => oflag_c g b i s w cs T x hI ho hr hb hc
  text_c := fun s w b i cs T x most hI ho hr hb hc => otext_c g b i s w cs T x most hI ho hr hb hc
  count_c := fun s w n most hI hr _ _ => ocount_c g s w n most hI hr
  count_lim := fun s n most hn _ => ⟨hn, .inl rfl⟩
end Go.Proofs.Ytcbehfbfaonanaa.Wr
end

/- The form that reads: what its four methods come to. -/
section
namespace Go.Proofs.Ytcbehfbfaonanaa.Wr
open Go.RowKit Go.Proofs.YtcbehfbfaonanaaW.PrintWords Go.Proofs.YtcbehfbfaonanaaW.PrintLast Go.Proofs.YtcbehfbfaonanaaW.PrintMore Go.Proofs.Ytcbehfbfaonanaa.Pk
set_option linter.unusedVariables false
set_option linter.unusedSimpArgs false

/-- The reader's state as it is seen: the bytes that are left, whether the packer is spoilt, whether a bound was broken. -/
abbrev ISt := List Int × Bool × Bool
/-- The reader at block g, its packer at block r, the bytes in block q. -/
structure IInv (g r q : Nat) (s : ISt) (w : World) : Prop where
  blk : w.heap[g]? = some (.cells #[.pointer (some ⟨r, 0, none⟩), .bool s.2.2] 110 (0, 0))
  rd : RdAt w r q s.1 s.2.1
  bytes : ∀ x ∈ s.1, IsB x
  ner : g ≠ r
  neq : g ≠ q
def IOwn (g r q : Nat) (_ : Array Obj) (k : Nat) : Prop := k = g ∨ k = r ∨ k = q
variable {g r q b i : Nat} {s : ISt} {w w' : World} {cs : Array Value} {T : TypeId} {u v : Value} {bs : List Int} {bad o : Bool}
theorem IInv.lt (h : IInv g r q s w) {k : Nat} (hk : IOwn g r q w.heap k) : k < w.heap.size := by
  rcases hk with rfl | rfl | rfl
  · exact blk_lt h.blk
  · obtain ⟨off, c, hb, _⟩ := h.rd; exact blk_lt hb
  · obtain ⟨off, c, hb, _, _, _, hq, _⟩ := h.rd; exact hq
theorem IInv.move (h : IInv g r q s w) (hm : ∀ k, IOwn g r q w.heap k → w'.heap[k]? = w.heap[k]?) : IInv g r q s w' :=
  ⟨(hm g (.inl rfl)).trans h.blk, h.rd.move fun k hk => hm k (.inr hk), h.bytes, h.ner, h.neq⟩
/-- What the reader's methods come to. -/
def inum (s : ISt) (lo hi : Int) : ISt := ((rnum s.1 s.2.1).2.1, (rnum s.1 s.2.1).2.2, s.2.2 || decide ((rnum s.1 s.2.1).1 < lo) || decide (hi < (rnum s.1 s.2.1).1))
def iflag (s : ISt) : ISt := ((rflag s.1 s.2.1).2.1, (rflag s.1 s.2.1).2.2, s.2.2)
def itext (s : ISt) (most : Int) : ISt := ((rtext most s.1 s.2.1).2.1, (rtext most s.1 s.2.1).2.2, s.2.2)
def icount (s : ISt) (most : Int) : ISt := ((rcount most s.1 s.2.1).2.1, (rcount most s.1 s.2.1).2.2, s.2.2)
def iForm (g r q : Nat) : Form where
  ty := 106
  v := .pointer (some ⟨g, 0, none⟩)
  k := fun n => if n = 0 then 59 else if n = 1 then 108 else if n = 2 then 109 else 107
  σ := ISt
  Inv := IInv g r q
  own := IOwn g r q
  room := fun _ => 0
  num := fun s _ lo hi => (inum s lo hi, (rnum s.1 s.2.1).1)
  flag := fun s _ => (iflag s, (rflag s.1 s.2.1).1)
  text := fun s _ most => (itext s most, strOfNums (rtext most s.1 s.2.1).1)
  count := fun s _ most => (icount s most, (rcount most s.1 s.2.1).1)
theorem drop_mem {bs : List Int} {p : Int → Prop} (h : ∀ x ∈ bs, p x) (m : Nat) : ∀ x ∈ bs.drop m, p x := fun x hx => h x (List.mem_of_mem_drop hx)
theorem rflag_mem {bs : List Int} {bad : Bool} {p : Int → Prop} (h : ∀ x ∈ bs, p x) : ∀ x ∈ (rflag bs bad).2.1, p x := by
  unfold rflag
  split
  · exact h
  · split
    · intro x hx; nomatch hx
    · rename_i c t
      split
      · exact fun x hx => h x (.tail _ hx)
      · exact fun x hx => h x (.tail _ hx)
theorem rtext_mem {most : Int} {bs : List Int} {bad : Bool} {p : Int → Prop} (h : ∀ x ∈ bs, p x) : ∀ x ∈ (rtext most bs bad).2.1, p x := by
  unfold rtext
  split
  · exact rnum_mem h
  · exact drop_mem (rnum_mem h) _
theorem rcount_mem {most : Int} {bs : List Int} {bad : Bool} {p : Int → Prop} (h : ∀ x ∈ bs, p x) : ∀ x ∈ (rcount most bs bad).2.1, p x := by
  unfold rcount
  split
  · exact rnum_mem h
  · exact rnum_mem h

/-- A reader's call and the storing of what came, seen as a step. -/
theorem IStep (h : IInv g r q s w) (hb : w.heap[b]? = some (.cells cs T (0, 0))) (ho : ¬ IOwn g r q w.heap b) (hR : RdAt w' r q bs bad) (hB : ∀ x ∈ bs, IsB x) (hO : Only (· = r) w w') (u : Value) :
    Stepped (iForm g r q) s (bs, bad, s.2.2) [(⟨b, i, none⟩, u)] 8 w (w'.setCell ⟨b, i, none⟩ u) := by
  have hg : w'.heap[g]? = w.heap[g]? := hO.block g (blk_lt h.blk) h.ner
  have hbg : g ≠ b := fun e => ho (.inl e.symm)
  refine ⟨⟨(Below.heap_setCell _ _ _ _ hbg).trans (hg.trans h.blk), hR.move fun k hk => Below.heap_setCell _ _ _ _ (fun e => ho (.inr (by have e' : k = b := e; rw [← e']; exact hk))), hB, h.ner, h.neq⟩, fun k _ hk => hk, ⟨hO.os, hO.tape, hO.output, by rw [World.size_setCell]; exact hO.size, fun k hk hn => setCell_congr (hO.block k hk (fun e => hn (.inr (.inl e)))) _ _⟩, Nat.zero_le _⟩
theorem IStep2 (h : IInv g r q s w) (hb : w.heap[b]? = some (.cells cs T (0, 0))) (ho : ¬ IOwn g r q w.heap b) (hR : RdAt w' r q bs bad) (hB : ∀ x ∈ bs, IsB x) (hO : Only (· = r) w w') (u : Value) (o : Bool) :
    Stepped (iForm g r q) s (bs, bad, o) [(⟨b, i, none⟩, u)] 8 w ((w'.setCell ⟨b, i, none⟩ u).setCell ⟨g, 1, none⟩ (.bool o)) := by
  have K := IStep (i := i) h hb ho hR hB hO u
  refine ⟨⟨by rw [blk_set K.inv.blk]; rfl, K.inv.rd.move fun k hk => Below.heap_setCell _ _ _ _ (fun e => ?_), hB, h.ner, h.neq⟩, fun k _ hk => hk, ⟨K.wrote.os, K.wrote.tape, K.wrote.output, by rw [World.size_setCell]; exact K.wrote.size, fun k hk hn => (Below.heap_setCell _ _ _ _ (fun e => hn (.inl e))).trans (K.wrote.block k hk hn)⟩, Nat.zero_le _⟩
  have e' : k = g := e
  rcases hk with hk | hk
  · exact h.ner (e'.symm.trans hk)
  · exact h.neq (e'.symm.trans hk)
theorem IStep0 (h : IInv g r q s w) (hR : RdAt w' r q bs bad) (hB : ∀ x ∈ bs, IsB x) (hO : Only (· = r) w w') : Stepped (iForm g r q) s (bs, bad, s.2.2) [] 8 w w' :=
  ⟨⟨(hO.block g (blk_lt h.blk) h.ner).trans h.blk, hR, hB, h.ner, h.neq⟩, fun k _ hk => hk, ⟨hO.os, hO.tape, hO.output, hO.size, fun k hk hn => hO.block k hk (fun e => hn (.inr (.inl e)))⟩, Nat.zero_le _⟩
/-- What a reader's call leaves as it was. -/
theorem IKeep (h : IInv g r q s w) (hb : w.heap[b]? = some (.cells cs T (0, 0))) (hc : cs[i]? = some v) (ho : ¬ IOwn g r q w.heap b) :
    ∀ w' : World, Only (· = r) w w' → w'.cell? ⟨b, i, none⟩ = some v ∧ w'.frozen? ⟨b, i, none⟩ = false ∧ w'.cell? ⟨g, 1, none⟩ = some (.bool s.2.2) ∧ w'.frozen? ⟨g, 1, none⟩ = false := fun w' hO => by
  have h1 := hO.blk hb (fun e => ho (.inr (.inl e)))
  have h2 := hO.blk h.blk h.ner
  exact ⟨(blk_cell h1 i).trans hc, blk_frozen h1 i, (blk_cell h2 1).trans rfl, blk_frozen h2 1⟩

set_option maxRecDepth 100000 in
set_option maxHeartbeats 2000000 in
theorem iflag_c (g r q b i : Nat) (s : ISt) (w : World) (cs : Array Value) (T : TypeId) (x : Bool) (hI : IInv g r q s w) (ho : ¬ IOwn g r q w.heap b) (hb : w.heap[b]? = some (.cells cs T (0, 0))) (hc : cs[i]? = some (.bool x)) :
    Calls Try.prog 108 #[.pointer (some ⟨g, 0, none⟩), .pointer (some ⟨b, i, none⟩)] w (Did (iForm g r q) s (iflag s) [(⟨b, i, none⟩, .bool (rflag s.1 s.2.1).1)] 8 w) := by
  have C := Aside0.mk (rFlag_c r q s.1 s.2.1 w hI.rd hI.bytes)
  have HK := Aside0.mk (IKeep hI hb hc ho)
  have HS := Aside0.mk (fun (w' : World) (bs : List Int) (bad : Bool) (hR : RdAt w' r q bs bad) (hB : ∀ x ∈ bs, IsB x) (hO : Only (· = r) w w') (u : Value) => IStep (i := i) hI hb ho hR hB hO u)
  have HM := Aside0.mk (rflag_mem (bad := s.2.1) hI.bytes)
  have cg : w.cell? ⟨g, 0, none⟩ = some (.pointer (some ⟨r, 0, none⟩)) := (blk_cell hI.blk 0).trans rfl
  have e : iflag s = ((rflag s.1 s.2.1).2.1, (rflag s.1 s.2.1).2.2, s.2.2) := rfl
  rw [e]
  clear e
  generalize rflag s.1 s.2.1 = R at *
  clear hI hb hc ho
  go_enter Try.func108, Try.ntmps108
  go_wp2_with (go_at_call 106; (with_reducible refine C.out.mono ?_); rintro e w' ⟨rfl, hR, hO⟩; obtain ⟨k1, k2, k3, k4⟩ := HK.out w' hO; have HR := Aside0.mk hR; have HO := Aside0.mk hO; clear hR hO)
  go_end0
  exact ⟨rfl, HS.out _ _ _ HR.out HM.out HO.out _⟩
set_option maxRecDepth 100000 in
set_option maxHeartbeats 2000000 in
theorem itext_c (g r q b i : Nat) (s : ISt) (w : World) (cs : Array Value) (T : TypeId) (x : ByteArray) (most : Int) (hI : IInv g r q s w) (ho : ¬ IOwn g r q w.heap b) (hb : w.heap[b]? = some (.cells cs T (0, 0))) (hc : cs[i]? = some (.string x)) :
    Calls Try.prog 109 #[.pointer (some ⟨g, 0, none⟩), .pointer (some ⟨b, i, none⟩), .int .i64 most] w (Did (iForm g r q) s (itext s most) [(⟨b, i, none⟩, .string (strOfNums (rtext most s.1 s.2.1).1))] 8 w) := by
  have C := Aside0.mk (rText_c most r q s.1 s.2.1 w hI.rd hI.bytes)
  have HK := Aside0.mk (IKeep hI hb hc ho)
  have HS := Aside0.mk (fun (w' : World) (bs : List Int) (bad : Bool) (hR : RdAt w' r q bs bad) (hB : ∀ x ∈ bs, IsB x) (hO : Only (· = r) w w') (u : Value) => IStep (i := i) hI hb ho hR hB hO u)
  have HM := Aside0.mk (rtext_mem (most := most) (bad := s.2.1) hI.bytes)
  have cg : w.cell? ⟨g, 0, none⟩ = some (.pointer (some ⟨r, 0, none⟩)) := (blk_cell hI.blk 0).trans rfl
  have e : itext s most = ((rtext most s.1 s.2.1).2.1, (rtext most s.1 s.2.1).2.2, s.2.2) := rfl
  rw [e]
  clear e
  generalize rtext most s.1 s.2.1 = R at *
  clear hI hb hc ho
  go_enter Try.func109, Try.ntmps109
  go_wp2_with (go_at_call 111; (with_reducible refine C.out.mono ?_); rintro e w' ⟨rfl, hR, hO⟩; obtain ⟨k1, k2, k3, k4⟩ := HK.out w' hO; have HR := Aside0.mk hR; have HO := Aside0.mk hO; clear hR hO)
  go_end0
  exact ⟨rfl, HS.out _ _ _ HR.out HM.out HO.out _⟩
set_option maxRecDepth 100000 in
set_option maxHeartbeats 2000000 in
theorem icount_c (g r q : Nat) (s : ISt) (w : World) (n most : Int) (hI : IInv g r q s w) :
    Calls Try.prog 107 #[.pointer (some ⟨g, 0, none⟩), .int .i64 n, .int .i64 most] w (fun e w' => e = .returned (.int .i64 (rcount most s.1 s.2.1).1) ∧ Stepped (iForm g r q) s (icount s most) [] 8 w w') := by
  have C := Aside0.mk (rCount_c most r q s.1 s.2.1 w hI.rd hI.bytes)
  have HS := Aside0.mk (fun (w' : World) (bs : List Int) (bad : Bool) (hR : RdAt w' r q bs bad) (hB : ∀ x ∈ bs, IsB x) (hO : Only (· = r) w w') => IStep0 hI hR hB hO)
  have HM := Aside0.mk (rcount_mem (most := most) (bad := s.2.1) hI.bytes)
  have cg : w.cell? ⟨g, 0, none⟩ = some (.pointer (some ⟨r, 0, none⟩)) := (blk_cell hI.blk 0).trans rfl
  have e : icount s most = ((rcount most s.1 s.2.1).2.1, (rcount most s.1 s.2.1).2.2, s.2.2) := rfl
  rw [e]
  clear e
  generalize rcount most s.1 s.2.1 = R at *
  clear hI
  go_enter Try.func107, Try.ntmps107
  go_wp2_with (go_at_call 110; (with_reducible refine C.out.mono ?_); rintro e w' ⟨rfl, hR, hO⟩; have HR := Aside0.mk hR; have HO := Aside0.mk hO; clear hR hO)
  go_ret
  exact ⟨rfl, HS.out _ _ _ HR.out HM.out HO.out⟩
set_option maxRecDepth 100000 in
set_option maxHeartbeats 2000000 in
theorem inum_c (g r q b i : Nat) (s : ISt) (w : World) (cs : Array Value) (T : TypeId) (n lo hi : Int) (hI : IInv g r q s w) (ho : ¬ IOwn g r q w.heap b) (hb : w.heap[b]? = some (.cells cs T (0, 0))) (hc : cs[i]? = some (.int .i64 n)) :
    Calls Try.prog 59 #[.pointer (some ⟨g, 0, none⟩), .pointer (some ⟨b, i, none⟩), .int .i64 lo, .int .i64 hi] w (Did (iForm g r q) s (inum s lo hi) [(⟨b, i, none⟩, .int .i64 (rnum s.1 s.2.1).1)] 8 w) := by
  have C := Aside0.mk (rNum_c r q s.1 s.2.1 w hI.rd hI.bytes)
  have HK := Aside0.mk (IKeep hI hb hc ho)
  have HS := Aside0.mk (fun (w' : World) (bs : List Int) (bad : Bool) (hR : RdAt w' r q bs bad) (hB : ∀ x ∈ bs, IsB x) (hO : Only (· = r) w w') (u : Value) (o : Bool) => IStep2 (i := i) hI hb ho hR hB hO u o)
  have HM := Aside0.mk (rnum_mem (bad := s.2.1) hI.bytes)
  have cg : w.cell? ⟨g, 0, none⟩ = some (.pointer (some ⟨r, 0, none⟩)) := (blk_cell hI.blk 0).trans rfl
  have hbg : b ≠ g := fun e => ho (.inl e)
  have e : inum s lo hi = ((rnum s.1 s.2.1).2.1, (rnum s.1 s.2.1).2.2, s.2.2 || decide ((rnum s.1 s.2.1).1 < lo) || decide (hi < (rnum s.1 s.2.1).1)) := rfl
  rw [e]
  clear e
  generalize rnum s.1 s.2.1 = R at *
  clear hI hb hc ho
  obtain ⟨bs, bad, o⟩ := s
  dsimp only at *
  obtain ⟨n', R2⟩ := R
  dsimp only at *
  obtain ⟨o', ho'⟩ : ∃ o', (o || decide (n' < lo) || decide (hi < n')) = o' := ⟨_, rfl⟩
  rw [ho']
  cases o
  · by_cases h1 : n' < lo
    · skip
      obtain rfl : o' = true := by rw [← ho']; simp [h1]
      clear ho'
      go_enter Try.func59, Try.ntmps59
      go_wp2_with (go_at_call 75; (with_reducible refine C.out.mono ?_); rintro e w' ⟨rfl, hR, hO⟩; obtain ⟨k1, k2, k3, k4⟩ := HK.out w' hO; have k5 := k3; have HR := Aside0.mk hR; have HO := Aside0.mk hO; clear hR hO)
      go_end0
      exact ⟨rfl, HS.out _ _ _ HR.out HM.out HO.out _ _⟩
    · by_cases h2 : hi < n'
      · skip
        obtain rfl : o' = true := by rw [← ho']; simp [h2]
        clear ho'
        go_enter Try.func59, Try.ntmps59
        go_wp2_with (go_at_call 75; (with_reducible refine C.out.mono ?_); rintro e w' ⟨rfl, hR, hO⟩; obtain ⟨k1, k2, k3, k4⟩ := HK.out w' hO; have k5 := k3; have HR := Aside0.mk hR; have HO := Aside0.mk hO; clear hR hO)
        go_end0
        exact ⟨rfl, HS.out _ _ _ HR.out HM.out HO.out _ _⟩
      · skip
        obtain rfl : o' = false := by rw [← ho']; simp [Int.not_lt.1 h1, Int.not_lt.1 h2]
        clear ho'
        have d1 : decide (n' < lo) = false := decide_eq_false h1
        have d2 : decide (hi < n') = false := decide_eq_false h2
        go_enter Try.func59, Try.ntmps59
        go_wp2_with (go_at_call 75; (with_reducible refine C.out.mono ?_); rintro e w' ⟨rfl, hR, hO⟩; obtain ⟨k1, k2, k3, k4⟩ := HK.out w' hO; have k5 := k3; have HR := Aside0.mk hR; have HO := Aside0.mk hO; clear hR hO)
        go_end0
        exact ⟨rfl, HS.out _ _ _ HR.out HM.out HO.out _ _⟩
  · skip
    obtain rfl : o' = true := by rw [← ho']; simp []
    clear ho'
    go_enter Try.func59, Try.ntmps59
    go_wp2_with (go_at_call 75; (with_reducible refine C.out.mono ?_); rintro e w' ⟨rfl, hR, hO⟩; obtain ⟨k1, k2, k3, k4⟩ := HK.out w' hO; have k5 := k3; have HR := Aside0.mk hR; have HO := Aside0.mk hO; clear hR hO)
    go_end0
    exact ⟨rfl, HS.out _ _ _ HR.out HM.out HO.out _ _⟩

theorem rcount_lim (bs : List Int) (bad : Bool) (most : Int) (hm : 0 ≤ most) : 0 ≤ (rcount most bs bad).1 ∧ (rcount most bs bad).1 ≤ most := by
  have h0 := rnum_nonneg bs bad
  unfold rcount
  split
  · exact ⟨Int.le_refl _, hm⟩
  · exact ⟨h0, by omega⟩
set_option maxRecDepth 100000 in
theorem iGood (g r q : Nat) : (iForm g r q).Good where
  lt := fun {s w k} hI ho => IInv.lt hI ho
  move := fun {s w w'} hI hm _ => IInv.move hI hm
  own_move := fun {s w w'} hI hm k hk => hk
  ahead := fun n m hn hm w => by
    obtain rfl | rfl | rfl | rfl : n = 0 ∨ n = 1 ∨ n = 2 ∨ n = 3 := by omega
    all_goals subst hm; rfl
  method := fun n m hn hm w => by
    obtain rfl | rfl | rfl | rfl : n = 0 ∨ n = 1 ∨ n = 2 ∨ n = 3 := by omega
    all_goals subst hm; rfl
  enter := fun n hn args w => by
    obtain rfl | rfl | rfl | rfl : n = 0 ∨ n = 1 ∨ n = 2 ∨ n = 3 := by omega
    all_goals rfl
  num_c := fun s w b i cs T n lo hi hI ho _ hb hc => inum_c g r q b i s w cs T n lo hi hI ho hb hc
  flag_c := fun s w b i cs T x hI ho _ hb hc => iflag_c g r q b i s w cs T x hI ho hb hc
  text_c := fun s w b i cs T x most hI ho _ hb hc => (itext_c g r q b i s w cs T x most hI ho hb hc).mono fun e w' h => ⟨h.1, h.2.inv, h.2.own, h.2.wrote, Nat.zero_le _⟩
  count_c := fun s w n most hI _ _ _ => icount_c g r q s w n most hI
  count_lim := fun s n most hn hm => ⟨(rcount_lim s.1 s.2.1 most hm).1, .inr (rcount_lim s.1 s.2.1 most hm).2⟩
end Go.Proofs.Ytcbehfbfaonanaa.Wr
end

/- What a script costs, and what it leaves as it was. -/
section
namespace Go.Proofs.Ytcbehfbfaonanaa.Wr
open Go.RowKit Go.Proofs.YtcbehfbfaonanaaW.PrintWords Go.Proofs.YtcbehfbfaonanaaW.PrintLast Go.Proofs.YtcbehfbfaonanaaW.PrintMore Go.Proofs.Ytcbehfbfaonanaa.Pk
set_option linter.unusedVariables false
set_option linter.unusedSimpArgs false

/-- A form under which texts don't grow past N. -/
structure Form.Tame (F : Form) (J : F.σ → Prop) (N : Nat) : Prop where
  num : ∀ {s n lo hi}, J s → J (F.num s n lo hi).1
  flag : ∀ {s x}, J s → J (F.flag s x).1
  text : ∀ {s x most}, J s → x.size ≤ N → J (F.text s x most).1 ∧ (F.text s x most).2.size ≤ N
  count : ∀ {s n most}, J s → J (F.count s n most).1
def Lite (N : Nat) (v : Value) : Prop := ∀ x, v = .string x → x.size ≤ N
def Lites (N : Nat) (vs : List Value) : Prop := ∀ v, v ∈ vs → Lite N v
def LiteM (N : Nat) (m : M) : Prop := (∀ i, Lite N (m.c i)) ∧ ∀ j r, r ∈ m.L j → Lites N r
theorem Lite.cost {N : Nat} {v : Value} (h : Lite N v) : costV v ≤ 8 + N := by
  unfold costV
  split
  · have := h _ rfl; omega
  · omega
theorem Lites.cost {N : Nat} : ∀ {vs : List Value}, Lites N vs → cost vs ≤ vs.length * (8 + N)
  | [], _ => by simp [Wr.cost]
  | v :: vs, h => by
    have h1 := (h v (.head _)).cost
    have h2 := Lites.cost (vs := vs) (fun u hu => h u (.tail _ hu))
    simp only [Wr.cost, List.length_cons, Nat.add_mul]
    omega
variable {F : Form} {J : F.σ → Prop} {N : Nat}
theorem Form.Tame.fld (hT : F.Tame J N) {s : F.σ} {f : Fld} {v : Value} (hs : J s) (hv : Lite N v) : J (F.fld s f v).1 ∧ Lite N (F.fld s f v).2 := by
  unfold Form.fld
  split
  · exact ⟨hT.num hs, fun x hx => by simp at hx⟩
  · exact ⟨hT.flag hs, fun x hx => by simp at hx⟩
  · refine ⟨(hT.text hs (hv _ rfl)).1, fun x hx => ?_⟩
    injection hx with hx
    exact hx ▸ (hT.text hs (hv _ rfl)).2
  · exact ⟨hs, hv⟩
theorem Form.Tame.row (hT : F.Tame J N) : ∀ {fs : List Fld} {vs : List Value} {s : F.σ}, J s → Lites N vs → J (F.row s fs vs).1 ∧ Lites N (F.row s fs vs).2
  | [], vs, s, hs, hv => by cases vs <;> exact ⟨hs, hv⟩
  | f :: fs, [], s, hs, hv => ⟨hs, hv⟩
  | f :: fs, v :: vs, s, hs, hv => by
    have h1 := hT.fld (f := f) hs (hv v (.head _))
    have h2 := hT.row (fs := fs) (vs := vs) h1.1 (fun u hu => hv u (.tail _ hu))
    refine ⟨h2.1, fun u hu => ?_⟩
    simp only [Form.row] at hu
    rcases List.mem_cons.1 hu with rfl | hu
    · exact h1.2
    · exact h2.2 u hu
theorem Form.Tame.rows (hT : F.Tame J N) {fs : List Fld} : ∀ {rs : List (List Value)} {s : F.σ}, J s → (∀ r, r ∈ rs → Lites N r) → J (F.rows fs s rs).1 ∧ ∀ r, r ∈ (F.rows fs s rs).2 → Lites N r
  | [], s, hs, hv => ⟨hs, fun r hr => nomatch hr⟩
  | r :: rs, s, hs, hv => by
    have h1 := hT.row (fs := fs) hs (hv r (.head _))
    have h2 := hT.rows (fs := fs) (rs := rs) h1.1 (fun u hu => hv u (.tail _ hu))
    refine ⟨h2.1, fun u hu => ?_⟩
    simp only [Form.rows] at hu
    rcases List.mem_cons.1 hu with rfl | hu
    · exact h1.2
    · exact h2.2 u hu
theorem lites_zero (fs : List Fld) : Lites N (zeroRow fs) := fun v hv x hx => by
  obtain ⟨f, _, rfl⟩ := List.mem_map.1 hv
  cases f <;> simp [Fld.zero] at hx
  subst hx
  exact Nat.zero_le _
theorem lite_listR {fs : List Fld} {s : F.σ} {most : Nat} {rows : List (List Value)} (h : ∀ r, r ∈ rows → Lites N r) : ∀ r, r ∈ F.listR fs s most rows → Lites N r := fun r hr => by
  unfold Form.listR at hr
  split at hr
  · rw [(List.mem_replicate.1 hr).2]; exact lites_zero fs
  · exact h r hr
theorem Form.Tame.list (hT : F.Tame J N) {fs : List Fld} {most : Nat} {rows : List (List Value)} {s : F.σ} (hs : J s) (h : ∀ r, r ∈ rows → Lites N r) : J (F.list fs s most rows).1 ∧ ∀ r, r ∈ (F.list fs s most rows).2 → Lites N r := by
  have hR := lite_listR (F := F) (fs := fs) (s := s) (most := most) h
  have h1 := hT.rows (fs := fs) (rs := (F.listR fs s most rows).take (F.listM s most rows.length)) (hT.count (n := rows.length) (most := most) hs) (fun r hr => hR r (List.mem_of_mem_take hr))
  refine ⟨h1.1, fun r hr => ?_⟩
  unfold Form.list at hr
  rcases List.mem_append.1 hr with hr | hr
  · exact h1.2 r hr
  · exact hR r (List.mem_of_mem_drop hr)
theorem lites_vals {c : Nat → Value} (h : ∀ i, Lite N (c i)) : ∀ (n i : Nat), Lites N (valsAt c i n)
  | 0, i => fun v hv => nomatch hv
  | n + 1, i => fun v hv => by
    simp only [valsAt] at hv
    rcases List.mem_cons.1 hv with rfl | hv
    · exact h i
    · exact lites_vals h n (i + 1) v hv
theorem Form.Tame.rowM (hT : F.Tame J N) {s : F.σ} {m : M} {i : Nat} {fs : List Fld} (hs : J s) (hm : LiteM N m) : J (F.rowM s m i fs).1 ∧ LiteM N (F.rowM s m i fs).2 := by
  have h1 := hT.row (fs := fs) hs (lites_vals hm.1 fs.length i)
  refine ⟨h1.1, fun k => ?_, hm.2⟩
  simp only [Form.rowM, putAt]
  split
  · cases hv : (F.row s fs (valsAt m.c i fs.length)).2[k - i]? with
    | none => exact hm.1 k
    | some v => exact h1.2 v (List.mem_of_getElem? hv)
  · exact hm.1 k
theorem Form.Tame.step (hT : F.Tame J N) {s : F.σ} {m : M} {t : Step} (hs : J s) (hm : LiteM N m) : J (F.step s m t).1 ∧ LiteM N (F.step s m t).2 := by
  cases t with
  | row i fs => exact hT.rowM hs hm
  | most => exact hT.rowM hs hm
  | lst j fs n =>
    have h1 := hT.list (fs := fs) (most := n) hs (hm.2 j)
    refine ⟨h1.1, hm.1, fun k r hr => ?_⟩
    simp only [Form.step, Form.lstM, upL] at hr
    split at hr
    · exact h1.2 r hr
    · exact hm.2 k r hr
def Step.few : Step → Bool
  | .row _ fs => decide (fs.length ≤ 8)
  | .most => true
  | .lst _ fs n => decide (fs.length ≤ 8) && decide (n ≤ 64)
theorem rowsCost_le : ∀ {rs : List (List Value)} {b : Nat}, (∀ r, r ∈ rs → cost r ≤ b) → rowsCost rs ≤ rs.length * b
  | [], b, _ => by simp [rowsCost]
  | r :: rs, b, h => by
    have h1 := h r (.head _)
    have h2 := rowsCost_le (rs := rs) (b := b) (fun q hq => h q (.tail _ hq))
    simp only [rowsCost, List.length_cons, Nat.add_mul]
    omega
/-- What one step costs at most. -/
def most1 (N : Nat) : Nat := 8 + 512 * (8 + N)
theorem stepCost_le {s : F.σ} {m : M} {t : Step} (hm : LiteM N m) (ht : t.few = true) (hl : ∀ j r, r ∈ m.L j → r.length ≤ 8) : F.stepCost s m t ≤ most1 N := by
  unfold most1
  cases t with
  | row i fs =>
    simp only [Step.few, decide_eq_true_eq] at ht
    have h1 := (lites_vals hm.1 fs.length i).cost
    rw [valsAt_length] at h1
    have := Nat.mul_le_mul_right (8 + N) ht
    simp only [Form.stepCost]
    omega
  | most => simp only [Form.stepCost]; omega
  | lst j fs n =>
    simp only [Step.few, Bool.and_eq_true, decide_eq_true_eq] at ht
    simp only [Form.stepCost, Form.lstCost]
    have hR := lite_listR (F := F) (fs := fs) (s := s) (most := n) (hm.2 j)
    have h1 : rowsCost ((F.listR fs s n (m.L j)).take (F.listM s n (m.L j).length)) ≤ ((F.listR fs s n (m.L j)).take (F.listM s n (m.L j).length)).length * (8 * (8 + N)) := by
      refine rowsCost_le fun r hr => ?_
      have hr' := List.mem_of_mem_take hr
      refine Nat.le_trans (hR r hr').cost (Nat.mul_le_mul_right _ ?_)
      unfold Form.listR at hr'
      split at hr'
      · rw [(List.mem_replicate.1 hr').2]; simpa [zeroRow] using ht.1
      · exact hl j r hr'
    have h2 : ((F.listR fs s n (m.L j)).take (F.listM s n (m.L j).length)).length ≤ 64 := by
      rw [List.length_take]; unfold Form.listM; omega
    have h3 := Nat.mul_le_mul_right (8 * (8 + N)) h2
    omega
/-- Rows keep their width. -/
def Wide (m : M) : Prop := ∀ j r, r ∈ m.L j → r.length ≤ 8
theorem Wide.step {s : F.σ} {m : M} {t : Step} (hm : Wide m) (ht : t.few = true) : Wide (F.step s m t).2 := by
  cases t with
  | row i fs => exact hm
  | most => exact hm
  | lst j fs n =>
    simp only [Step.few, Bool.and_eq_true, decide_eq_true_eq] at ht
    intro k r hr
    simp only [Form.step, Form.lstM, upL] at hr
    split at hr
    · have hR : ∀ r, r ∈ F.listR fs s n (m.L j) → r.length ≤ 8 := fun r hr' => by
        unfold Form.listR at hr'
        split at hr'
        · rw [(List.mem_replicate.1 hr').2]; simpa [zeroRow] using ht.1
        · exact hm j r hr'
      have key : ∀ (rs : List (List Value)) (s : F.σ), (∀ r, r ∈ rs → r.length ≤ 8) → ∀ r, r ∈ (F.rows fs s rs).2 → r.length ≤ 8 := by
        intro rs
        induction rs with
        | nil => intro s _ r hr; nomatch hr
        | cons q rs ih =>
          intro s h r hr
          simp only [Form.rows] at hr
          rcases List.mem_cons.1 hr with rfl | hr
          · rw [row_length]; exact h q (.head _)
          · exact ih _ (fun r hr => h r (.tail _ hr)) r hr
      unfold Form.list at hr
      rcases List.mem_append.1 hr with hr | hr
      · exact key _ _ (fun r hr => hR r (List.mem_of_mem_take hr)) r hr
      · exact hR r (List.mem_of_mem_drop hr)
    · exact hm k r hr
theorem runCost_le (hT : F.Tame J N) : ∀ {ts : List Step} {s : F.σ} {m : M}, J s → LiteM N m → Wide m → ts.all Step.few = true → F.runCost s m ts ≤ ts.length * most1 N
  | [], s, m, _, _, _, _ => by simp [Form.runCost]
  | t :: ts, s, m, hs, hm, hw, h => by
    simp only [List.all_cons, Bool.and_eq_true] at h
    have h1 := stepCost_le (F := F) (s := s) hm h.1 hw
    have h2 := hT.step (t := t) hs hm
    have h3 := runCost_le hT (ts := ts) h2.1 h2.2 (hw.step h.1) h.2
    simp only [Form.runCost, List.length_cons, Nat.add_mul]
    omega
theorem runLite (hT : F.Tame J N) : ∀ {ts : List Step} {s : F.σ} {m : M}, J s → LiteM N m → J (F.run s m ts).1 ∧ LiteM N (F.run s m ts).2
  | [], s, m, hs, hm => ⟨hs, hm⟩
  | t :: ts, s, m, hs, hm => runLite hT (ts := ts) (hT.step hs hm).1 (hT.step hs hm).2
theorem oTame (g N : Nat) : (oForm g).Tame (fun _ => True) N := ⟨fun _ => trivial, fun _ => trivial, fun _ h => ⟨trivial, h⟩, fun _ => trivial⟩
theorem rnum_le (bs : List Int) (bad : Bool) : (rnum bs bad).2.1.length ≤ bs.length := by
  obtain ⟨m, e⟩ := rnum_suffix bs bad
  rw [e, List.length_drop]; omega
theorem strOf_size (xs : List Int) : (strOfNums xs).size = xs.length := strOfNums_size xs
theorem iTame (g r q N : Nat) : (iForm g r q).Tame (fun s => s.1.length ≤ N) N := by
  refine ⟨fun {s n lo hi} h => Nat.le_trans (rnum_le _ _) h, fun {s x} h => ?_, fun {s x most} h _ => ?_, fun {s n most} h => ?_⟩
  · refine Nat.le_trans ?_ h
    show (rflag s.1 s.2.1).2.1.length ≤ _
    unfold rflag
    split
    · exact Nat.le_refl _
    · split
      · exact Nat.zero_le _
      · rename_i c t e
        rw [e]; split <;> simp
  · have h1 := rnum_le s.1 s.2.1
    constructor
    · refine Nat.le_trans ?_ h
      show (rtext most s.1 s.2.1).2.1.length ≤ _
      unfold rtext
      split
      · exact h1
      · simp only [List.length_drop]; omega
    · show (strOfNums (rtext most s.1 s.2.1).1).size ≤ N
      rw [strOf_size]
      unfold rtext
      split
      · exact Nat.zero_le _
      · simp only [List.length_take]; omega
  · refine Nat.le_trans ?_ h
    show (rcount most s.1 s.2.1).2.1.length ≤ _
    unfold rcount
    split <;> exact rnum_le _ _

/-! The writing form leaves what it writes as it was. -/
theorem oFld (g : Nat) (s : (oForm g).σ) (f : Fld) (v : Value) : ((oForm g).fld s f v).2 = v := by
  cases f <;> cases v <;> first | rfl | (rename_i k x; cases k <;> rfl)
theorem oRow (g : Nat) : ∀ (fs : List Fld) (vs : List Value) (s : (oForm g).σ), ((oForm g).row s fs vs).2 = vs
  | [], vs, s => by cases vs <;> rfl
  | f :: fs, [], s => rfl
  | f :: fs, v :: vs, s => by
    simp only [Form.row]
    rw [oFld, oRow g fs vs]
theorem oRows (g : Nat) (fs : List Fld) : ∀ (rs : List (List Value)) (s : (oForm g).σ), ((oForm g).rows fs s rs).2 = rs
  | [], s => rfl
  | r :: rs, s => by
    simp only [Form.rows]
    rw [oRow, oRows g fs rs]
theorem oListR (g : Nat) (fs : List Fld) (s : (oForm g).σ) (most : Nat) (rows : List (List Value)) : (oForm g).listR fs s most rows = rows := by
  unfold Form.listR
  rw [if_neg]
  show ¬ rows.length < (rows.length : Int).toNat
  omega
theorem oList (g : Nat) (fs : List Fld) (s : (oForm g).σ) (most : Nat) (rows : List (List Value)) : ((oForm g).list fs s most rows).2 = rows := by
  unfold Form.list
  simp only [oListR, oRows, List.take_append_drop]
theorem putAt_vals (c : Nat → Value) (i : Nat) : ∀ n, putAt c i (valsAt c i n) = c := fun n => by
  funext k
  unfold putAt
  split
  · cases hv : (valsAt c i n)[k - i]? with
    | none => rfl
    | some v =>
      rw [Option.getD_some, valsAt_get c n i (k - i) v hv, show i + (k - i) = k by omega]
  · rfl
theorem upL_self (L : Nat → List (List Value)) (j : Nat) : upL L j (L j) = L := by
  funext k
  unfold upL
  split
  · rename_i e; rw [e]
  · rfl
theorem oRowM (g : Nat) (s : (oForm g).σ) (m : M) (i : Nat) (fs : List Fld) : ((oForm g).rowM s m i fs).2 = m := by
  unfold Form.rowM
  simp only [oRow, putAt_vals]
theorem oStep (g : Nat) (s : (oForm g).σ) (m : M) (t : Step) : ((oForm g).step s m t).2 = m := by
  cases t with
  | row i fs => exact oRowM g s m i fs
  | most => exact oRowM g s m 7 _
  | lst j fs n =>
    simp only [Form.step, Form.lstM, oList, upL_self]
theorem oRun_m (g : Nat) : ∀ (ts : List Step) (s : (oForm g).σ) (m : M), ((oForm g).run s m ts).2 = m
  | [], s, m => rfl
  | t :: ts, s, m => by
    simp only [Form.run]
    rw [oRun_m g ts, oStep]
/-! What it writes does not hang on where it lies. -/
theorem oRow_g (g h : Nat) : ∀ (fs : List Fld) (vs : List Value) (s : OSt), ((oForm g).row s fs vs).1 = ((oForm h).row s fs vs).1
  | [], vs, s => by cases vs <;> rfl
  | f :: fs, [], s => rfl
  | f :: fs, v :: vs, s => oRow_g g h fs vs ((oForm g).fld s f v).1
theorem oRows_g (g h : Nat) (fs : List Fld) : ∀ (rs : List (List Value)) (s : OSt), ((oForm g).rows fs s rs).1 = ((oForm h).rows fs s rs).1
  | [], s => rfl
  | r :: rs, s => (oRows_g g h fs rs ((oForm g).row s fs r).1).trans (congrArg (fun s' : OSt => ((oForm h).rows fs s' rs).1) (oRow_g g h fs r s))
theorem oList_g (g h : Nat) (fs : List Fld) (s : OSt) (most : Nat) (rows : List (List Value)) : ((oForm g).list fs s most rows).1 = ((oForm h).list fs s most rows).1 := oRows_g g h fs _ _
theorem oStep_g (g h : Nat) (s : OSt) (m : M) (t : Step) : ((oForm g).step s m t).1 = ((oForm h).step s m t).1 := by
  cases t with
  | row i fs => exact oRow_g g h fs _ s
  | most => exact oRow_g g h _ _ s
  | lst j fs n => exact oList_g g h fs s n _
theorem oRun_g (g h : Nat) : ∀ (ts : List Step) (s : OSt) (m : M), ((oForm g).run s m ts).1 = ((oForm h).run s m ts).1
  | [], s, m => rfl
  | t :: ts, s, m => by
    have e1 := oStep g s m t
    have e2 := oStep h s m t
    have e3 := oStep_g g h s m t
    show ((oForm g).run ((oForm g).step s m t).1 ((oForm g).step s m t).2 ts).1 = ((oForm h).run ((oForm h).step s m t).1 ((oForm h).step s m t).2 ts).1
    rw [e1, e2]
    exact (oRun_g g h ts _ m).trans (congrArg (fun s' : OSt => ((oForm h).run s' m ts).1) e3)
end Go.Proofs.Ytcbehfbfaonanaa.Wr
end

/- A message as a value: how it lies in a box, what is read of it. -/
section
namespace Go.Proofs.Ytcbehfbfaonanaa.Wr
open Go.RowKit Go.Proofs.YtcbehfbfaonanaaW.PrintWords Go.Proofs.YtcbehfbfaonanaaW.PrintLast Go.Proofs.YtcbehfbfaonanaaW.PrintMore Go.Proofs.Ytcbehfbfaonanaa.Pk
set_option linter.unusedVariables false
set_option linter.unusedSimpArgs false

/-- A message's cells, as a value too. -/
def msgC (c sv : Nat → Value) : Array Value := #[c 0, c 1, c 2, sv 3, c 4, c 5, c 6, c 7, sv 8, sv 9, sv 10, c 11, c 12, c 13, c 14, c 15, c 16, c 17, c 18, c 19, c 20, c 21, c 22, c 23, c 24, c 25]
def msgV (c sv : Nat → Value) : Value := .agg (msgC c sv)
def Typed (m : M) : Prop := ∀ i, scalar i = true → (kindOf i).fits (m.c i)
def Fit (m : M) : Prop := ∀ j fs, (j, fs) ∈ lists → ∀ r, r ∈ m.L j → fits fs r
/-- The message m is read of the value v. -/
structure MsgRd (w : World) (v : Value) (m : M) (sv : Nat → Value) : Prop where
  eq : v = msgV m.c sv
  typed : Typed m
  fit : Fit m
  rd : ∀ j fs, (j, fs) ∈ lists → ListRd w (sv j) fs.length (m.L j)
theorem fitl {fs : List Fld} {j : Nat} {m : M} (h : Fit m) (hj : (j, fs) ∈ lists) : ∀ r, r ∈ m.L j → r.length = fs.length := fun r hr => fits_length (h j fs hj r hr)
theorem lists_pos {fs : List Fld} {j : Nat} (h : (j, fs) ∈ lists) : 0 < fs.length := by
  simp only [lists, List.mem_cons, Prod.mk.injEq, List.not_mem_nil, or_false] at h
  rcases h with ⟨_, rfl⟩ | ⟨_, rfl⟩ | ⟨_, rfl⟩ | ⟨_, rfl⟩ <;> simp [entryF, pairF, seenF, epochF]
theorem MsgRd.below {w w' : World} {v : Value} {m : M} {sv : Nat → Value} (h : MsgRd w v m sv) (hB : Below w.heap.size w w') : MsgRd w' v m sv :=
  ⟨h.eq, h.typed, h.fit, fun j fs hj => (h.rd j fs hj).below (lists_pos hj) (fitl h.fit hj) hB⟩
/-- A message of a size that is looked at. -/
structure Small (m : M) : Prop where
  lite : LiteM 1048576 m
  few : ∀ j, (m.L j).length ≤ 1048576
  wide : Wide m
theorem Fit.wide {m : M} (h : Fit m) (hn : ∀ j, (∀ fs, (j, fs) ∉ lists) → m.L j = []) : Wide m := fun j r hr => by
  by_cases hj : ∃ fs, (j, fs) ∈ lists
  · obtain ⟨fs, hj⟩ := hj
    rw [fitl h hj r hr]
    simp only [lists, List.mem_cons, Prod.mk.injEq, List.not_mem_nil, or_false] at hj
    rcases hj with ⟨_, rfl⟩ | ⟨_, rfl⟩ | ⟨_, rfl⟩ | ⟨_, rfl⟩ <;> simp [entryF, pairF, seenF, epochF]
  · rw [hn j (fun fs h => hj ⟨fs, h⟩)] at hr
    nomatch hr

theorem below_only {B : Nat} {S : Nat → Prop} {a w w' : World} (h : Below B a w) (ho : Only S w w') (hB : B ≤ w.heap.size) (hs : ∀ k, S k → B ≤ k) : Below B a w' :=
  ⟨ho.os.trans h.os, ho.tape.trans h.tape, ho.output.trans h.output, Nat.le_trans h.size ho.size, fun k hk => (ho.block k (by omega) (fun s => by have := hs k s; omega)).trans (h.block k hk)⟩
/-! ### A whole row of cells in a block of its own: boxed, allocated, stored, loaded -/
theorem heap_setCells (g : Nat) : ∀ (vs : List Value) (o : Nat) (w : World) (k : Nat), k ≠ g → (w.setCells g o vs).heap[k]? = w.heap[k]?
  | [], o, w, k, _ => rfl
  | v :: vs, o, w, k, hk => (heap_setCells g vs (o + 1) _ k hk).trans (Below.heap_setCell w ⟨g, o, none⟩ v k hk)
theorem size_setCells (g : Nat) : ∀ (vs : List Value) (o : Nat) (w : World), (w.setCells g o vs).heap.size = w.heap.size
  | [], o, w => rfl
  | v :: vs, o, w => (size_setCells g vs (o + 1) _).trans (World.size_setCell _ _ _)
theorem only_setCells (g : Nat) (vs : List Value) (o : Nat) (W : World) : Only (· = g) W (W.setCells g o vs) := by
  have key : ∀ (vs : List Value) (o : Nat) (w : World), (w.setCells g o vs).os = w.os ∧ (w.setCells g o vs).tape = w.tape ∧ (w.setCells g o vs).output = w.output := by
    intro vs
    induction vs with
    | nil => intro o w; exact ⟨rfl, rfl, rfl⟩
    | cons v vs ih => intro o w; exact ih (o + 1) _
  exact ⟨(key _ _ _).1, (key _ _ _).2.1, (key _ _ _).2.2, by rw [size_setCells]; exact Nat.le_refl _, fun k _ hk => heap_setCells g vs o W k hk⟩
def overL (cs : Array Value) : Nat → List Value → Array Value
  | _, [] => cs
  | o, v :: vs => overL (cs.setIfInBounds o v) (o + 1) vs
theorem overL_get (vs : List Value) : ∀ (cs : Array Value) (o j : Nat), o + vs.length ≤ cs.size → (overL cs o vs)[j]? = if o ≤ j ∧ j < o + vs.length then vs[j - o]? else cs[j]? := by
  induction vs with
  | nil => intro cs o j _; rw [if_neg (by simp)]; rfl
  | cons v vs ih =>
    intro cs o j h
    simp only [List.length_cons] at h ⊢
    simp only [overL]
    rw [ih _ _ _ (by simp; omega)]
    by_cases h1 : o = j
    · subst h1
      rw [if_neg (by omega), if_pos (by omega), Nat.sub_self, List.getElem?_cons_zero, Array.getElem?_setIfInBounds_self_of_lt (by omega)]
    · by_cases h2 : o + 1 ≤ j ∧ j < o + 1 + vs.length
      · rw [if_pos h2, if_pos (by omega), show j - o = (j - (o + 1)) + 1 by omega, List.getElem?_cons_succ]
      · rw [if_neg h2, if_neg (by omega), Array.getElem?_setIfInBounds_ne h1]
theorem overL_all {cs : Array Value} {vs : List Value} (h : vs.length = cs.size) : overL cs 0 vs = vs.toArray := by
  apply Array.ext_getElem?
  intro j
  rw [overL_get vs cs 0 j (by omega)]
  split
  · rw [Nat.sub_zero]; simp
  · rw [Array.getElem?_eq_none (by omega)]; simp; omega
theorem blk_setCells {g : Nat} {T : TypeId} : ∀ (vs : List Value) (o : Nat) (w : World) (cs : Array Value), w.heap[g]? = some (.cells cs T (0, 0)) → (w.setCells g o vs).heap[g]? = some (.cells (overL cs o vs) T (0, 0))
  | [], o, w, cs, h => h
  | v :: vs, o, w, cs, h => blk_setCells vs (o + 1) _ _ (blk_set h o v)
def OneAll (cells : Array Value) : Prop := cells.toList.all (·.oneCell') = true
section
variable {P : Program} {ops : Array Oper} {rest : List Oper} {o : Oper} {a : Act} {Q : Exit → Act → World → Prop} {W : World}
theorem box_row (hgd : o.guard = none) (T : TypeId) (x : Operand) (ho : o.op = .box T x) (cells : Array Value) (hx : a.eval x = .agg cells)
    (h : ∀ g w1, g = W.heap.size → w1.heap[g]? = some (.cells cells T (0, 0)) → Below W.heap.size W w1 → wpList P ops Q rest (a.put o.dst (.pointer (some ⟨g, 0, none⟩))) w1) : wpList P ops Q (o :: rest) a W := by
  refine Kd.event_run hgd (v := .pointer (some ⟨W.heap.size, 0, none⟩)) (w1 := W.alloc (.cells cells T (0, 0))) ?_ (h _ _ rfl (blk_new W _) (below_alloc (Below.refl _ _) _))
  unfold execOp
  simp only [ho, hx]
  rfl
theorem alloc_row (hgd : o.guard = none) (T : TypeId) (ho : o.op = .alloc T) (zs : Array Value) (hz : (zeroValue T).run P W = .ok (.agg zs) W)
    (h : ∀ g w1, g = W.heap.size → w1.heap[g]? = some (.cells zs T (0, 0)) → Below W.heap.size W w1 → wpList P ops Q rest (a.put o.dst (.pointer (some ⟨g, 0, none⟩))) w1) : wpList P ops Q (o :: rest) a W := by
  refine Kd.event_run hgd (v := .pointer (some ⟨W.heap.size, 0, none⟩)) (w1 := W.alloc (.cells zs T (0, 0))) ?_ (h _ _ rfl (blk_new W _) (below_alloc (Below.refl _ _) _))
  unfold execOp
  simp only [ho, Instr.alloc, Sem.run_bind, hz, Result.andThen_ok]
  rfl
theorem load_row (hgd : o.guard = none) (T : TypeId) (x : Operand) (ho : o.op = .load T x) (g : Nat) (hx : a.eval x = .pointer (some ⟨g, 0, none⟩)) (cells : Array Value) (T' : TypeId) (hb : W.heap[g]? = some (.cells cells T' (0, 0)))
    (d : TypeDesc) (hu : P.underlying T = some d) (hd : d.isRow = true) (hi : (P.info? T).map (·.size) = some cells.size) (h : wpList P ops Q rest (a.put o.dst (.agg cells)) W) : wpList P ops Q (o :: rest) a W := by
  refine wpList_load_mid hgd T x ho g 0 hx cells.toList d (fun j v hj => ?_) hu hd (by simpa using hi) (by simpa using h)
  rw [Nat.zero_add]
  exact (blk_cell hb j).trans (by simpa using hj)
theorem store_row (hgd : o.guard = none) (T : TypeId) (x y : Operand) (ho : o.op = .store T x y) (g : Nat) (hx : a.eval x = .pointer (some ⟨g, 0, none⟩)) (cells cs : Array Value) (hy : a.eval y = .agg cells) (T' : TypeId) (hb : W.heap[g]? = some (.cells cs T' (0, 0)))
    (hs : cells.size = cs.size) (hi : (P.info? T).map (·.size) = some cells.size) (h1 : OneAll cells)
    (h : ∀ w1, w1.heap[g]? = some (.cells cells T' (0, 0)) → Only (· = g) W w1 → wpList P ops Q rest (a.put o.dst undef) w1) : wpList P ops Q (o :: rest) a W := by
  refine wpList_store_mid hgd T x y ho g 0 cells hx hy (fun j hj => ?_) hi (by unfold OneAll at h1; rw [← Array.all_toList]; exact h1) (h _ ?_ ?_)
  · rw [Nat.zero_add]
    refine ⟨?_, blk_frozen hb j⟩
    rw [blk_cell hb j, Array.getElem?_eq_getElem (by omega)]
    rfl
  · have := blk_setCells cells.toList 0 W cs hb
    rw [overL_all (by simpa using hs)] at this
    simpa using this
  · have ho' : (W.setCells g 0 cells.toList).os = W.os ∧ (W.setCells g 0 cells.toList).tape = W.tape ∧ (W.setCells g 0 cells.toList).output = W.output := by
      have key : ∀ (vs : List Value) (o : Nat) (w : World), (w.setCells g o vs).os = w.os ∧ (w.setCells g o vs).tape = w.tape ∧ (w.setCells g o vs).output = w.output := by
        intro vs
        induction vs with
        | nil => intro o w; exact ⟨rfl, rfl, rfl⟩
        | cons v vs ih => intro o w; exact ih (o + 1) _
      exact key _ _ _
    exact ⟨ho'.1, ho'.2.1, ho'.2.2, by rw [size_setCells]; exact Nat.le_refl _, fun k _ hk => heap_setCells g _ 0 W k hk⟩
end
end Go.Proofs.Ytcbehfbfaonanaa.Wr
end

/- A message's walks: fields, kind by kind (printed by genfields.py). -/
section
namespace Go.Proofs.Ytcbehfbfaonanaa.Wr
open Go.RowKit Go.Proofs.YtcbehfbfaonanaaW.PrintWords Go.Proofs.YtcbehfbfaonanaaW.PrintLast Go.Proofs.YtcbehfbfaonanaaW.PrintMore Go.Proofs.Ytcbehfbfaonanaa.Pk
set_option linter.unusedVariables false
set_option linter.unusedSimpArgs false

set_option maxRecDepth 100000 in
set_option maxHeartbeats 8000000 in
theorem fields3_c : WholeC 41 (fieldsS 3) (fun v => v = .int .i64 3) := by
  intro F hF s w b A m hAl h hK hr
  have hmf : ∀ (fn : Fn) (first cap : Array Value) (w : World), (Instr.makeFunc fn first cap).run Try.prog w = .ok (.func fn first cap) w := fun _ _ _ _ => rfl
  obtain ⟨cs0, hb0⟩ : ∃ cs0, w.heap[b]? = some (.cells cs0 35 (0, 0)) := let ⟨cs, _, h2, _⟩ := h.blk; ⟨cs, h2⟩
  have HGb := Aside0.mk (show w.heap.size ≠ b from fun e => by have := blk_lt hb0; omega)
  have HGA := Aside0.mk (show ¬ A w.heap.size from fun e => by have := hAl _ e; omega)
  have HGo := Aside0.mk (show ¬ F.own (w.alloc (.cells #[.iface F.ty F.v] 114)).heap w.heap.size from fun e => by have := hF.lt h.inv (alloc_own hF h.inv _ _ e); omega)
  have cg0 : (w.alloc (.cells #[.iface F.ty F.v] 114)).cell? ⟨w.heap.size, 0, none⟩ = some (.iface F.ty F.v) := by rw [World.cell?_alloc_at _ _ _ _ rfl]; rfl
  have S0 := Aside0.mk (Stand.start (h.alloc hF (.cells #[.iface F.ty F.v] 114)) (fieldsS 3))
  rw [hK] at S0
  have HCg := Aside0.mk cg0
  have HR := Aside0.mk hr
  have HG := Aside0.mk hF
  have ck0 := S0.out.kind
  have HBl := Aside0.mk (blk_lt hb0)
  have ck00 : w.cell? ⟨b, 0, none⟩ = some (.int .i64 3) := ((World.cell?_alloc_past _ _ _ HBl.out).symm.trans ck0)
  suffices hsuf : Calls Try.prog 41 #[.iface F.ty F.v, .pointer (some ⟨b, 0, none⟩)] w (MOn F s (w.alloc (.cells #[.iface F.ty F.v] 114)) b A (F.run s m (fieldsS 3)).1 (F.runCost s m (fieldsS 3)) (F.run s m (fieldsS 3)).2) from hsuf.mono (fun e w' H => H.unalloc hF h.inv)
  generalize (F.run s m (fieldsS 3)).1 = sF at *
  generalize (F.run s m (fieldsS 3)).2 = mF at *
  generalize F.runCost s m (fieldsS 3) = C at *
  clear h hr hF hAl hb0 cs0 hK
  have S0 := Aside0.mk (show Stand F s (w.alloc (.cells #[.iface F.ty F.v] 114)) b A (.int .i64 3) C sF mF (partS ++ []) (w.alloc (.cells #[.iface F.ty F.v] 114)) from S0.out)
  go_enter Try.func41, Try.ntmps41
  have C0 := Aside0.mk (Stand.whole' part_c S0.out HG.out HR.out trivial rfl)
  go_wp2_with (go_at_call 67; (with_reducible refine C0.out.mono ?_); rintro e w1 ⟨rfl, H⟩; have cg1 := H.cell HGo.out HGb.out HGA.out HCg.out; have ck1 := H.kind; have S1 := Aside0.mk H; clear H)
  go_end0
  exact S1.out.done

set_option maxRecDepth 100000 in
set_option maxHeartbeats 8000000 in
theorem fields4_c : WholeC 41 (fieldsS 4) (fun v => v = .int .i64 4) := by
  intro F hF s w b A m hAl h hK hr
  have hmf : ∀ (fn : Fn) (first cap : Array Value) (w : World), (Instr.makeFunc fn first cap).run Try.prog w = .ok (.func fn first cap) w := fun _ _ _ _ => rfl
  obtain ⟨cs0, hb0⟩ : ∃ cs0, w.heap[b]? = some (.cells cs0 35 (0, 0)) := let ⟨cs, _, h2, _⟩ := h.blk; ⟨cs, h2⟩
  have HGb := Aside0.mk (show w.heap.size ≠ b from fun e => by have := blk_lt hb0; omega)
  have HGA := Aside0.mk (show ¬ A w.heap.size from fun e => by have := hAl _ e; omega)
  have HGo := Aside0.mk (show ¬ F.own (w.alloc (.cells #[.iface F.ty F.v] 114)).heap w.heap.size from fun e => by have := hF.lt h.inv (alloc_own hF h.inv _ _ e); omega)
  have cg0 : (w.alloc (.cells #[.iface F.ty F.v] 114)).cell? ⟨w.heap.size, 0, none⟩ = some (.iface F.ty F.v) := by rw [World.cell?_alloc_at _ _ _ _ rfl]; rfl
  have S0 := Aside0.mk (Stand.start (h.alloc hF (.cells #[.iface F.ty F.v] 114)) (fieldsS 4))
  rw [hK] at S0
  have HCg := Aside0.mk cg0
  have HR := Aside0.mk hr
  have HG := Aside0.mk hF
  have ck0 := S0.out.kind
  have HBl := Aside0.mk (blk_lt hb0)
  have ck00 : w.cell? ⟨b, 0, none⟩ = some (.int .i64 4) := ((World.cell?_alloc_past _ _ _ HBl.out).symm.trans ck0)
  suffices hsuf : Calls Try.prog 41 #[.iface F.ty F.v, .pointer (some ⟨b, 0, none⟩)] w (MOn F s (w.alloc (.cells #[.iface F.ty F.v] 114)) b A (F.run s m (fieldsS 4)).1 (F.runCost s m (fieldsS 4)) (F.run s m (fieldsS 4)).2) from hsuf.mono (fun e w' H => H.unalloc hF h.inv)
  generalize (F.run s m (fieldsS 4)).1 = sF at *
  generalize (F.run s m (fieldsS 4)).2 = mF at *
  generalize F.runCost s m (fieldsS 4) = C at *
  clear h hr hF hAl hb0 cs0 hK
  have S0 := Aside0.mk (show Stand F s (w.alloc (.cells #[.iface F.ty F.v] 114)) b A (.int .i64 4) C sF mF [.lst 10 epochF 64] (w.alloc (.cells #[.iface F.ty F.v] 114)) from S0.out)
  go_enter Try.func41, Try.ntmps41
  have C0 := Aside0.mk (S0.out.lst HG.out HR.out listT_c (by omega) (by simp [lists]) HGo.out HGb.out HGA.out HCg.out)
  go_wp2
  go_region_held3 (fun W => W.cell? ⟨w.heap.size, 0, none⟩ = some (.iface F.ty F.v)) (go_keep) (((with_reducible refine C0.out.mono ?_); rintro e w1 ⟨rfl, H⟩; have cg1 := H.cell HGo.out HGb.out HGA.out HCg.out; have ck1 := H.kind; have S1 := Aside0.mk H; clear H))
  go_wp2
  go_end0
  exact S1.out.done

set_option maxRecDepth 100000 in
set_option maxHeartbeats 8000000 in
theorem fields5_c : WholeC 41 (fieldsS 5) (fun v => v = .int .i64 5) := by
  intro F hF s w b A m hAl h hK hr
  have hmf : ∀ (fn : Fn) (first cap : Array Value) (w : World), (Instr.makeFunc fn first cap).run Try.prog w = .ok (.func fn first cap) w := fun _ _ _ _ => rfl
  have HA1 := hF.ahead 1 "meridian/wire.flag" (by decide) rfl
  have HM1 := hF.method 1 "meridian/wire.flag" (by decide) rfl
  have HE1 := hF.enter 1 (by decide)
  obtain ⟨cs0, hb0⟩ : ∃ cs0, w.heap[b]? = some (.cells cs0 35 (0, 0)) := let ⟨cs, _, h2, _⟩ := h.blk; ⟨cs, h2⟩
  have HGb := Aside0.mk (show w.heap.size ≠ b from fun e => by have := blk_lt hb0; omega)
  have HGA := Aside0.mk (show ¬ A w.heap.size from fun e => by have := hAl _ e; omega)
  have HGo := Aside0.mk (show ¬ F.own (w.alloc (.cells #[.iface F.ty F.v] 114)).heap w.heap.size from fun e => by have := hF.lt h.inv (alloc_own hF h.inv _ _ e); omega)
  have cg0 : (w.alloc (.cells #[.iface F.ty F.v] 114)).cell? ⟨w.heap.size, 0, none⟩ = some (.iface F.ty F.v) := by rw [World.cell?_alloc_at _ _ _ _ rfl]; rfl
  have S0 := Aside0.mk (Stand.start (h.alloc hF (.cells #[.iface F.ty F.v] 114)) (fieldsS 5))
  rw [hK] at S0
  have HCg := Aside0.mk cg0
  have HR := Aside0.mk hr
  have HG := Aside0.mk hF
  have ck0 := S0.out.kind
  have HBl := Aside0.mk (blk_lt hb0)
  have ck00 : w.cell? ⟨b, 0, none⟩ = some (.int .i64 5) := ((World.cell?_alloc_past _ _ _ HBl.out).symm.trans ck0)
  suffices hsuf : Calls Try.prog 41 #[.iface F.ty F.v, .pointer (some ⟨b, 0, none⟩)] w (MOn F s (w.alloc (.cells #[.iface F.ty F.v] 114)) b A (F.run s m (fieldsS 5)).1 (F.runCost s m (fieldsS 5)) (F.run s m (fieldsS 5)).2) from hsuf.mono (fun e w' H => H.unalloc hF h.inv)
  generalize (F.run s m (fieldsS 5)).1 = sF at *
  generalize (F.run s m (fieldsS 5)).2 = mF at *
  generalize F.runCost s m (fieldsS 5) = C at *
  clear h hr hF hAl hb0 cs0 hK
  have S0 := Aside0.mk (show Stand F s (w.alloc (.cells #[.iface F.ty F.v] 114)) b A (.int .i64 5) C sF mF [.row 11 posF, .row 13 [.flag]] (w.alloc (.cells #[.iface F.ty F.v] 114)) from S0.out)
  go_enter Try.func41, Try.ntmps41
  have C0 := Aside0.mk (S0.out.rowC HG.out HR.out pos_c rfl (by omega))
  go_wp2
  go_region_held3 (fun W => W.cell? ⟨w.heap.size, 0, none⟩ = some (.iface F.ty F.v)) (go_keep) (((with_reducible refine C0.out.mono ?_); rintro e w1 ⟨rfl, H⟩; have cg1 := H.cell HGo.out HGb.out HGA.out HCg.out; have ck1 := H.kind; have S1 := Aside0.mk H; clear H))
  have C1 := Aside0.mk (S1.out.flag HG.out HR.out rfl (by omega))
  go_wp2
  go_region_held3 (fun W => W.cell? ⟨w.heap.size, 0, none⟩ = some (.iface F.ty F.v)) (go_keep) (((with_reducible refine C1.out.mono ?_); rintro e w2 ⟨rfl, H⟩; have cg2 := H.cell HGo.out HGb.out HGA.out HCg.out; have ck2 := H.kind; have S2 := Aside0.mk H; clear H))
  go_wp2
  go_end0
  exact S2.out.done

end Go.Proofs.Ytcbehfbfaonanaa.Wr
end

/- A message's walks: fields, kind by kind (printed by genfields.py). -/
section
namespace Go.Proofs.Ytcbehfbfaonanaa.Wr
open Go.RowKit Go.Proofs.YtcbehfbfaonanaaW.PrintWords Go.Proofs.YtcbehfbfaonanaaW.PrintLast Go.Proofs.YtcbehfbfaonanaaW.PrintMore Go.Proofs.Ytcbehfbfaonanaa.Pk
set_option linter.unusedVariables false
set_option linter.unusedSimpArgs false

set_option maxRecDepth 100000 in
set_option maxHeartbeats 8000000 in
theorem fields7_c : WholeC 41 (fieldsS 7) (fun v => v = .int .i64 7) := by
  intro F hF s w b A m hAl h hK hr
  have hmf : ∀ (fn : Fn) (first cap : Array Value) (w : World), (Instr.makeFunc fn first cap).run Try.prog w = .ok (.func fn first cap) w := fun _ _ _ _ => rfl
  have HA2 := hF.ahead 2 "meridian/wire.text" (by decide) rfl
  have HM2 := hF.method 2 "meridian/wire.text" (by decide) rfl
  have HE2 := hF.enter 2 (by decide)
  obtain ⟨cs0, hb0⟩ : ∃ cs0, w.heap[b]? = some (.cells cs0 35 (0, 0)) := let ⟨cs, _, h2, _⟩ := h.blk; ⟨cs, h2⟩
  have HGb := Aside0.mk (show w.heap.size ≠ b from fun e => by have := blk_lt hb0; omega)
  have HGA := Aside0.mk (show ¬ A w.heap.size from fun e => by have := hAl _ e; omega)
  have HGo := Aside0.mk (show ¬ F.own (w.alloc (.cells #[.iface F.ty F.v] 114)).heap w.heap.size from fun e => by have := hF.lt h.inv (alloc_own hF h.inv _ _ e); omega)
  have cg0 : (w.alloc (.cells #[.iface F.ty F.v] 114)).cell? ⟨w.heap.size, 0, none⟩ = some (.iface F.ty F.v) := by rw [World.cell?_alloc_at _ _ _ _ rfl]; rfl
  have S0 := Aside0.mk (Stand.start (h.alloc hF (.cells #[.iface F.ty F.v] 114)) (fieldsS 7))
  rw [hK] at S0
  have HCg := Aside0.mk cg0
  have HR := Aside0.mk hr
  have HG := Aside0.mk hF
  have ck0 := S0.out.kind
  have HBl := Aside0.mk (blk_lt hb0)
  have ck00 : w.cell? ⟨b, 0, none⟩ = some (.int .i64 7) := ((World.cell?_alloc_past _ _ _ HBl.out).symm.trans ck0)
  suffices hsuf : Calls Try.prog 41 #[.iface F.ty F.v, .pointer (some ⟨b, 0, none⟩)] w (MOn F s (w.alloc (.cells #[.iface F.ty F.v] 114)) b A (F.run s m (fieldsS 7)).1 (F.runCost s m (fieldsS 7)) (F.run s m (fieldsS 7)).2) from hsuf.mono (fun e w' H => H.unalloc hF h.inv)
  generalize (F.run s m (fieldsS 7)).1 = sF at *
  generalize (F.run s m (fieldsS 7)).2 = mF at *
  generalize F.runCost s m (fieldsS 7) = C at *
  clear h hr hF hAl hb0 cs0 hK
  have S0 := Aside0.mk (show Stand F s (w.alloc (.cells #[.iface F.ty F.v] 114)) b A (.int .i64 7) C sF mF (whoS ++ [.row 16 [.text 64], .row 19 posF]) (w.alloc (.cells #[.iface F.ty F.v] 114)) from S0.out)
  go_enter Try.func41, Try.ntmps41
  have C0 := Aside0.mk (Stand.whole' who_c S0.out HG.out HR.out trivial rfl)
  go_wp2_with (go_at_call 70; (with_reducible refine C0.out.mono ?_); rintro e w1 ⟨rfl, H⟩; have cg1 := H.cell HGo.out HGb.out HGA.out HCg.out; have ck1 := H.kind; have S1 := Aside0.mk H; clear H)
  have C1 := Aside0.mk (S1.out.text HG.out HR.out rfl (by omega))
  go_region_held3 (fun W => W.cell? ⟨w.heap.size, 0, none⟩ = some (.iface F.ty F.v)) (go_keep) (((with_reducible refine C1.out.mono ?_); rintro e w2 ⟨rfl, H⟩; have cg2 := H.cell HGo.out HGb.out HGA.out HCg.out; have ck2 := H.kind; have S2 := Aside0.mk H; clear H))
  have C2 := Aside0.mk (S2.out.rowC HG.out HR.out pos_c rfl (by omega))
  go_wp2
  go_region_held3 (fun W => W.cell? ⟨w.heap.size, 0, none⟩ = some (.iface F.ty F.v)) (go_keep) (((with_reducible refine C2.out.mono ?_); rintro e w3 ⟨rfl, H⟩; have cg3 := H.cell HGo.out HGb.out HGA.out HCg.out; have ck3 := H.kind; have S3 := Aside0.mk H; clear H))
  go_wp2
  go_end0
  exact S3.out.done

set_option maxRecDepth 100000 in
set_option maxHeartbeats 8000000 in
theorem fields8_c : WholeC 41 (fieldsS 8) (fun v => v = .int .i64 8) := by
  intro F hF s w b A m hAl h hK hr
  have hmf : ∀ (fn : Fn) (first cap : Array Value) (w : World), (Instr.makeFunc fn first cap).run Try.prog w = .ok (.func fn first cap) w := fun _ _ _ _ => rfl
  have HA1 := hF.ahead 1 "meridian/wire.flag" (by decide) rfl
  have HM1 := hF.method 1 "meridian/wire.flag" (by decide) rfl
  have HE1 := hF.enter 1 (by decide)
  have HA2 := hF.ahead 2 "meridian/wire.text" (by decide) rfl
  have HM2 := hF.method 2 "meridian/wire.text" (by decide) rfl
  have HE2 := hF.enter 2 (by decide)
  obtain ⟨cs0, hb0⟩ : ∃ cs0, w.heap[b]? = some (.cells cs0 35 (0, 0)) := let ⟨cs, _, h2, _⟩ := h.blk; ⟨cs, h2⟩
  have HGb := Aside0.mk (show w.heap.size ≠ b from fun e => by have := blk_lt hb0; omega)
  have HGA := Aside0.mk (show ¬ A w.heap.size from fun e => by have := hAl _ e; omega)
  have HGo := Aside0.mk (show ¬ F.own (w.alloc (.cells #[.iface F.ty F.v] 114)).heap w.heap.size from fun e => by have := hF.lt h.inv (alloc_own hF h.inv _ _ e); omega)
  have cg0 : (w.alloc (.cells #[.iface F.ty F.v] 114)).cell? ⟨w.heap.size, 0, none⟩ = some (.iface F.ty F.v) := by rw [World.cell?_alloc_at _ _ _ _ rfl]; rfl
  have S0 := Aside0.mk (Stand.start (h.alloc hF (.cells #[.iface F.ty F.v] 114)) (fieldsS 8))
  rw [hK] at S0
  have HCg := Aside0.mk cg0
  have HR := Aside0.mk hr
  have HG := Aside0.mk hF
  have ck0 := S0.out.kind
  have HBl := Aside0.mk (blk_lt hb0)
  have ck00 : w.cell? ⟨b, 0, none⟩ = some (.int .i64 8) := ((World.cell?_alloc_past _ _ _ HBl.out).symm.trans ck0)
  suffices hsuf : Calls Try.prog 41 #[.iface F.ty F.v, .pointer (some ⟨b, 0, none⟩)] w (MOn F s (w.alloc (.cells #[.iface F.ty F.v] 114)) b A (F.run s m (fieldsS 8)).1 (F.runCost s m (fieldsS 8)) (F.run s m (fieldsS 8)).2) from hsuf.mono (fun e w' H => H.unalloc hF h.inv)
  generalize (F.run s m (fieldsS 8)).1 = sF at *
  generalize (F.run s m (fieldsS 8)).2 = mF at *
  generalize F.runCost s m (fieldsS 8) = C at *
  clear h hr hF hAl hb0 cs0 hK
  have S0 := Aside0.mk (show Stand F s (w.alloc (.cells #[.iface F.ty F.v] 114)) b A (.int .i64 8) C sF mF (whoS ++ [.row 16 [.text 64], .row 17 [.flag], .row 18 [.text 1024], .row 19 posF]) (w.alloc (.cells #[.iface F.ty F.v] 114)) from S0.out)
  go_enter Try.func41, Try.ntmps41
  have C0 := Aside0.mk (Stand.whole' who_c S0.out HG.out HR.out trivial rfl)
  go_wp2_with (go_at_call 70; (with_reducible refine C0.out.mono ?_); rintro e w1 ⟨rfl, H⟩; have cg1 := H.cell HGo.out HGb.out HGA.out HCg.out; have ck1 := H.kind; have S1 := Aside0.mk H; clear H)
  have C1 := Aside0.mk (S1.out.text HG.out HR.out rfl (by omega))
  go_region_held3 (fun W => W.cell? ⟨w.heap.size, 0, none⟩ = some (.iface F.ty F.v)) (go_keep) (((with_reducible refine C1.out.mono ?_); rintro e w2 ⟨rfl, H⟩; have cg2 := H.cell HGo.out HGb.out HGA.out HCg.out; have ck2 := H.kind; have S2 := Aside0.mk H; clear H))
  have C2 := Aside0.mk (S2.out.flag HG.out HR.out rfl (by omega))
  go_wp2
  go_region_held3 (fun W => W.cell? ⟨w.heap.size, 0, none⟩ = some (.iface F.ty F.v)) (go_keep) (((with_reducible refine C2.out.mono ?_); rintro e w3 ⟨rfl, H⟩; have cg3 := H.cell HGo.out HGb.out HGA.out HCg.out; have ck3 := H.kind; have S3 := Aside0.mk H; clear H))
  have C3 := Aside0.mk (S3.out.text HG.out HR.out rfl (by omega))
  go_wp2
  go_region_held3 (fun W => W.cell? ⟨w.heap.size, 0, none⟩ = some (.iface F.ty F.v)) (go_keep) (((with_reducible refine C3.out.mono ?_); rintro e w4 ⟨rfl, H⟩; have cg4 := H.cell HGo.out HGb.out HGA.out HCg.out; have ck4 := H.kind; have S4 := Aside0.mk H; clear H))
  have C4 := Aside0.mk (S4.out.rowC HG.out HR.out pos_c rfl (by omega))
  go_wp2
  go_region_held3 (fun W => W.cell? ⟨w.heap.size, 0, none⟩ = some (.iface F.ty F.v)) (go_keep) (((with_reducible refine C4.out.mono ?_); rintro e w5 ⟨rfl, H⟩; have cg5 := H.cell HGo.out HGb.out HGA.out HCg.out; have ck5 := H.kind; have S5 := Aside0.mk H; clear H))
  go_wp2
  go_end0
  exact S5.out.done

end Go.Proofs.Ytcbehfbfaonanaa.Wr
end

/- A message handed to a form whole: its kind, its head, its fields. -/
section
namespace Go.Proofs.Ytcbehfbfaonanaa.Wr
open Go.RowKit Go.Proofs.YtcbehfbfaonanaaW.PrintWords Go.Proofs.YtcbehfbfaonanaaW.PrintLast Go.Proofs.YtcbehfbfaonanaaW.PrintMore Go.Proofs.Ytcbehfbfaonanaa.Pk
set_option linter.unusedVariables false
set_option linter.unusedSimpArgs false

theorem fields_c (n : Int) : WholeC 41 (fieldsS n) (fun v => v = .int .i64 n) := by
  by_cases h : n < 1 ∨ n = 6 ∨ 10 < n
  · exact fieldsO_c n h
  · have : n = 1 ∨ n = 2 ∨ n = 3 ∨ n = 4 ∨ n = 5 ∨ n = 7 ∨ n = 8 ∨ n = 9 ∨ n = 10 := by omega
    rcases this with rfl | rfl | rfl | rfl | rfl | rfl | rfl | rfl | rfl
    · exact fields1_c
    · exact fields2_c
    · exact fields3_c
    · exact fields4_c
    · exact fields5_c
    · exact fields7_c
    · exact fields8_c
    · exact fields9_c
    · exact fields10_c
def script (n : Int) : List Step := headS n ++ (fieldsS n ++ [])
theorem head_pos (n : Int) : (headS n).all Step.pos = true := by
  unfold headS
  split
  · rfl
  · split <;> rfl
theorem fields_pos (n : Int) : (fieldsS n).all Step.pos = true := by
  unfold fieldsS
  repeat' split
  all_goals rfl
theorem script_few (n : Int) : (script n).all Step.few = true := by
  unfold script headS fieldsS
  simp only [List.all_append, Bool.and_eq_true]
  refine ⟨?_, ?_, rfl⟩
  · repeat' split
    all_goals rfl
  · repeat' split
    all_goals rfl
theorem script_len (n : Int) : (script n).length ≤ 16 := by
  unfold script headS fieldsS
  simp only [List.length_append]
  repeat' split
  all_goals simp [partS, whoS, faultS]
def kindM (m : M) : Int := match m.c 0 with | .int .i64 n => n | _ => 0
/-- The whole message handed to the form. -/
def Form.all (F : Form) (s : F.σ) (m : M) : F.σ × M := F.run (F.rowM s m 0 [.num 1 10]).1 (F.rowM s m 0 [.num 1 10]).2 (script (kindM (F.rowM s m 0 [.num 1 10]).2))
def Form.allCost (F : Form) (s : F.σ) (m : M) : Nat := 8 + F.runCost (F.rowM s m 0 [.num 1 10]).1 (F.rowM s m 0 [.num 1 10]).2 (script (kindM (F.rowM s m 0 [.num 1 10]).2))
theorem allCost_le {F : Form} {J : F.σ → Prop} {N : Nat} (hT : F.Tame J N) {s : F.σ} {m : M} (hs : J s) (hm : LiteM N m) (hw : Wide m) : F.allCost s m ≤ 8 + 16 * most1 N := by
  have h1 := hT.rowM (i := 0) (fs := [.num 1 10]) hs hm
  have h2 := runCost_le hT (ts := script (kindM (F.rowM s m 0 [.num 1 10]).2)) h1.1 h1.2 (show Wide (F.rowM s m 0 [.num 1 10]).2 from hw) (script_few _)
  have h3 := Nat.mul_le_mul_right (most1 N) (script_len (kindM (F.rowM s m 0 [.num 1 10]).2))
  unfold Form.allCost
  omega
variable {F : Form} {s : F.σ} {w : World} {b : Nat} {A : Nat → Prop} {m : M}
/-- The kind is handed over: the rest stands. -/
theorem kind_c (hF : F.Good) (h : MAt F s w b A s 0 m w) (hr : F.room s + F.allCost s m ≤ cap) :
    Calls Try.prog (F.k 0) #[F.v, .pointer (some ⟨b, 0, none⟩), .int .i64 1, .int .i64 10] w (StandOn F s w b A (.int .i64 (kindM (F.rowM s m 0 [.num 1 10]).2)) (F.allCost s m) (F.all s m).1 (F.all s m).2 (script (kindM (F.rowM s m 0 [.num 1 10]).2))) := by
  obtain ⟨x, hx⟩ : ∃ x, m.c 0 = .int .i64 x := h.typed 0 rfl
  obtain ⟨cs, h1, h2, h3, h4⟩ := h.blk
  refine (hF.num_c s w b 0 cs _ x 1 10 h.inv h.no (by unfold Form.allCost at hr; omega) h2 ((h3 0 rfl).trans (by rw [hx]))).mono ?_
  rintro e w' ⟨rfl, hS⟩
  have hR := h.rowDid (i := 0) (fs := [.num 1 10]) rfl (d := 8) (w1 := w') (by simpa [valsAt, hx, Form.row, Form.fld, cellsAt] using hS)
  refine ⟨rfl, _, _, _, hR, ?_, ?_, rfl⟩
  · obtain ⟨y, hy⟩ : ∃ y, (F.rowM s m 0 [.num 1 10]).2.c 0 = .int .i64 y := hR.typed 0 rfl
    unfold kindM
    rw [hy]
  · unfold Form.allCost; omega
end Go.Proofs.Ytcbehfbfaonanaa.Wr
end

/- A message made: where its walk begins; what payload comes to. -/
section
namespace Go.Proofs.Ytcbehfbfaonanaa.Wr
open Go.RowKit Go.Proofs.YtcbehfbfaonanaaW.PrintWords Go.Proofs.YtcbehfbfaonanaaW.PrintLast Go.Proofs.YtcbehfbfaonanaaW.PrintMore Go.Proofs.Ytcbehfbfaonanaa.Pk
set_option linter.unusedVariables false
set_option linter.unusedSimpArgs false

def nils : Nat → Value := fun _ => .slice none 0 0
def zeroC : Nat → Value := fun i => match kindOf i with | .num _ _ => .int .i64 0 | .flag => .bool false | .text _ => .string ⟨#[]⟩
theorem zero_msg (W : World) : (zeroValue 35).run Try.prog W = .ok (.agg (msgC zeroC nils)) W := (zero_of_info (n := 26) (by kernel_rfl)).1 W
theorem info_msg : (Try.prog.info? 35).map (·.size) = some 26 := by kernel_rfl
theorem msgC_scalar (c sv : Nat → Value) : ∀ i, scalar i = true → (msgC c sv)[i]? = some (c i) := fun i hi => by
  have h : i < 26 := by unfold scalar at hi; simp only [Bool.and_eq_true, decide_eq_true_eq] at hi; exact hi.1
  have h3 : i ≠ 3 := fun e => by subst e; cases hi
  have h8 : i ≠ 8 := fun e => by subst e; cases hi
  have h9 : i ≠ 9 := fun e => by subst e; cases hi
  have h10 : i ≠ 10 := fun e => by subst e; cases hi
  have : i = 0 ∨ i = 1 ∨ i = 2 ∨ i = 4 ∨ i = 5 ∨ i = 6 ∨ i = 7 ∨ i = 11 ∨ i = 12 ∨ i = 13 ∨ i = 14 ∨ i = 15 ∨ i = 16 ∨ i = 17 ∨ i = 18 ∨ i = 19 ∨ i = 20 ∨ i = 21 ∨ i = 22 ∨ i = 23 ∨ i = 24 ∨ i = 25 := by omega
  rcases this with rfl | rfl | rfl | rfl | rfl | rfl | rfl | rfl | rfl | rfl | rfl | rfl | rfl | rfl | rfl | rfl | rfl | rfl | rfl | rfl | rfl | rfl <;> rfl
theorem msgC_list (c sv : Nat → Value) {j : Nat} {fs : List Fld} (h : (j, fs) ∈ lists) : (msgC c sv)[j]? = some (sv j) := by
  simp only [lists, List.mem_cons, Prod.mk.injEq, List.not_mem_nil, or_false] at h
  rcases h with ⟨rfl, _⟩ | ⟨rfl, _⟩ | ⟨rfl, _⟩ | ⟨rfl, _⟩ <;> rfl
theorem msgC_size (c sv : Nat → Value) : (msgC c sv).size = 26 := rfl
/-- A message that lies in a block of its own, its lists in arrays apart: a walk may begin. -/
theorem MAt.made {F : Form} {s : F.σ} {w : World} {b : Nat} {m : M} {sv : Nat → Value} {A : Nat → Prop} (hI : F.Inv s w) (hno : ¬ F.own w.heap b) (hb : w.heap[b]? = some (.cells (msgC m.c sv) 35 (0, 0)))
    (ht : Typed m) (hf : Fit m) (hn : ∀ j, (m.L j).length ≤ 1048576) (hl : ∀ j fs, (j, fs) ∈ lists → ListAt w (sv j) fs.length (m.L j))
    (hr : ∀ j fs, (j, fs) ∈ lists → ∀ k, arr (sv j) = some k → m.L j ≠ [] → k ≠ b ∧ ¬ F.own w.heap k ∧ A k)
    (hd : ∀ j fs j' fs', (j, fs) ∈ lists → (j', fs') ∈ lists → j' ≠ j → ∀ k, arr (sv j) = some k → m.L j ≠ [] → m.L j' ≠ [] → arr (sv j') ≠ some k) : MAt F s w b A s 0 m w := by
  refine ⟨hI, fun _ _ h => h, Nat.le_refl _, hno, Only.refl _ _, ht, _, msgC_size _ _, hb, msgC_scalar _ _, fun j fs hj => ⟨⟨hf j fs hj, Nat.le_trans (hn j) (by omega)⟩, sv j, msgC_list _ _ hj, hl j fs hj, fun k hk h0 => ⟨(hr j fs hj k hk h0).1, (hr j fs hj k hk h0).2.1, .inl (hr j fs hj k hk h0).2.2, ?_⟩⟩⟩
  intro j' fs' sv' hj' hne hs' h0' ha
  rw [msgC_list _ _ hj'] at hs'
  injection hs' with hs'
  subst hs'
  exact hd j fs j' fs' hj hj' hne k hk h0 h0' ha
theorem ListAt.below {w w' : World} {sv : Value} {st : Nat} {rows : List (List Value)} (h : ListAt w sv st rows) (hB : Below w.heap.size w w') : ListAt w' sv st rows :=
  h.move fun k hk h0 => hB.block k (h.lt hk h0)

theorem oAll_g (g h : Nat) (s : OSt) (m : M) : ((oForm g).all s m).1 = ((oForm h).all s m).1 := by
  unfold Form.all
  have e1 := oRowM g s m 0 [.num 1 10]
  have e2 := oRowM h s m 0 [.num 1 10]
  have e3 : ((oForm g).rowM s m 0 [.num 1 10]).1 = ((oForm h).rowM s m 0 [.num 1 10]).1 := oRow_g g h _ _ s
  rw [e1, e2]
  exact (oRun_g g h _ _ m).trans (congrArg (fun s' : OSt => ((oForm h).run s' m (script (kindM m))).1) e3)
theorem oAll_m (g : Nat) (s : OSt) (m : M) : ((oForm g).all s m).2 = m := (oRun_m g _ _ _).trans (oRowM g s m 0 _)
theorem own_base_le {w : World} {B B' : Nat} {e : TypeId} {st : Nat} {v : Value} {n : Nat} {xs : List Value} (h : w.ownsRow B e st v n xs) (hB : B' ≤ B) : w.ownsRow B' e st v n xs :=
  ⟨h.1, h.2.imp id (fun ⟨g, cap, cur, e1, e2, e3⟩ => ⟨g, cap, cur, e1, Nat.le_trans hB e2, e3⟩)⟩
/-- What a message's payload comes to. -/
def payS (m : M) : OSt := ((oForm 0).all ([], false, false) m).1
def payB (m : M) : List Int := (payS m).1
def payOk (m : M) : Bool := decide (1 ≤ kindM m) && decide (kindM m ≤ 10) && !(payS m).2.1 && !(payS m).2.2
theorem oAll_pay (g : Nat) (m : M) : ((oForm g).all ([], false, false) m).1 = payS m := oAll_g g 0 _ _
def IsPay (m : M) (w : World) (e : Ending) (w' : World) : Prop :=
  Below w.heap.size w w' ∧ ∃ sv ok, e = .returned (.tuple #[sv, .bool ok]) ∧ ok = payOk m ∧ (ok = true → ∃ q c, sv = .slice (some ⟨q, 0, none⟩) (payB m).length c ∧ w'.ownsRow w.heap.size 5 1 sv (payB m).length (nums .u8 (payB m)) ∧ (payB m).length ≤ c ∧ c ≤ 9223372036854775807 ∧ w.heap.size ≤ q ∧ (payB m).length ≤ 9000000000)
theorem oNew {w : World} : OInv w.heap.size ([], false, false) (w.alloc (.cells #[.slice none 0 0, .bool false, .bool false] 83)) :=
  ⟨.slice none 0 0, blk_new w _, ⟨rfl, .inl ⟨rfl, rfl⟩⟩, by simp [Value.ownBlock]⟩
theorem oOwn_new {w : World} {k : Nat} (h : OOwn w.heap.size (w.alloc (.cells #[.slice none 0 0, .bool false, .bool false] 83)).heap k) : k = w.heap.size := by
  obtain ⟨v, hW⟩ := oNew (w := w)
  rcases (OOwn.of hW k).1 h with h | h
  · exact h
  · have e : v = .slice none 0 0 := by
      have := hW.1
      rw [blk_new w _] at this
      injection this with this
      injection this with this
      have := congrArg (fun a : Array Value => a[0]?) this
      simpa using this.symm
    subst e
    simp [Value.ownBlock] at h
def fourS (v3 v8 v9 v10 : Value) : Nat → Value := fun j => if j = 3 then v3 else if j = 8 then v8 else if j = 9 then v9 else if j = 10 then v10 else .slice none 0 0
/-- The walk over payload's copy begins. -/
theorem pay_made {w8 : World} {g4 : Nat} {m : M} {v3 v8 v9 v10 : Value} {B3 B4 B5 B6 B7 : Nat} (hb : w8.heap[g4]? = some (.cells (msgC m.c (fourS v3 v8 v9 v10)) 35 (0, 0)))
    (ht : Typed m) (hf : Fit m) (hn : ∀ j, (m.L j).length ≤ 1048576) (l3 : ListAt w8 v3 7 (m.L 3)) (l8 : ListAt w8 v8 5 (m.L 8)) (l9 : ListAt w8 v9 4 (m.L 9)) (l10 : ListAt w8 v10 3 (m.L 10))
    (r3 : ∀ k, arr v3 = some k → m.L 3 ≠ [] → B3 ≤ k ∧ k < B4) (r8 : ∀ k, arr v8 = some k → m.L 8 ≠ [] → B4 ≤ k ∧ k < B5) (r9 : ∀ k, arr v9 = some k → m.L 9 ≠ [] → B5 ≤ k ∧ k < B6) (r10 : ∀ k, arr v10 = some k → m.L 10 ≠ [] → B6 ≤ k ∧ k < B7)
    (h3 : g4 < B3) (h4 : B3 ≤ B4) (h5 : B4 ≤ B5) (h6 : B5 ≤ B6) (h7 : B6 ≤ B7) (h8 : B7 ≤ w8.heap.size) :
    MAt (oForm w8.heap.size) ([], false, false) (w8.alloc (.cells #[.slice none 0 0, .bool false, .bool false] 83)) g4 (fun k => B3 ≤ k ∧ k < w8.heap.size) ([], false, false) 0 m (w8.alloc (.cells #[.slice none 0 0, .bool false, .bool false] 83)) := by
  have hmv : ∀ k, k < w8.heap.size → (w8.alloc (.cells #[.slice none 0 0, .bool false, .bool false] 83)).heap[k]? = w8.heap[k]? := fun k hk => Below.heap_alloc w8 _ k hk
  have hR : ∀ j fs, (j, fs) ∈ lists → ∀ k, arr (fourS v3 v8 v9 v10 j) = some k → m.L j ≠ [] → B3 ≤ k ∧ k < B7 ∧ (j = 3 → k < B4) ∧ (j = 8 → B4 ≤ k ∧ k < B5) ∧ (j = 9 → B5 ≤ k ∧ k < B6) ∧ (j = 10 → B6 ≤ k) := by
    intro j fs hj k hk h0
    simp only [lists, List.mem_cons, Prod.mk.injEq, List.not_mem_nil, or_false] at hj
    rcases hj with ⟨rfl, _⟩ | ⟨rfl, _⟩ | ⟨rfl, _⟩ | ⟨rfl, _⟩
    · have := r3 k hk h0; omega
    · have := r8 k hk h0; omega
    · have := r9 k hk h0; omega
    · have := r10 k hk h0; omega
  refine MAt.made oNew (fun h => ?_) ((hmv g4 (by omega)).trans hb) ht hf hn ?_ ?_ ?_
  · have := oOwn_new h; omega
  · intro j fs hj
    have hj' := hj
    simp only [lists, List.mem_cons, Prod.mk.injEq, List.not_mem_nil, or_false] at hj
    rcases hj with ⟨rfl, rfl⟩ | ⟨rfl, rfl⟩ | ⟨rfl, rfl⟩ | ⟨rfl, rfl⟩
    · exact l3.below ((Below.refl _ _).alloc (Nat.le_refl _) _)
    · exact l8.below ((Below.refl _ _).alloc (Nat.le_refl _) _)
    · exact l9.below ((Below.refl _ _).alloc (Nat.le_refl _) _)
    · exact l10.below ((Below.refl _ _).alloc (Nat.le_refl _) _)
  · intro j fs hj k hk h0
    have := hR j fs hj k hk h0
    refine ⟨by omega, fun h => ?_, by omega, by omega⟩
    have := oOwn_new h; omega
  · intro j fs j' fs' hj hj' hne k hk h0 h0' hk'
    have a1 := hR j fs hj k hk h0
    have a2 := hR j' fs' hj' k hk' h0'
    simp only [lists, List.mem_cons, Prod.mk.injEq, List.not_mem_nil, or_false] at hj hj'
    rcases hj with ⟨rfl, _⟩ | ⟨rfl, _⟩ | ⟨rfl, _⟩ | ⟨rfl, _⟩ <;> rcases hj' with ⟨rfl, _⟩ | ⟨rfl, _⟩ | ⟨rfl, _⟩ | ⟨rfl, _⟩ <;> first | exact hne rfl | omega
theorem pay_room (g : Nat) {m : M} (hs : Small m) : (oForm g).room ([], false, false) + (oForm g).allCost ([], false, false) m ≤ 9000000000 := by
  have h := allCost_le (oTame g 1048576) (s := ([], false, false)) trivial hs.lite hs.wide
  have e : (oForm g).room ([], false, false) = 0 := rfl
  rw [e]
  unfold most1 at h
  omega
theorem le_cap {n : Nat} (h : n ≤ 9000000000) : n ≤ cap := by unfold cap; omega
/-- Where payload's walk stands. -/
def PayAt (w8 : World) (g4 B : Nat) (m : M) (C : Nat) (n : Int) (ts : List Step) (w : World) : Prop :=
  (oForm w8.heap.size).room ([], false, false) + C ≤ 9000000000 ∧ Stand (oForm w8.heap.size) ([], false, false) (w8.alloc (.cells #[.slice none 0 0, .bool false, .bool false] 83)) g4 (fun k => B ≤ k ∧ k < w8.heap.size) (.int .i64 n) C (payS m) m ts w
theorem pay_kind {w8 : World} {g4 B : Nat} {m : M} (h : MAt (oForm w8.heap.size) ([], false, false) (w8.alloc (.cells #[.slice none 0 0, .bool false, .bool false] 83)) g4 (fun k => B ≤ k ∧ k < w8.heap.size) ([], false, false) 0 m (w8.alloc (.cells #[.slice none 0 0, .bool false, .bool false] 83))) (hs : Small m) :
    ∃ n C, Calls Try.prog 39 #[.pointer (some ⟨w8.heap.size, 0, none⟩), .pointer (some ⟨g4, 0, none⟩), .int .i64 1, .int .i64 10] (w8.alloc (.cells #[.slice none 0 0, .bool false, .bool false] 83))
      (fun e w => e = .returned (.tuple #[]) ∧ PayAt w8 g4 B m C n (script n) w) := by
  have hr := pay_room w8.heap.size hs
  have hC := kind_c (oGood w8.heap.size) h (le_cap hr)
  rw [oAll_pay, oAll_m] at hC
  exact ⟨_, _, hC.mono fun e w H => ⟨H.1, hr, H.2⟩⟩
theorem pay_head {w8 w : World} {g4 B : Nat} {m : M} {C : Nat} {n : Int} (h : PayAt w8 g4 B m C n (script n) w) :
    Calls Try.prog 40 #[.iface 77 (.pointer (some ⟨w8.heap.size, 0, none⟩)), .pointer (some ⟨g4, 0, none⟩)] w (fun e w => e = .returned (.tuple #[]) ∧ PayAt w8 g4 B m C n (fieldsS n ++ []) w) :=
  (Stand.whole' (head_c n) h.2 (oGood w8.heap.size) (le_cap h.1) rfl (head_pos n)).mono fun e w H => ⟨H.1, h.1, H.2⟩
theorem pay_fields {w8 w : World} {g4 B : Nat} {m : M} {C : Nat} {n : Int} (h : PayAt w8 g4 B m C n (fieldsS n ++ []) w) :
    Calls Try.prog 41 #[.iface 77 (.pointer (some ⟨w8.heap.size, 0, none⟩)), .pointer (some ⟨g4, 0, none⟩)] w (fun e w => e = .returned (.tuple #[]) ∧ PayAt w8 g4 B m C n [] w) :=
  (Stand.whole' (fields_c n) h.2 (oGood w8.heap.size) (le_cap h.1) rfl (fields_pos n)).mono fun e w H => ⟨H.1, h.1, H.2⟩
/-- What payload's walk has turned was made by it. -/
theorem pay_end {w w8 w12 : World} {g4 B : Nat} {m : M} {C : Nat} {n : Int} (h0 : Below w.heap.size w w8) (h : PayAt w8 g4 B m C n [] w12) (h4 : g4 < B) (hB : w.heap.size ≤ g4) : Below w.heap.size w w12 ∧ ∃ v, WrAt w12 w8.heap.size 83 [.bool (payS m).2.2] v (payS m).1 (payS m).2.1 ∧ (payS m).1.length ≤ 9000000000 := by
  have h' := h.2.done.2
  have hr : (payS m).1.length ≤ 9000000000 := Nat.le_trans h'.room h.1
  obtain ⟨v, hW⟩ := h'.inv
  refine ⟨below_only (h0.alloc h0.size _) h'.only (by have := h0.size; rw [World.size_alloc]; omega) ?_, v, hW, hr⟩
  rintro k (hk | hk | hk)
  · have := oOwn_new hk; have := h0.size; omega
  · omega
  · omega
end Go.Proofs.Ytcbehfbfaonanaa.Wr
end

/- payload: a message's fields as bytes. -/
section
namespace Go.Proofs.Ytcbehfbfaonanaa.Wr
open Go.RowKit Go.Proofs.YtcbehfbfaonanaaW.PrintWords Go.Proofs.YtcbehfbfaonanaaW.PrintLast Go.Proofs.YtcbehfbfaonanaaW.PrintMore Go.Proofs.Ytcbehfbfaonanaa.Pk
set_option linter.unusedVariables false
set_option linter.unusedSimpArgs false


set_option maxRecDepth 100000 in
set_option maxHeartbeats 4000000 in
theorem payload_c (w : World) (v : Value) (m : M) (sv : Nat → Value) (h : MsgRd w v m sv) (hs : Small m) :
    Calls Try.prog 19 #[v] w (IsPay m w) := by
  obtain ⟨ev, ht, hf, hr⟩ := h
  have HH := Aside0.mk (And.intro ht (And.intro hf hs))
  obtain ⟨x0, e0⟩ := ht 0 rfl
  have E0 := Aside0.mk e0
  obtain ⟨x1, e1⟩ := ht 1 rfl
  have E1 := Aside0.mk e1
  obtain ⟨x2, e2⟩ := ht 2 rfl
  have E2 := Aside0.mk e2
  obtain ⟨x4, e4⟩ := ht 4 rfl
  have E4 := Aside0.mk e4
  obtain ⟨x5, e5⟩ := ht 5 rfl
  have E5 := Aside0.mk e5
  obtain ⟨x6, e6⟩ := ht 6 rfl
  have E6 := Aside0.mk e6
  obtain ⟨x7, e7⟩ := ht 7 rfl
  have E7 := Aside0.mk e7
  obtain ⟨x11, e11⟩ := ht 11 rfl
  have E11 := Aside0.mk e11
  obtain ⟨x12, e12⟩ := ht 12 rfl
  have E12 := Aside0.mk e12
  obtain ⟨x13, e13⟩ := ht 13 rfl
  have E13 := Aside0.mk e13
  obtain ⟨x14, e14⟩ := ht 14 rfl
  have E14 := Aside0.mk e14
  obtain ⟨x15, e15⟩ := ht 15 rfl
  have E15 := Aside0.mk e15
  obtain ⟨x16, e16⟩ := ht 16 rfl
  have E16 := Aside0.mk e16
  obtain ⟨x17, e17⟩ := ht 17 rfl
  have E17 := Aside0.mk e17
  obtain ⟨x18, e18⟩ := ht 18 rfl
  have E18 := Aside0.mk e18
  obtain ⟨x19, e19⟩ := ht 19 rfl
  have E19 := Aside0.mk e19
  obtain ⟨x20, e20⟩ := ht 20 rfl
  have E20 := Aside0.mk e20
  obtain ⟨x21, e21⟩ := ht 21 rfl
  have E21 := Aside0.mk e21
  obtain ⟨x22, e22⟩ := ht 22 rfl
  have E22 := Aside0.mk e22
  obtain ⟨x23, e23⟩ := ht 23 rfl
  have E23 := Aside0.mk e23
  obtain ⟨x24, e24⟩ := ht 24 rfl
  have E24 := Aside0.mk e24
  obtain ⟨x25, e25⟩ := ht 25 rfl
  have E25 := Aside0.mk e25
  have HC := Aside0.mk (fun (W : World) (hB : Below w.heap.size w W) => And.intro (cloneEntry_c W (sv 3) (m.L 3) ((hr 3 entryF (by simp [lists])).below (by simp [entryF]) (fitl hf (by simp [lists])) hB) (hf 3 entryF (by simp [lists])) (hs.few 3)) (And.intro (clonePair_c W (sv 8) (m.L 8) ((hr 8 pairF (by simp [lists])).below (by simp [pairF]) (fitl hf (by simp [lists])) hB) (hf 8 pairF (by simp [lists])) (hs.few 8)) (And.intro (cloneSeen_c W (sv 9) (m.L 9) ((hr 9 seenF (by simp [lists])).below (by simp [seenF]) (fitl hf (by simp [lists])) hB) (hf 9 seenF (by simp [lists])) (hs.few 9)) (cloneEpoch_c W (sv 10) (m.L 10) ((hr 10 epochF (by simp [lists])).below (by simp [epochF]) (fitl hf (by simp [lists])) hB) (hf 10 epochF (by simp [lists])) (hs.few 10)))))
  obtain ⟨A3, c3, s3, R3⟩ := hr 3 entryF (by simp [lists])
  obtain ⟨A8, c8, s8, R8⟩ := hr 8 pairF (by simp [lists])
  obtain ⟨A9, c9, s9, R9⟩ := hr 9 seenF (by simp [lists])
  obtain ⟨A10, c10, s10, R10⟩ := hr 10 epochF (by simp [lists])
  have ev' : v = .agg #[.int .i64 x0, .int .i64 x1, .int .i64 x2, .slice A3 (m.L 3).length c3, .int .i64 x4, .int .i64 x5, .int .i64 x6, .int .i64 x7, .slice A8 (m.L 8).length c8, .slice A9 (m.L 9).length c9, .slice A10 (m.L 10).length c10, .int .i64 x11, .int .i64 x12, .bool x13, .int .i64 x14, .int .i64 x15, .string x16, .bool x17, .string x18, .int .i64 x19, .int .i64 x20, .int .i64 x21, .int .i64 x22, .int .i64 x23, .bool x24, .string x25] := by rw [ev]; simp only [msgV, msgC, e0, e1, e2, e4, e5, e6, e7, e11, e12, e13, e14, e15, e16, e17, e18, e19, e20, e21, e22, e23, e24, e25, s3, s8, s9, s10]
  rw [s3] at HC
  rw [s8] at HC
  rw [s9] at HC
  rw [s10] at HC
  rw [ev']
  clear ev ev' ht hf hr hs e0 e1 e2 e4 e5 e6 e7 e11 e12 e13 e14 e15 e16 e17 e18 e19 e20 e21 e22 e23 e24 e25 s3 R3 s8 R8 s9 R9 s10 R10
  by_cases h1 : x0 < 1
  · have HP := Aside0.mk (show payOk m = false from by unfold payOk kindM; rw [E0.out]; simp only [decide_eq_false (show ¬ 1 ≤ x0 from by omega), Bool.false_and])
    clear HH HC E0 E1 E2 E4 E5 E6 E7 E11 E12 E13 E14 E15 E16 E17 E18 E19 E20 E21 E22 E23 E24 E25
    go_enter Try.func19, Try.ntmps19
    go_wp2_with (first | ((with_reducible refine gate_dst (N := 1) rfl ?_); refine box_row rfl 35 (.tmp 0) rfl #[.int .i64 x0, .int .i64 x1, .int .i64 x2, .slice A3 (m.L 3).length c3, .int .i64 x4, .int .i64 x5, .int .i64 x6, .int .i64 x7, .slice A8 (m.L 8).length c8, .slice A9 (m.L 9).length c9, .slice A10 (m.L 10).length c10, .int .i64 x11, .int .i64 x12, .bool x13, .int .i64 x14, .int .i64 x15, .string x16, .bool x17, .string x18, .int .i64 x19, .int .i64 x20, .int .i64 x21, .int .i64 x22, .int .i64 x23, .bool x24, .string x25] rfl ?_; intro gb w1 hg hbox hb; have HB1 := Aside0.mk hb; clear hb hg; have q0 := blk_cell hbox 0; simp only [List.getElem?_toArray, List.getElem?_cons_zero, List.getElem?_cons_succ] at q0; clear hbox))
    go_ret2
    exact ⟨HB1.out, _, _, rfl, HP.out.symm, fun h => by cases h⟩
  by_cases h2 : 10 < x0
  · have HP := Aside0.mk (show payOk m = false from by unfold payOk kindM; rw [E0.out]; simp only [decide_eq_false (show ¬ x0 ≤ 10 from by omega), Bool.and_false, Bool.false_and])
    clear HH HC E0 E1 E2 E4 E5 E6 E7 E11 E12 E13 E14 E15 E16 E17 E18 E19 E20 E21 E22 E23 E24 E25
    go_enter Try.func19, Try.ntmps19
    go_wp2_with (first | ((with_reducible refine gate_dst (N := 1) rfl ?_); refine box_row rfl 35 (.tmp 0) rfl #[.int .i64 x0, .int .i64 x1, .int .i64 x2, .slice A3 (m.L 3).length c3, .int .i64 x4, .int .i64 x5, .int .i64 x6, .int .i64 x7, .slice A8 (m.L 8).length c8, .slice A9 (m.L 9).length c9, .slice A10 (m.L 10).length c10, .int .i64 x11, .int .i64 x12, .bool x13, .int .i64 x14, .int .i64 x15, .string x16, .bool x17, .string x18, .int .i64 x19, .int .i64 x20, .int .i64 x21, .int .i64 x22, .int .i64 x23, .bool x24, .string x25] rfl ?_; intro gb w1 hg hbox hb; have HB1 := Aside0.mk hb; clear hb hg; have q0 := blk_cell hbox 0; simp only [List.getElem?_toArray, List.getElem?_cons_zero, List.getElem?_cons_succ] at q0; clear hbox))
    go_ret2
    exact ⟨HB1.out, _, _, rfl, HP.out.symm, fun h => by cases h⟩
  have HK := Aside0.mk (show kindM m = x0 from by unfold kindM; rw [E0.out])
  go_enter Try.func19, Try.ntmps19
  go_wp2_with (first | ((with_reducible refine gate_dst (N := 1) rfl ?_); refine box_row rfl 35 (.tmp 0) rfl #[.int .i64 x0, .int .i64 x1, .int .i64 x2, .slice A3 (m.L 3).length c3, .int .i64 x4, .int .i64 x5, .int .i64 x6, .int .i64 x7, .slice A8 (m.L 8).length c8, .slice A9 (m.L 9).length c9, .slice A10 (m.L 10).length c10, .int .i64 x11, .int .i64 x12, .bool x13, .int .i64 x14, .int .i64 x15, .string x16, .bool x17, .string x18, .int .i64 x19, .int .i64 x20, .int .i64 x21, .int .i64 x22, .int .i64 x23, .bool x24, .string x25] rfl ?_; intro gb w1 hg hbox hb; have HB1 := Aside0.mk hb; have HX1 := Aside0.mk hbox; have HG1 := Aside0.mk hg; clear hb hg; have q0 := blk_cell hbox 0; simp only [List.getElem?_toArray, List.getElem?_cons_zero, List.getElem?_cons_succ] at q0; have q1 := blk_cell hbox 1; simp only [List.getElem?_toArray, List.getElem?_cons_zero, List.getElem?_cons_succ] at q1; have q2 := blk_cell hbox 2; simp only [List.getElem?_toArray, List.getElem?_cons_zero, List.getElem?_cons_succ] at q2; have q3 := blk_cell hbox 3; simp only [List.getElem?_toArray, List.getElem?_cons_zero, List.getElem?_cons_succ] at q3; have q4 := blk_cell hbox 4; simp only [List.getElem?_toArray, List.getElem?_cons_zero, List.getElem?_cons_succ] at q4; have q5 := blk_cell hbox 5; simp only [List.getElem?_toArray, List.getElem?_cons_zero, List.getElem?_cons_succ] at q5; have q6 := blk_cell hbox 6; simp only [List.getElem?_toArray, List.getElem?_cons_zero, List.getElem?_cons_succ] at q6; have q7 := blk_cell hbox 7; simp only [List.getElem?_toArray, List.getElem?_cons_zero, List.getElem?_cons_succ] at q7; have q8 := blk_cell hbox 8; simp only [List.getElem?_toArray, List.getElem?_cons_zero, List.getElem?_cons_succ] at q8; have q9 := blk_cell hbox 9; simp only [List.getElem?_toArray, List.getElem?_cons_zero, List.getElem?_cons_succ] at q9; have q10 := blk_cell hbox 10; simp only [List.getElem?_toArray, List.getElem?_cons_zero, List.getElem?_cons_succ] at q10; have q11 := blk_cell hbox 11; simp only [List.getElem?_toArray, List.getElem?_cons_zero, List.getElem?_cons_succ] at q11; have q12 := blk_cell hbox 12; simp only [List.getElem?_toArray, List.getElem?_cons_zero, List.getElem?_cons_succ] at q12; have q13 := blk_cell hbox 13; simp only [List.getElem?_toArray, List.getElem?_cons_zero, List.getElem?_cons_succ] at q13; have q14 := blk_cell hbox 14; simp only [List.getElem?_toArray, List.getElem?_cons_zero, List.getElem?_cons_succ] at q14; have q15 := blk_cell hbox 15; simp only [List.getElem?_toArray, List.getElem?_cons_zero, List.getElem?_cons_succ] at q15; have q16 := blk_cell hbox 16; simp only [List.getElem?_toArray, List.getElem?_cons_zero, List.getElem?_cons_succ] at q16; have q17 := blk_cell hbox 17; simp only [List.getElem?_toArray, List.getElem?_cons_zero, List.getElem?_cons_succ] at q17; have q18 := blk_cell hbox 18; simp only [List.getElem?_toArray, List.getElem?_cons_zero, List.getElem?_cons_succ] at q18; have q19 := blk_cell hbox 19; simp only [List.getElem?_toArray, List.getElem?_cons_zero, List.getElem?_cons_succ] at q19; have q20 := blk_cell hbox 20; simp only [List.getElem?_toArray, List.getElem?_cons_zero, List.getElem?_cons_succ] at q20; have q21 := blk_cell hbox 21; simp only [List.getElem?_toArray, List.getElem?_cons_zero, List.getElem?_cons_succ] at q21; have q22 := blk_cell hbox 22; simp only [List.getElem?_toArray, List.getElem?_cons_zero, List.getElem?_cons_succ] at q22; have q23 := blk_cell hbox 23; simp only [List.getElem?_toArray, List.getElem?_cons_zero, List.getElem?_cons_succ] at q23; have q24 := blk_cell hbox 24; simp only [List.getElem?_toArray, List.getElem?_cons_zero, List.getElem?_cons_succ] at q24; have q25 := blk_cell hbox 25; simp only [List.getElem?_toArray, List.getElem?_cons_zero, List.getElem?_cons_succ] at q25; clear hbox) | ((with_reducible refine gate_dst (N := 4) rfl ?_); refine alloc_row rfl 35 rfl _ (zero_msg _) ?_; intro g4 w2 hg hbox hb; have HB2 := Aside0.mk hb; have HX2 := Aside0.mk hbox; have HG2 := Aside0.mk hg; clear hb hg hbox) | ((with_reducible refine gate_store (t := 35) (p := 4) (v := .tmp 48) rfl ?_); refine store_row rfl 35 (.tmp 4) (.tmp 48) rfl g4 rfl #[.int .i64 x0, .int .i64 x1, .int .i64 x2, .slice none 0 0, .int .i64 x4, .int .i64 x5, .int .i64 x6, .int .i64 x7, .slice none 0 0, .slice none 0 0, .slice none 0 0, .int .i64 x11, .int .i64 x12, .bool x13, .int .i64 x14, .int .i64 x15, .string x16, .bool x17, .string x18, .int .i64 x19, .int .i64 x20, .int .i64 x21, .int .i64 x22, .int .i64 x23, .bool x24, .string x25] _ rfl _ HX2.out rfl info_msg rfl ?_; intro w3 hX hO; have HX3 := Aside0.mk hX; have HO3 := Aside0.mk hO; clear hX hO))
  have hgb := blk_lt HX1.out
  have hg4 := HG2.out
  have hne : gb ≠ g4 := by omega
  have hne' : g4 ≠ gb := by omega
  have HGE := Aside0.mk (show w.heap.size ≤ g4 from by have := HB1.out.size; omega)
  have HXb := Aside0.mk (show w3.heap[gb]? = some (.cells #[.int .i64 x0, .int .i64 x1, .int .i64 x2, .slice A3 (m.L 3).length c3, .int .i64 x4, .int .i64 x5, .int .i64 x6, .int .i64 x7, .slice A8 (m.L 8).length c8, .slice A9 (m.L 9).length c9, .slice A10 (m.L 10).length c10, .int .i64 x11, .int .i64 x12, .bool x13, .int .i64 x14, .int .i64 x15, .string x16, .bool x17, .string x18, .int .i64 x19, .int .i64 x20, .int .i64 x21, .int .i64 x22, .int .i64 x23, .bool x24, .string x25] 35 (0, 0)) from (HO3.out.block gb (by have := HB2.out.size; omega) hne).trans ((HB2.out.block gb hgb).trans HX1.out))
  have HBw := Aside0.mk (below_only (HB1.out.trans (HB2.out.mono HB1.out.size)) HO3.out (by have := HB1.out.size; have := HB2.out.size; omega) (fun k hk => by have := HB1.out.size; have hk' : k = g4 := hk; omega))
  clear q0 q1 q2 q3 q4 q5 q6 q7 q8 q9 q10 q11 q12 q13 q14 q15 q16 q17 q18 q19 q20 q21 q22 q23 q24 q25 HB1 HX1 HG1 HB2 HX2 HG2 HO3 hgb hg4
  have t3 := blk_cell HXb.out 3
  simp only [List.getElem?_toArray, List.getElem?_cons_zero, List.getElem?_cons_succ] at t3
  have t8 := blk_cell HXb.out 8
  simp only [List.getElem?_toArray, List.getElem?_cons_zero, List.getElem?_cons_succ] at t8
  have t9 := blk_cell HXb.out 9
  simp only [List.getElem?_toArray, List.getElem?_cons_zero, List.getElem?_cons_succ] at t9
  have t10 := blk_cell HXb.out 10
  simp only [List.getElem?_toArray, List.getElem?_cons_zero, List.getElem?_cons_succ] at t10
  go_region_held3 (fun W => W.cell? ⟨gb, 3, none⟩ = some (.slice A3 (m.L 3).length c3) ∧ W.cell? ⟨gb, 8, none⟩ = some (.slice A8 (m.L 8).length c8) ∧ W.cell? ⟨gb, 9, none⟩ = some (.slice A9 (m.L 9).length c9) ∧ W.cell? ⟨gb, 10, none⟩ = some (.slice A10 (m.L 10).length c10)) (go_keep) ((first | (go_at_call 35; (with_reducible refine ((HC.out _ HBw.out.drew).1).mono ?_); rintro e w4 ⟨s, rfl, hB, hA, hR, hN⟩; obtain ⟨a3, k3, es, _⟩ := id hA; subst es; have HBw4 := Aside0.mk ((HBw.out.drew).trans (hB.mono (HBw.out.drew).size)); have HXb4 := Aside0.mk ((hB.block gb (blk_lt HXb.out)).trans HXb.out); have HX44 := Aside0.mk ((hB.block g4 (blk_lt HX3.out)).trans HX3.out); have HA3 := Aside0.mk hA; have HN3 := Aside0.mk hN; have HS3 := Aside0.mk hB; clear hA hN hR hB; have t3_4 := blk_cell HXb4.out 3; simp only [List.getElem?_toArray, List.getElem?_cons_zero, List.getElem?_cons_succ] at t3_4; have t8_4 := blk_cell HXb4.out 8; simp only [List.getElem?_toArray, List.getElem?_cons_zero, List.getElem?_cons_succ] at t8_4; have t9_4 := blk_cell HXb4.out 9; simp only [List.getElem?_toArray, List.getElem?_cons_zero, List.getElem?_cons_succ] at t9_4; have t10_4 := blk_cell HXb4.out 10; simp only [List.getElem?_toArray, List.getElem?_cons_zero, List.getElem?_cons_succ] at t10_4) | (go_at_call 36; (with_reducible refine ((HC.out _ HBw4.out).2.1).mono ?_); rintro e w5 ⟨s, rfl, hB, hA, hR, hN⟩; obtain ⟨a8, k8, es, _⟩ := id hA; subst es; have HBw5 := Aside0.mk ((HBw4.out).trans (hB.mono (HBw4.out).size)); have HXb5 := Aside0.mk ((hB.block gb (blk_lt HXb4.out)).trans HXb4.out); have HX45 := Aside0.mk ((hB.block g4 (blk_lt HX44.out)).trans HX44.out); have HA8 := Aside0.mk hA; have HN8 := Aside0.mk hN; have HS8 := Aside0.mk hB; clear hA hN hR hB; have t3_5 := blk_cell HXb5.out 3; simp only [List.getElem?_toArray, List.getElem?_cons_zero, List.getElem?_cons_succ] at t3_5; have t8_5 := blk_cell HXb5.out 8; simp only [List.getElem?_toArray, List.getElem?_cons_zero, List.getElem?_cons_succ] at t8_5; have t9_5 := blk_cell HXb5.out 9; simp only [List.getElem?_toArray, List.getElem?_cons_zero, List.getElem?_cons_succ] at t9_5; have t10_5 := blk_cell HXb5.out 10; simp only [List.getElem?_toArray, List.getElem?_cons_zero, List.getElem?_cons_succ] at t10_5) | (go_at_call 37; (with_reducible refine ((HC.out _ HBw5.out).2.2.1).mono ?_); rintro e w6 ⟨s, rfl, hB, hA, hR, hN⟩; obtain ⟨a9, k9, es, _⟩ := id hA; subst es; have HBw6 := Aside0.mk ((HBw5.out).trans (hB.mono (HBw5.out).size)); have HXb6 := Aside0.mk ((hB.block gb (blk_lt HXb5.out)).trans HXb5.out); have HX46 := Aside0.mk ((hB.block g4 (blk_lt HX45.out)).trans HX45.out); have HA9 := Aside0.mk hA; have HN9 := Aside0.mk hN; have HS9 := Aside0.mk hB; clear hA hN hR hB; have t3_6 := blk_cell HXb6.out 3; simp only [List.getElem?_toArray, List.getElem?_cons_zero, List.getElem?_cons_succ] at t3_6; have t8_6 := blk_cell HXb6.out 8; simp only [List.getElem?_toArray, List.getElem?_cons_zero, List.getElem?_cons_succ] at t8_6; have t9_6 := blk_cell HXb6.out 9; simp only [List.getElem?_toArray, List.getElem?_cons_zero, List.getElem?_cons_succ] at t9_6; have t10_6 := blk_cell HXb6.out 10; simp only [List.getElem?_toArray, List.getElem?_cons_zero, List.getElem?_cons_succ] at t10_6) | (go_at_call 38; (with_reducible refine ((HC.out _ HBw6.out).2.2.2).mono ?_); rintro e w7 ⟨s, rfl, hB, hA, hR, hN⟩; obtain ⟨a10, k10, es, _⟩ := id hA; subst es; have HBw7 := Aside0.mk ((HBw6.out).trans (hB.mono (HBw6.out).size)); have HXb7 := Aside0.mk ((hB.block gb (blk_lt HXb6.out)).trans HXb6.out); have HX47 := Aside0.mk ((hB.block g4 (blk_lt HX46.out)).trans HX46.out); have HA10 := Aside0.mk hA; have HN10 := Aside0.mk hN; have HS10 := Aside0.mk hB; clear hA hN hR hB; have t3_7 := blk_cell HXb7.out 3; simp only [List.getElem?_toArray, List.getElem?_cons_zero, List.getElem?_cons_succ] at t3_7; have t8_7 := blk_cell HXb7.out 8; simp only [List.getElem?_toArray, List.getElem?_cons_zero, List.getElem?_cons_succ] at t8_7; have t9_7 := blk_cell HXb7.out 9; simp only [List.getElem?_toArray, List.getElem?_cons_zero, List.getElem?_cons_succ] at t9_7; have t10_7 := blk_cell HXb7.out 10; simp only [List.getElem?_toArray, List.getElem?_cons_zero, List.getElem?_cons_succ] at t10_7; have p3 := blk_cell HX47.out 3; simp only [List.getElem?_toArray, List.getElem?_cons_zero, List.getElem?_cons_succ] at p3; have f3 := blk_frozen HX47.out 3; have p8 := blk_cell HX47.out 8; simp only [List.getElem?_toArray, List.getElem?_cons_zero, List.getElem?_cons_succ] at p8; have f8 := blk_frozen HX47.out 8; have p9 := blk_cell HX47.out 9; simp only [List.getElem?_toArray, List.getElem?_cons_zero, List.getElem?_cons_succ] at p9; have f9 := blk_frozen HX47.out 9; have p10 := blk_cell HX47.out 10; simp only [List.getElem?_toArray, List.getElem?_cons_zero, List.getElem?_cons_succ] at p10; have f10 := blk_frozen HX47.out 10)))
  have hg4 := blk_lt HX3.out
  have z4 := HS3.out.size
  have z5 := HS8.out.size
  have z6 := HS9.out.size
  have z7 := HS10.out.size
  have zb := HBw.out.size
  have HX8 := Aside0.mk (show ((((w7.setCell ⟨g4, 3, none⟩ (.slice a3 (m.L 3).length k3)).setCell ⟨g4, 8, none⟩ (.slice a8 (m.L 8).length k8)).setCell ⟨g4, 9, none⟩ (.slice a9 (m.L 9).length k9)).setCell ⟨g4, 10, none⟩ (.slice a10 (m.L 10).length k10)).heap[g4]? = some (.cells (msgC m.c (fourS (.slice a3 (m.L 3).length k3) (.slice a8 (m.L 8).length k8) (.slice a9 (m.L 9).length k9) (.slice a10 (m.L 10).length k10))) 35 (0, 0)) from by rw [blk_set (blk_set (blk_set (blk_set HX47.out 3 _) 8 _) 9 _) 10 _]; simp only [msgC, E0.out, E1.out, E2.out, E4.out, E5.out, E6.out, E7.out, E11.out, E12.out, E13.out, E14.out, E15.out, E16.out, E17.out, E18.out, E19.out, E20.out, E21.out, E22.out, E23.out, E24.out, E25.out]; rfl)
  have HB8 := Aside0.mk (show Below w.heap.size w ((((w7.setCell ⟨g4, 3, none⟩ (.slice a3 (m.L 3).length k3)).setCell ⟨g4, 8, none⟩ (.slice a8 (m.L 8).length k8)).setCell ⟨g4, 9, none⟩ (.slice a9 (m.L 9).length k9)).setCell ⟨g4, 10, none⟩ (.slice a10 (m.L 10).length k10)) from (((HBw7.out.setCell (by have := HGE.out; simp only; omega) _).setCell (by have := HGE.out; simp only; omega) _).setCell (by have := HGE.out; simp only; omega) _).setCell (by have := HGE.out; simp only; omega) _)
  have hsz8 : ((((w7.setCell ⟨g4, 3, none⟩ (.slice a3 (m.L 3).length k3)).setCell ⟨g4, 8, none⟩ (.slice a8 (m.L 8).length k8)).setCell ⟨g4, 9, none⟩ (.slice a9 (m.L 9).length k9)).setCell ⟨g4, 10, none⟩ (.slice a10 (m.L 10).length k10)).heap.size = w7.heap.size := by simp only [World.size_setCell]
  have hmv8 : ∀ k, k ≠ g4 → ((((w7.setCell ⟨g4, 3, none⟩ (.slice a3 (m.L 3).length k3)).setCell ⟨g4, 8, none⟩ (.slice a8 (m.L 8).length k8)).setCell ⟨g4, 9, none⟩ (.slice a9 (m.L 9).length k9)).setCell ⟨g4, 10, none⟩ (.slice a10 (m.L 10).length k10)).heap[k]? = w7.heap[k]? := fun k hk => (Below.heap_setCell _ _ _ _ hk).trans ((Below.heap_setCell _ _ _ _ hk).trans ((Below.heap_setCell _ _ _ _ hk).trans (Below.heap_setCell _ _ _ _ hk)))
  have r3 : ∀ k, arr (.slice a3 (m.L 3).length k3) = some k → m.L 3 ≠ [] → w3.heap.size ≤ k ∧ k < w4.heap.size := fun k hk h0 => ⟨HN3.out k hk, HA3.out.lt hk h0⟩
  have r8 : ∀ k, arr (.slice a8 (m.L 8).length k8) = some k → m.L 8 ≠ [] → w4.heap.size ≤ k ∧ k < w5.heap.size := fun k hk h0 => ⟨HN8.out k hk, HA8.out.lt hk h0⟩
  have r9 : ∀ k, arr (.slice a9 (m.L 9).length k9) = some k → m.L 9 ≠ [] → w5.heap.size ≤ k ∧ k < w6.heap.size := fun k hk h0 => ⟨HN9.out k hk, HA9.out.lt hk h0⟩
  have r10 : ∀ k, arr (.slice a10 (m.L 10).length k10) = some k → m.L 10 ≠ [] → w6.heap.size ≤ k ∧ k < w7.heap.size := fun k hk h0 => ⟨HN10.out k hk, HA10.out.lt hk h0⟩
  have l3 := (((HA3.out.below HS8.out).below HS9.out).below HS10.out).move (fun k hk h0 => hmv8 k (by have h := (r3 k hk h0).1; have h' : g4 < w3.heap.size := hg4; omega))
  have l8 := ((HA8.out.below HS9.out).below HS10.out).move (fun k hk h0 => hmv8 k (by have h := (r8 k hk h0).1; have h' : g4 < w3.heap.size := hg4; have h'' : w3.heap.size ≤ w4.heap.size := z4; omega))
  have l9 := (HA9.out.below HS10.out).move (fun k hk h0 => hmv8 k (by have h := (r9 k hk h0).1; have h' : g4 < w3.heap.size := hg4; have h'' : w3.heap.size ≤ w4.heap.size := z4; omega))
  have l10 := HA10.out.move (fun k hk h0 => hmv8 k (by have h := (r10 k hk h0).1; have h' : g4 < w3.heap.size := hg4; have h'' : w3.heap.size ≤ w4.heap.size := z4; omega))
  obtain ⟨ht, hf, hs⟩ := HH.out
  have hz4 : w3.heap.size ≤ w4.heap.size := z4
  have HM := Aside0.mk (pay_made HX8.out ht hf hs.few l3 l8 l9 l10 r3 r8 r9 r10 hg4 hz4 z5 z6 z7 (by rw [hsz8]; exact Nat.le_refl _))
  have HZ := Aside0.mk (And.intro hg4 (show w.heap.size ≤ w3.heap.size from zb))
  clear hg4 z4 z5 z6 z7 zb hsz8 hmv8 r3 r8 r9 r10 l3 l8 l9 l10 hz4 ht hf hs HA3 HA8 HA9 HA10 HN3 HN8 HN9 HN10 HS3 HS8 HS9 HS10 HXb HXb4 HXb5 HXb6 HXb7 HX44 HX45 HX46 HX47 HX3 HX8 HBw HBw4 HBw5 HBw6 HBw7 HC t3_4 t3_5 t3_6 t3_7 t8_4 t8_5 t8_6 t8_7 t9_4 t9_5 t9_6 t9_7 t10_4 t10_5 t10_6 t10_7 t3 p3 f3 t8 p8 f8 t9 p9 f9 t10 p10 f10 E0 E1 E2 E4 E5 E6 E7 E11 E12 E13 E14 E15 E16 E17 E18 E19 E20 E21 E22 E23 E24 E25
  generalize ((((w7.setCell ⟨g4, 3, none⟩ (.slice a3 (m.L 3).length k3)).setCell ⟨g4, 8, none⟩ (.slice a8 (m.L 8).length k8)).setCell ⟨g4, 9, none⟩ (.slice a9 (m.L 9).length k9)).setCell ⟨g4, 10, none⟩ (.slice a10 (m.L 10).length k10)) = w8 at *
  obtain ⟨n, C, hC1⟩ := pay_kind HM.out HH.out.2.2
  have C1 := Aside0.mk hC1
  clear hC1
  obtain ⟨xs, bad, o, hps⟩ : ∃ xs bad o, payS m = (xs, bad, o) := ⟨_, _, _, rfl⟩
  have HPS := Aside0.mk hps
  have HP := Aside0.mk (show payOk m = (!bad && !o) from by unfold payOk; rw [hps, HK.out, decide_eq_true (by omega), decide_eq_true (by omega)]; rfl)
  clear hps
  cases bad
  · go_wp2_with (first | (go_at_call 39; (with_reducible refine C1.out.mono ?_); rintro e w10 ⟨rfl, H⟩; have C2 := Aside0.mk (pay_head H); clear H) | (go_at_call 40; (with_reducible refine C2.out.mono ?_); rintro e w11 ⟨rfl, H⟩; have C3 := Aside0.mk (pay_fields H); clear H) | (go_at_call 41; (with_reducible refine C3.out.mono ?_); rintro e w12 ⟨rfl, H⟩; obtain ⟨hB12, v12, hW12, hL12⟩ := pay_end HB8.out H HZ.out.1 HGE.out; rw [HPS.out] at hW12 hL12; have C4 := Aside0.mk (wBytes_c _ _ _ _ _ _ hW12 (by simp only at hL12 ⊢; omega)); have HC2 := Aside0.mk (WrAt.cell2 hW12); have HB12 := Aside0.mk hB12; have HL12 := Aside0.mk hL12; clear H hB12 hW12 hL12) | (go_at_call 42; (with_reducible refine C4.out.mono ?_); rintro e w13 ⟨q, c, rfl, hO, h3, h4, h5, hB13⟩; have c2 := hB13.cell (p := ⟨w8.heap.size, 2, none⟩) (World.block_lt_of_cell? w12 _ HC2.out); rw [HC2.out] at c2; have HO := Aside0.mk hO; have HB13 := Aside0.mk hB13; have H3 := Aside0.mk h3; have H4 := Aside0.mk h4; have H5 := Aside0.mk h5; clear hO hB13 h3 h4 h5) | fail)
    go_quiet (fail)
    go_wp2
    go_ret2
    refine ⟨pw_below_drewN (HB12.out.trans (HB13.out.mono HB12.out.size)) _, _, _, rfl, ?_, fun _ => ?_⟩
    · rw [HP.out]; rfl
    · have e : payB m = xs := by unfold payB; rw [HPS.out]
      rw [e]
      exact ⟨q, c, rfl, own_base_le HO.out HB12.out.size, H3.out, H4.out, Nat.le_trans HB12.out.size H5.out, HL12.out⟩
  · go_wp2_with (first | (go_at_call 39; (with_reducible refine C1.out.mono ?_); rintro e w10 ⟨rfl, H⟩; have C2 := Aside0.mk (pay_head H); clear H) | (go_at_call 40; (with_reducible refine C2.out.mono ?_); rintro e w11 ⟨rfl, H⟩; have C3 := Aside0.mk (pay_fields H); clear H) | (go_at_call 41; (with_reducible refine C3.out.mono ?_); rintro e w12 ⟨rfl, H⟩; obtain ⟨hB12, v12, hW12, hL12⟩ := pay_end HB8.out H HZ.out.1 HGE.out; rw [HPS.out] at hW12 hL12; have C4 := Aside0.mk (wBytes_bad _ _ _ _ _ _ hW12); have HB12 := Aside0.mk hB12; clear H hB12 hW12 hL12) | (go_at_call 42; (with_reducible refine C4.out.mono ?_); rintro e w13 ⟨rfl, hw⟩; subst hw) | fail)
    go_quiet (fail)
    go_wp2
    go_ret2
    refine ⟨pw_below_drewN HB12.out _, _, _, rfl, ?_, fun h => ?_⟩
    · rw [HP.out]; rfl
    · cases h
end Go.Proofs.Ytcbehfbfaonanaa.Wr
end

/- read: where its walk stands. -/
section
namespace Go.Proofs.Ytcbehfbfaonanaa.Wr
open Go.RowKit Go.Proofs.YtcbehfbfaonanaaW.PrintWords Go.Proofs.YtcbehfbfaonanaaW.PrintLast Go.Proofs.YtcbehfbfaonanaaW.PrintMore Go.Proofs.Ytcbehfbfaonanaa.Pk
set_option linter.unusedVariables false
set_option linter.unusedSimpArgs false

def zeroM : M := ⟨zeroC, fun _ => []⟩
/-! What it reads does not hang on where it lies. -/
section
variable (g r q g' r' q' : Nat)
theorem iRow_g : ∀ (fs : List Fld) (vs : List Value) (s : ISt), ((iForm g r q).row s fs vs : ISt × List Value) = (iForm g' r' q').row s fs vs
  | [], vs, s => by cases vs <;> rfl
  | f :: fs, [], s => rfl
  | f :: fs, v :: vs, s => congrArg (fun p : ISt × List Value => (p.1, ((iForm g r q).fld s f v).2 :: p.2)) (iRow_g fs vs ((iForm g r q).fld s f v).1)
theorem iRows_g (fs : List Fld) : ∀ (rs : List (List Value)) (s : ISt), ((iForm g r q).rows fs s rs : ISt × List (List Value)) = (iForm g' r' q').rows fs s rs
  | [], s => rfl
  | x :: rs, s => by
    have e1 := iRow_g g r q g' r' q' fs x s
    have e2 := iRows_g fs rs ((iForm g r q).row s fs x).1
    show ((((iForm g r q).rows fs ((iForm g r q).row s fs x).1 rs).1, ((iForm g r q).row s fs x).2 :: ((iForm g r q).rows fs ((iForm g r q).row s fs x).1 rs).2) : ISt × List (List Value)) = (((iForm g' r' q').rows fs ((iForm g' r' q').row s fs x).1 rs).1, ((iForm g' r' q').row s fs x).2 :: ((iForm g' r' q').rows fs ((iForm g' r' q').row s fs x).1 rs).2)
    have e3 := congrArg Prod.fst e2
    have e4 := congrArg Prod.snd e2
    have e5 := congrArg Prod.fst e1
    have e6 := congrArg Prod.snd e1
    refine Prod.ext ?_ ?_
    · exact e3.trans (congrArg (fun s' : ISt => (((iForm g' r' q').rows fs s' rs).1 : ISt)) e5)
    · have e7 := e4.trans (congrArg (fun s' : ISt => ((iForm g' r' q').rows fs s' rs).2) e5)
      exact (congrArg (fun a => ((iForm g r q).row s fs x).2 :: a) e7).trans (congrArg (fun a => a :: ((iForm g' r' q').rows fs ((iForm g' r' q').row s fs x).1 rs).2) e6)
theorem iList_g (fs : List Fld) (s : ISt) (most : Nat) (rows : List (List Value)) : ((iForm g r q).list fs s most rows : ISt × List (List Value)) = (iForm g' r' q').list fs s most rows := by
  have e := iRows_g g r q g' r' q' fs (((iForm g r q).listR fs s most rows).take ((iForm g r q).listM s most rows.length)) ((iForm g r q).count s rows.length most).1
  have e1 := congrArg Prod.fst e
  have e2 := congrArg (fun a => a ++ ((iForm g r q).listR fs s most rows).drop ((iForm g r q).listM s most rows.length)) (congrArg Prod.snd e)
  exact Prod.ext e1 e2
theorem iRowM_g (s : ISt) (m : M) (i : Nat) (fs : List Fld) : ((iForm g r q).rowM s m i fs : ISt × M) = (iForm g' r' q').rowM s m i fs :=
  congrArg (fun p : ISt × List Value => ((p.1, { m with c := putAt m.c i p.2 }) : ISt × M)) (iRow_g g r q g' r' q' fs (valsAt m.c i fs.length) s)
theorem iStep_g (s : ISt) (m : M) (t : Step) : ((iForm g r q).step s m t : ISt × M) = (iForm g' r' q').step s m t := by
  cases t with
  | row i fs => exact iRowM_g g r q g' r' q' s m i fs
  | most => exact iRowM_g g r q g' r' q' s m 7 _
  | lst j fs n => exact congrArg (fun p : ISt × List (List Value) => ((p.1, { m with L := upL m.L j p.2 }) : ISt × M)) (iList_g g r q g' r' q' fs s n (m.L j))
theorem iRun_g : ∀ (ts : List Step) (s : ISt) (m : M), ((iForm g r q).run s m ts : ISt × M) = (iForm g' r' q').run s m ts
  | [], s, m => rfl
  | t :: ts, s, m => by
    have e := iStep_g g r q g' r' q' s m t
    show ((iForm g r q).run ((iForm g r q).step s m t).1 ((iForm g r q).step s m t).2 ts : ISt × M) = (iForm g' r' q').run ((iForm g' r' q').step s m t).1 ((iForm g' r' q').step s m t).2 ts
    exact (iRun_g ts _ _).trans (congrArg (fun p : ISt × M => ((iForm g' r' q').run p.1 p.2 ts : ISt × M)) e)
theorem iAll_g (s : ISt) (m : M) : ((iForm g r q).all s m : ISt × M) = (iForm g' r' q').all s m := by
  have e := iRowM_g g r q g' r' q' s m 0 [.num 1 10]
  show ((iForm g r q).run ((iForm g r q).rowM s m 0 [.num 1 10]).1 ((iForm g r q).rowM s m 0 [.num 1 10]).2 (script (kindM ((iForm g r q).rowM s m 0 [.num 1 10]).2)) : ISt × M) = _
  exact (iRun_g g r q g' r' q' _ _ _).trans (congrArg (fun p : ISt × M => ((iForm g' r' q').run p.1 p.2 (script (kindM p.2)) : ISt × M)) e)
end
/-- What bytes say. -/
def rdR (xs : List Int) : ISt × M := (iForm 0 0 0).all (xs, false, false) zeroM
def rdM (xs : List Int) : M := (rdR xs).2
def rdOk (xs : List Int) : Bool := (rend (rdR xs).1.1 (rdR xs).1.2.1 == 0) && !(rdR xs).1.2.2
theorem msgC_eq {cs : Array Value} {c sv : Nat → Value} (hs : cs.size = 26) (h1 : ∀ i, scalar i = true → cs[i]? = some (c i)) (h2 : ∀ j fs, (j, fs) ∈ lists → cs[j]? = some (sv j)) : cs = msgC c sv := by
  apply Array.ext_getElem?
  intro i
  rcases Nat.lt_or_ge i 26 with hi | hi
  · cases h : scalar i with
    | true => rw [h1 i h, msgC_scalar c sv i h]
    | false =>
      have : ∃ fs, (i, fs) ∈ lists := by
        unfold scalar at h
        rw [decide_eq_true hi] at h
        have : i = 3 ∨ i = 8 ∨ i = 9 ∨ i = 10 := by
          simp only [Bool.true_and, Bool.not_eq_false', Bool.or_eq_true, beq_iff_eq] at h
          omega
        rcases this with rfl | rfl | rfl | rfl
        · exact ⟨entryF, by simp [lists]⟩
        · exact ⟨pairF, by simp [lists]⟩
        · exact ⟨seenF, by simp [lists]⟩
        · exact ⟨epochF, by simp [lists]⟩
      obtain ⟨fs, hj⟩ := this
      rw [h2 i fs hj, msgC_list c sv hj]
  · rw [Array.getElem?_eq_none (by omega), Array.getElem?_eq_none (by rw [msgC_size]; omega)]
/-- A message is read of v, its lists in memory from B on. -/
def IsMsg (B : Nat) (m : M) (w : World) (v : Value) : Prop := ∃ sv, MsgRd w v m sv ∧ ∀ j fs, (j, fs) ∈ lists → ∀ k, arr (sv j) = some k → m.L j ≠ [] → B ≤ k
def IsRd (xs : List Int) (w : World) (e : Ending) (w' : World) : Prop :=
  Below w.heap.size w w' ∧ ∃ v ok, e = .returned (.tuple #[v, .bool ok]) ∧ ok = rdOk xs ∧ IsMsg w.heap.size (rdM xs) w' v
theorem zero_typed : Typed zeroM := fun i hi => by
  show (kindOf i).fits (zeroC i)
  unfold zeroC
  cases kindOf i <;> exact ⟨_, rfl⟩
theorem zero_lite (N : Nat) : LiteM N zeroM := ⟨fun i x hx => by
  have hx' : zeroC i = .string x := hx
  unfold zeroC at hx'
  cases h : kindOf i <;> rw [h] at hx' <;> simp at hx'
  subst hx'
  exact Nat.zero_le _, fun j r hr => nomatch hr⟩
theorem zero_fit : Fit zeroM := fun _ _ _ r hr => nomatch hr
theorem zero_wide : Wide zeroM := fun _ r hr => nomatch hr
theorem rd_room (g r q : Nat) {xs : List Int} (hn : xs.length ≤ 9000000000) : (iForm g r q).room (xs, false, false) + (iForm g r q).allCost (xs, false, false) zeroM ≤ cap := by
  have h := allCost_le (iTame g r q 9000000000) (s := (xs, false, false)) hn (zero_lite _) zero_wide
  have e : (iForm g r q).room (xs, false, false) = 0 := rfl
  rw [e]
  unfold most1 at h
  unfold cap
  omega
/-- Where read's walk stands. -/
def RdWalk (gi gr q gm : Nat) (w5 : World) (xs : List Int) (C : Nat) (n : Int) (ts : List Step) (w : World) : Prop :=
  (iForm gi gr q).room (xs, false, false) + C ≤ cap ∧ Stand (iForm gi gr q) (xs, false, false) w5 gm (fun _ => False) (.int .i64 n) C (rdR xs).1 (rdR xs).2 ts w
theorem rd_kind {gi gr q gm : Nat} {w5 : World} {xs : List Int} (hI : IInv gi gr q (xs, false, false) w5) (hno : ¬ IOwn gi gr q w5.heap gm) (hb : w5.heap[gm]? = some (.cells (msgC zeroC nils) 35 (0, 0))) (hn : xs.length ≤ 9000000000) :
    ∃ n C, Calls Try.prog 59 #[.pointer (some ⟨gi, 0, none⟩), .pointer (some ⟨gm, 0, none⟩), .int .i64 1, .int .i64 10] w5 (fun e w => e = .returned (.tuple #[]) ∧ RdWalk gi gr q gm w5 xs C n (script n) w) := by
  have hr := rd_room gi gr q hn
  have hM : MAt (iForm gi gr q) (xs, false, false) w5 gm (fun _ => False) (xs, false, false) 0 zeroM w5 := MAt.made (sv := nils) hI hno hb zero_typed zero_fit (fun _ => Nat.zero_le _)
    (fun j fs hj => ⟨none, 0, rfl, fun h => absurd rfl h, fun _ => rfl⟩) (fun j fs hj k hk h0 => absurd rfl h0) (fun j fs j' fs' hj hj' hne k hk h0 => absurd rfl h0)
  have hC := kind_c (iGood gi gr q) hM hr
  have e := iAll_g gi gr q 0 0 0 (xs, false, false) zeroM
  refine ⟨kindM ((iForm gi gr q).rowM (xs, false, false) zeroM 0 [.num 1 10]).2, (iForm gi gr q).allCost (xs, false, false) zeroM, hC.mono fun e' w H => ⟨H.1, hr, ?_⟩⟩
  have H2 := H.2
  rw [show ((iForm gi gr q).all (xs, false, false) zeroM) = rdR xs from e] at H2
  exact H2
theorem rd_head {gi gr q gm : Nat} {w5 w : World} {xs : List Int} {C : Nat} {n : Int} (h : RdWalk gi gr q gm w5 xs C n (script n) w) :
    Calls Try.prog 40 #[.iface 106 (.pointer (some ⟨gi, 0, none⟩)), .pointer (some ⟨gm, 0, none⟩)] w (fun e w => e = .returned (.tuple #[]) ∧ RdWalk gi gr q gm w5 xs C n (fieldsS n ++ []) w) :=
  (Stand.whole' (head_c n) h.2 (iGood gi gr q) h.1 rfl (head_pos n)).mono fun e w H => ⟨H.1, h.1, H.2⟩
theorem rd_fields {gi gr q gm : Nat} {w5 w : World} {xs : List Int} {C : Nat} {n : Int} (h : RdWalk gi gr q gm w5 xs C n (fieldsS n ++ []) w) :
    Calls Try.prog 41 #[.iface 106 (.pointer (some ⟨gi, 0, none⟩)), .pointer (some ⟨gm, 0, none⟩)] w (fun e w => e = .returned (.tuple #[]) ∧ RdWalk gi gr q gm w5 xs C n [] w) :=
  (Stand.whole' (fields_c n) h.2 (iGood gi gr q) h.1 rfl (fields_pos n)).mono fun e w H => ⟨H.1, h.1, H.2⟩
/-- The end of read's walk. -/
theorem rd_end {gi gr q gm : Nat} {w5 w : World} {xs : List Int} {C : Nat} {n : Int} (h : RdWalk gi gr q gm w5 xs C n [] w) :
    Only (fun k => k = gi ∨ k = gr ∨ k = q ∨ k = gm) w5 w ∧ IInv gi gr q (rdR xs).1 w ∧ ∃ sv, w.heap[gm]? = some (.cells (msgC (rdM xs).c sv) 35 (0, 0)) ∧ MsgRd w (.agg (msgC (rdM xs).c sv)) (rdM xs) sv ∧
      ∀ j fs, (j, fs) ∈ lists → ∀ k, arr (sv j) = some k → (rdM xs).L j ≠ [] → w5.heap.size ≤ k ∧ k < w.heap.size := by
  have h' := h.2.done.2
  obtain ⟨cs, h1, h2, h3, h4⟩ := h'.blk
  have key : ∀ j, ∃ v, ∀ fs, (j, fs) ∈ lists → cs[j]? = some v := fun j => by
    by_cases hj : ∃ fs, (j, fs) ∈ lists
    · obtain ⟨fs, hj⟩ := hj
      obtain ⟨_, v, hv, _⟩ := h4 j fs hj
      exact ⟨v, fun _ _ => hv⟩
    · exact ⟨undef, fun fs hj' => absurd ⟨fs, hj'⟩ hj⟩
  obtain ⟨sv, hsv⟩ := Classical.axiomOfChoice key
  have e : cs = msgC (rdM xs).c sv := msgC_eq h1 h3 (fun j fs hj => hsv j fs hj)
  subst e
  have hl : ∀ j fs, (j, fs) ∈ lists → ((∀ r, r ∈ (rdM xs).L j → fits fs r) ∧ ListAt w (sv j) fs.length ((rdM xs).L j)) ∧ ∀ k, arr (sv j) = some k → (rdM xs).L j ≠ [] → w5.heap.size ≤ k := fun j fs hj => by
    obtain ⟨hf, v, hv, hA, hk⟩ := h4 j fs hj
    rw [hsv j fs hj] at hv
    injection hv with hv
    subst hv
    refine ⟨⟨hf.1, hA⟩, fun k hk' h0 => ?_⟩
    rcases (hk k hk' h0).2.2.1 with h | h
    · exact h.elim
    · exact h
  refine ⟨h'.only.mono (fun k _ hk => ?_), h'.inv, sv, h2, ⟨rfl, h'.typed, fun j fs hj => (hl j fs hj).1.1, fun j fs hj => (hl j fs hj).1.2.rd⟩, fun j fs hj k hk h0 => ⟨(hl j fs hj).2 k hk h0, (hl j fs hj).1.2.lt hk h0⟩⟩
  rcases hk with (h | h | h) | h | h
  · exact .inl h
  · exact .inr (.inl h)
  · exact .inr (.inr (.inl h))
  · exact .inr (.inr (.inr h))
  · exact h.elim
end Go.Proofs.Ytcbehfbfaonanaa.Wr
end

/- read: the message of some bytes. -/
section
namespace Go.Proofs.Ytcbehfbfaonanaa.Wr
open Go.RowKit Go.Proofs.YtcbehfbfaonanaaW.PrintWords Go.Proofs.YtcbehfbfaonanaaW.PrintLast Go.Proofs.YtcbehfbfaonanaaW.PrintMore Go.Proofs.Ytcbehfbfaonanaa.Pk
set_option linter.unusedVariables false
set_option linter.unusedSimpArgs false

section
variable {P : Program} {o : Oper} {a : Act} {Q : Exit → Act → World → Prop} {K : Act → World → Prop} {W : World}
theorem run_load_row {T : TypeId} {x : Operand} (ho : o.op = .load T x) {g : Nat} (hx : a.eval x = .pointer (some ⟨g, 0, none⟩)) {cells : Array Value} {T' : TypeId} (hb : W.heap[g]? = some (.cells cells T' (0, 0)))
    {d : TypeDesc} (hu : P.underlying T = some d) (hd : d.isRow = true) (hi : (P.info? T).map (·.size) = some cells.size) : (execOp a.eval o).run P W = .ok (.value (.agg cells)) W := by
  have h := run_loadVar_mid (P := P) W g 0 T cells.toList d (fun j v hj => by rw [Nat.zero_add]; exact (blk_cell hb j).trans (by simpa using hj)) hu hd (by simpa using hi)
  unfold execOp
  simp only [ho, hx, Instr.loadAt, Instr.sureAddr, Sem.run_bind, Sem.run_pure, Result.andThen_ok, h]
theorem wp_store_row (T : TypeId) (x y : Operand) (ho : o.op = .store T x y) (g : Nat) (hx : a.eval x = .pointer (some ⟨g, 0, none⟩)) (cells cs : Array Value) (hy : a.eval y = .agg cells) (T' : TypeId) (hb : W.heap[g]? = some (.cells cs T' (0, 0)))
    (hs : cells.size = cs.size) (hi : (P.info? T).map (·.size) = some cells.size) (h1 : OneAll cells)
    (h : ∀ w1, w1.heap[g]? = some (.cells cells T' (0, 0)) → Only (· = g) W w1 → K (a.put o.dst undef) w1) : Oper.wp P o a W K Q := by
  refine wp_store_mid T x y ho g 0 cells hx hy (fun j hj => ?_) hi (by unfold OneAll at h1; rw [← Array.all_toList]; exact h1) (h _ ?_ ?_)
  · rw [Nat.zero_add]
    refine ⟨?_, blk_frozen hb j⟩
    rw [blk_cell hb j, Array.getElem?_eq_getElem (by omega)]
    rfl
  · have := blk_setCells cells.toList 0 W cs hb
    rw [overL_all (by simpa using hs)] at this
    simpa using this
  · exact only_setCells g cells.toList 0 W
end
theorem MsgRd.one {w : World} {v : Value} {m : M} {sv : Nat → Value} (h : MsgRd w v m sv) : OneAll (msgC m.c sv) := by
  unfold OneAll
  rw [List.all_eq_true]
  intro u hu
  obtain ⟨i, hi⟩ := List.mem_iff_getElem?.1 hu
  have hi' : (msgC m.c sv)[i]? = some u := by simpa using hi
  have hlt : i < 26 := by have := (Array.getElem?_eq_some_iff.1 hi').1; rwa [msgC_size] at this
  cases hsc : scalar i with
  | true =>
    rw [msgC_scalar _ _ i hsc] at hi'
    injection hi' with hi'
    subst hi'
    have := h.typed i hsc
    cases hk : kindOf i <;> rw [hk] at this <;> obtain ⟨x, hx⟩ := this <;> rw [hx] <;> rfl
  | false =>
    have : i = 3 ∨ i = 8 ∨ i = 9 ∨ i = 10 := by
      unfold scalar at hsc
      rw [decide_eq_true hlt] at hsc
      simp only [Bool.true_and, Bool.not_eq_false', Bool.or_eq_true, beq_iff_eq] at hsc
      omega
    have key : ∀ j fs, (j, fs) ∈ lists → (sv j).oneCell' = true := fun j fs hj => by
      obtain ⟨a, c, e, _⟩ := h.rd j fs hj
      rw [e]; rfl
    rcases this with rfl | rfl | rfl | rfl
    · rw [msgC_list m.c sv (fs := entryF) (by simp [lists])] at hi'; injection hi' with hi'; subst hi'; exact key 3 entryF (by simp [lists])
    · rw [msgC_list m.c sv (fs := pairF) (by simp [lists])] at hi'; injection hi' with hi'; subst hi'; exact key 8 pairF (by simp [lists])
    · rw [msgC_list m.c sv (fs := seenF) (by simp [lists])] at hi'; injection hi' with hi'; subst hi'; exact key 9 seenF (by simp [lists])
    · rw [msgC_list m.c sv (fs := epochF) (by simp [lists])] at hi'; injection hi' with hi'; subst hi'; exact key 10 epochF (by simp [lists])

theorem ListRd.only {S : Nat → Prop} {w w' : World} {sv : Value} {st : Nat} {rows : List (List Value)} (h : ListRd w sv st rows) (hO : Only S w w') (hs : ∀ k, arr sv = some k → rows ≠ [] → ¬ S k) : ListRd w' sv st rows := by
  obtain ⟨a, c, rfl, h0, h3⟩ := h
  refine ⟨a, c, rfl, h0, fun h' => ?_⟩
  obtain ⟨ad, rfl, h4⟩ := h3 h'
  refine ⟨ad, rfl, fun k r hr j v hv => hO.cell (h4 k r hr j v hv) ?_⟩
  have e : (ad.add (k * st + j)).block = ad.block := by unfold Addr.add; split <;> rfl
  rw [e]
  exact hs ad.block rfl h'
theorem MsgRd.only {S : Nat → Prop} {w w' : World} {v : Value} {m : M} {sv : Nat → Value} (h : MsgRd w v m sv) (hO : Only S w w') (hs : ∀ j fs, (j, fs) ∈ lists → ∀ k, arr (sv j) = some k → m.L j ≠ [] → ¬ S k) : MsgRd w' v m sv :=
  ⟨h.eq, h.typed, h.fit, fun j fs hj => (h.rd j fs hj).only hO (hs j fs hj)⟩
structure RdOrd (w w5 : World) (g2 gr q gi gm : Nat) (xs : List Int) : Prop where
  inv : IInv gi gr q (xs, false, false) w5
  no : ¬ IOwn gi gr q w5.heap gm
  res : w5.heap[g2]? = some (.cells (msgC zeroC nils) 35 (0, 0))
  bel : Below w.heap.size w w5
  o1 : g2 = w.heap.size
  o2 : g2 < gr
  o3 : g2 < q
  o4 : gr < gi
  o5 : q < gi
  o6 : gi < gm
  o7 : gm < w5.heap.size
theorem rd_start {w w2 w3 w4 w5 : World} {g2 gr q gi gm : Nat} {xs : List Int} {T : TypeId} {zs : Array Value}
    (b2 : Below w.heap.size w w2) (x2 : w2.heap[g2]? = some (.cells (msgC zeroC nils) 35 (0, 0))) (e2 : g2 = w.heap.size)
    (rd : RdAt w3 gr q xs false) (n1 : w2.heap.size ≤ gr) (n2 : w2.heap.size ≤ q) (b3 : Below w2.heap.size w2 w3)
    (b4 : Below w3.heap.size w3 w4) (x4 : w4.heap[gi]? = some (.cells #[.pointer (some ⟨gr, 0, none⟩), .bool false] 110 (0, 0))) (e4 : gi = w3.heap.size)
    (b5 : Below w4.heap.size w4 w5) (x5 : w5.heap[gm]? = some (.cells zs T (0, 0))) (e5 : gm = w4.heap.size) (hx : ∀ x ∈ xs, IsB x) : RdOrd w w5 g2 gr q gi gm xs := by
  have l2 := blk_lt x2
  have l4 := blk_lt x4
  have l5 := blk_lt x5
  have rd' := rd
  obtain ⟨off, c, hb, _, _, hne, hq, _⟩ := rd'
  have lr := blk_lt hb
  have s2 := b2.size
  have s3 := b3.size
  have s4 := b4.size
  have s5 := b5.size
  have m5 : ∀ k, k < w3.heap.size → w5.heap[k]? = w3.heap[k]? := fun k hk => (b5.block k (by omega)).trans (b4.block k hk)
  refine ⟨⟨(b5.block gi (by omega)).trans x4, rd.move (fun k hk => m5 k (by rcases hk with rfl | rfl <;> assumption)), hx, by omega, by omega⟩, ?_, (m5 g2 (by omega)).trans ((b3.block g2 l2).trans x2), b2.trans ((b3.mono s2).trans ((b4.mono (by omega)).trans (b5.mono (by omega)))), e2, by omega, by omega, by omega, by omega, by omega, by omega⟩
  rintro (h | h | h) <;> omega
theorem RdOrd.fin {w w5 w12 : World} {g2 gr q gi gm : Nat} {xs : List Int} (h : RdOrd w w5 g2 gr q gi gm xs) (hO : Only (fun k => k = gi ∨ k = gr ∨ k = q ∨ k = gm) w5 w12) :
    w12.heap[g2]? = some (.cells (msgC zeroC nils) 35 (0, 0)) ∧ Below w.heap.size w w12 := by
  have := h.o1; have := h.o2; have := h.o3; have := h.o4; have := h.o5; have := h.o6; have := h.o7
  refine ⟨hO.blk h.res (by rintro (h | h | h | h) <;> omega), below_only h.bel hO h.bel.size ?_⟩
  rintro k (hk | hk | hk | hk) <;> omega

set_option maxRecDepth 100000 in
set_option maxHeartbeats 4000000 in
theorem read_m (A : Option Addr) (n c : Nat) (xs : List Int) (w : World) (hr : ReadsInt w .u8 A n xs) (hn : n ≤ 9000000000) (hx : ∀ x ∈ xs, IsB x) :
    Calls Try.prog 25 #[.slice A n c] w (IsRd xs w) := by
  have HL := Aside0.mk (show xs.length ≤ 9000000000 by have := hr.1; omega)
  have HX := Aside0.mk hx
  have HRd := Aside0.mk (fun (W : World) (hB : Below w.heap.size w W) => read_c A n c xs W (hr.below hB) (by omega))
  clear hr hx
  go_enter Try.func25, Try.ntmps25
  go_wp2_with (first | ((with_reducible refine gate_dst (N := 2) rfl ?_); refine alloc_row rfl 35 rfl _ (zero_msg _) ?_; intro g2 w2 hg hbox hb; have HB2 := Aside0.mk hb; have HX2 := Aside0.mk hbox; have HG2 := Aside0.mk hg; have HC := Aside0.mk (HRd.out w2 hb); clear hb hg hbox) | (go_at_call 58; (with_reducible refine HC.out.mono ?_); rintro e w3 ⟨gr, q, rfl, hRd, h1, h2, h3, hB3⟩; have HRD := Aside0.mk hRd; have HN1 := Aside0.mk h1; have HN2 := Aside0.mk h2; have HB3 := Aside0.mk hB3; clear hRd h1 h2 h3 hB3) | ((with_reducible refine gate_dst (N := 9) rfl ?_); refine box_row rfl 110 (.tmp 8) rfl #[.pointer (some ⟨gr, 0, none⟩), .bool false] rfl ?_; intro gi w4 hg hbox hb; have HB4 := Aside0.mk hb; have HX4 := Aside0.mk hbox; have HG4 := Aside0.mk hg; clear hb hg hbox) | ((with_reducible refine gate_dst (N := 5) rfl ?_); refine alloc_row rfl 35 rfl _ (zero_msg _) ?_; intro gm w5 hg hbox hb; have HS := Aside0.mk (rd_start HB2.out HX2.out HG2.out HRD.out HN1.out HN2.out HB3.out HB4.out HX4.out HG4.out hb hbox hg HX.out); have HK := Aside0.mk (rd_kind HS.out.inv HS.out.no hbox HL.out); clear hb hg hbox; obtain ⟨kn, C, hC1⟩ := HK.out; have C1 := Aside0.mk hC1; clear hC1 HK) | (go_at_call 59; (with_reducible refine C1.out.mono ?_); rintro e w10 ⟨rfl, H⟩; have C2 := Aside0.mk (rd_head H); clear H) | (go_at_call 40; (with_reducible refine C2.out.mono ?_); rintro e w11 ⟨rfl, H⟩; have C3 := Aside0.mk (rd_fields H); clear H) | (go_at_call 41; (with_reducible refine C3.out.mono ?_); rintro e w12 ⟨rfl, H⟩; have S3 := Aside0.mk (rd_end H); clear H) | fail)
  obtain ⟨hO12, hI12, sv, hX12, hM12, hF12⟩ := S3.out
  obtain ⟨hXR, hB12⟩ := HS.out.fin hO12
  obtain ⟨o, ho⟩ : ∃ o, (rdR xs).1.2.2 = o := ⟨_, rfl⟩
  have HX12 := Aside0.mk hX12
  have HI0 := Aside0.mk (show w12.cell? ⟨gi, 0, none⟩ = some (.pointer (some ⟨gr, 0, none⟩)) from (blk_cell hI12.blk 0).trans rfl)
  have HI1 := Aside0.mk (show w12.cell? ⟨gi, 1, none⟩ = some (.bool o) from ((blk_cell hI12.blk 1).trans (by rw [← ho]; rfl)))
  obtain ⟨en, he⟩ : ∃ en, rend (rdR xs).1.1 (rdR xs).1.2.1 = en := ⟨_, rfl⟩
  have hen : en = 0 ∨ en = 2 := by rw [← he]; unfold rend; split <;> simp
  have hCE := rEnd_c gr q (rdR xs).1.1 (rdR xs).1.2.1 w12.drew hI12.rd
  rw [he] at hCE
  have CE := Aside0.mk hCE
  have HOKE := Aside0.mk (show rdOk xs = ((en == 0) && !o) from by unfold rdOk; rw [he, ho])
  have HXR := Aside0.mk (show w12.drew.heap[g2]? = _ from hXR)
  have HNE := Aside0.mk (show gm ≠ g2 ∧ gi ≠ g2 from by have := HS.out.o1; have := HS.out.o2; have := HS.out.o4; have := HS.out.o6; omega)
  have HOA := Aside0.mk hM12.one
  have HFIN := Aside0.mk (fun (w13 : World) (hO : Only (· = g2) w12.drew w13) => And.intro (below_only hB12 (show Only (· = g2) w12 w13 from ⟨hO.os, hO.tape, hO.output, hO.size, hO.block⟩) hB12.size (fun k hk => by have := HS.out.o1; have hk' : k = g2 := hk; omega)) (hM12.only (show Only (· = g2) w12 w13 from ⟨hO.os, hO.tape, hO.output, hO.size, hO.block⟩) (fun j fs hj k hk h0 e => by have := (hF12 j fs hj k hk h0).1; have := HS.out.o1; have := HS.out.o2; have := HS.out.o4; have := HS.out.o6; have := HS.out.o7; have e' : k = g2 := e; omega)))
  have HFR := Aside0.mk (fun j fs hj k hk h0 => Nat.le_trans HS.out.bel.size (hF12 j fs hj k hk h0).1)
  clear hO12 hI12 hX12 hM12 hF12 hXR hB12 ho he hCE S3 HS HL HX HRd HC HRD HN1 HN2 HB2 HB3 HB4 HX2 HX4 HG2 HG4 C1 C2 C3
  rcases hen with rfl | rfl
  · refine wp_region_held_drew (S := (fun W => W.heap[gm]? = some (.cells (msgC (rdM xs).c sv) 35 (0, 0)) ∧ W.cell? ⟨gi, 0, none⟩ = some (.pointer (some ⟨gr, 0, none⟩)) ∧ W.cell? ⟨gi, 1, none⟩ = some (.bool o))) (by kernel_rfl) ⟨HX12.out, HI0.out, HI1.out⟩ (fun hHeld => ?_)
    refine wpAnyH_take (i := 0) (oi := { dst := some 19, op := Go.Op.load 35 (Go.Operand.tmp 5), type := 35, pos := "wire.go:226", after := #[], guard := none }) (v := .agg (msgC (rdM xs).c sv)) rfl (by kernel_rfl) (by kernel_rfl) (by kernel_rfl) (fun _ _ _ h => h) ?_ (by assumption) ?_
    · refine Or.inl ⟨by rfl, fun W hSW => ?_⟩
      exact run_load_row rfl rfl hSW.1 Try.underlying35 rfl info_msg
    try simp only [Act.put, List.setIfInBounds_toArray, List.set_cons_zero, List.set_cons_succ]
    refine wpAnyH_take (i := 1) (oi := { dst := some 20, op := Go.Op.move (Go.Operand.tmp 4), type := 106, pos := "wire.go:226", after := #[], guard := none }) (v := ?_) rfl (by kernel_rfl) (by kernel_rfl) (by kernel_rfl) (fun _ _ _ h => h) (Or.inl ⟨by rfl, ?_⟩) (by assumption) ?_
    rotate_left 1
    · (intro W hSW; obtain ⟨hS1, hS2, hS3⟩ := hSW; go_simp; (try with_reducible rfl))
    try simp only [Act.put, List.setIfInBounds_toArray, List.set_cons_zero, List.set_cons_succ]
    refine wpAnyH_take (i := 2) (oi := { dst := some 21, op := Go.Op.nilCheck (Go.Operand.tmp 20), type := 0, pos := "wire.go:226", after := #[{ on := 1, ground := Go.Ground.data }], guard := none }) (v := ?_) rfl (by kernel_rfl) (by kernel_rfl) (by kernel_rfl) (fun _ _ _ h => h) (Or.inl ⟨by rfl, ?_⟩) (by assumption) ?_
    rotate_left 1
    · (intro W hSW; obtain ⟨hS1, hS2, hS3⟩ := hSW; go_simp; (try with_reducible rfl))
    try simp only [Act.put, List.setIfInBounds_toArray, List.set_cons_zero, List.set_cons_succ]
    refine wpAnyH_take (i := 3) (oi := { dst := some 22, op := Go.Op.fieldAddr 110 (Go.Operand.tmp 21) 0, type := 0, pos := "wire.go:226", after := #[{ on := 2, ground := Go.Ground.data }], guard := none }) (v := ?_) rfl (by kernel_rfl) (by kernel_rfl) (by kernel_rfl) (fun _ _ _ h => h) (Or.inl ⟨by rfl, ?_⟩) (by assumption) ?_
    rotate_left 1
    · (intro W hSW; obtain ⟨hS1, hS2, hS3⟩ := hSW; go_simp; (try with_reducible rfl))
    try simp only [Act.put, List.setIfInBounds_toArray, List.set_cons_zero, List.set_cons_succ]
    refine wpAnyH_take (i := 4) (oi := { dst := some 23, op := Go.Op.load 107 (Go.Operand.tmp 22), type := 107, pos := "wire.go:226", after := #[{ on := 3, ground := Go.Ground.data }], guard := none }) (v := ?_) rfl (by kernel_rfl) (by kernel_rfl) (by kernel_rfl) (fun _ _ _ h => h) (Or.inl ⟨by rfl, ?_⟩) (by assumption) ?_
    rotate_left 1
    · (intro W hSW; obtain ⟨hS1, hS2, hS3⟩ := hSW; go_simp; (try with_reducible rfl))
    try simp only [Act.put, List.setIfInBounds_toArray, List.set_cons_zero, List.set_cons_succ]
    refine wpAnyH_ready (rs := [5]) (by kernel_rfl) (by simp) ?_
    refine AllReadyH.cons (o := { dst := some 24, op := Go.Op.call { callee := Go.Callee.value (Go.Operand.func 60), args := #[Go.Operand.tmp 23], argTypes := #[107] }, type := 28, pos := "wire.go:226", after := #[{ on := 4, ground := Go.Ground.data }], guard := none }) rfl (fun K hK => ?_) AllReadyH.nil
    go_simp
    go_at_call 60
    refine CE.out.mono ?_
    rintro e w' ⟨rfl, rfl⟩
    go_wp2_with fail
    refine hK.out _ _ hHeld (fun hHeld' => ?_)
    clear hK K hHeld'
    try simp only [Act.put, List.setIfInBounds_toArray, List.set_cons_zero, List.set_cons_succ]
    refine wpAnyH_take (i := 6) (oi := { dst := some 25, op := Go.Op.binOp Go.BinOp.eql 28 (Go.Operand.tmp 24) (Go.Operand.const (Go.Value.int Go.IntKind.i64 0)) 28, type := 4, pos := "wire.go:226", after := #[{ on := 5, ground := Go.Ground.data }], guard := none }) (v := ?_) rfl (by kernel_rfl) (by kernel_rfl) (by kernel_rfl) (fun _ _ _ h => h) (Or.inl ⟨by rfl, ?_⟩) (by assumption) ?_
    rotate_left 1
    · (intro W hSW; obtain ⟨hS1, hS2, hS3⟩ := hSW; go_simp; (try with_reducible rfl))
    try simp only [Act.put, List.setIfInBounds_toArray, List.set_cons_zero, List.set_cons_succ]
    refine wpAnyH_take (i := 7) (oi := { dst := some 26, op := Go.Op.move (Go.Operand.tmp 25), type := 4, pos := "wire.go:226", after := #[{ on := 6, ground := Go.Ground.data }, { on := 5, ground := Go.Ground.chain }], guard := none }) (v := ?_) rfl (by kernel_rfl) (by kernel_rfl) (by kernel_rfl) (fun _ _ _ h => h) (Or.inl ⟨by rfl, ?_⟩) (by assumption) ?_
    rotate_left 1
    · (intro W hSW; obtain ⟨hS1, hS2, hS3⟩ := hSW; go_simp; (try with_reducible rfl))
    try simp only [Act.put, List.setIfInBounds_toArray, List.set_cons_zero, List.set_cons_succ]
    refine wpAnyH_take (i := 8) (oi := { dst := some 27, op := Go.Op.move (Go.Operand.tmp 4), type := 106, pos := "wire.go:226", after := #[{ on := 7, ground := Go.Ground.guard }, { on := 14, ground := Go.Ground.gcOnly Go.Departure.lateStores }], guard := some (7, true) }) (v := ?_) rfl (by kernel_rfl) (by kernel_rfl) (by kernel_rfl) (fun _ _ _ h => h) (Or.inl ⟨by rfl, ?_⟩) (by assumption) ?_
    rotate_left 1
    · (intro W hSW; obtain ⟨hS1, hS2, hS3⟩ := hSW; go_simp; (try with_reducible rfl))
    try simp only [Act.put, List.setIfInBounds_toArray, List.set_cons_zero, List.set_cons_succ]
    refine wpAnyH_take (i := 9) (oi := { dst := some 28, op := Go.Op.nilCheck (Go.Operand.tmp 27), type := 0, pos := "wire.go:226", after := #[{ on := 8, ground := Go.Ground.data }, { on := 7, ground := Go.Ground.guard }, { on := 14, ground := Go.Ground.gcOnly Go.Departure.lateStores }], guard := some (7, true) }) (v := ?_) rfl (by kernel_rfl) (by kernel_rfl) (by kernel_rfl) (fun _ _ _ h => h) (Or.inl ⟨by rfl, ?_⟩) (by assumption) ?_
    rotate_left 1
    · (intro W hSW; obtain ⟨hS1, hS2, hS3⟩ := hSW; go_simp; (try with_reducible rfl))
    try simp only [Act.put, List.setIfInBounds_toArray, List.set_cons_zero, List.set_cons_succ]
    refine wpAnyH_take (i := 10) (oi := { dst := some 29, op := Go.Op.fieldAddr 110 (Go.Operand.tmp 28) 1, type := 0, pos := "wire.go:226", after := #[{ on := 9, ground := Go.Ground.data }, { on := 7, ground := Go.Ground.guard }, { on := 14, ground := Go.Ground.gcOnly Go.Departure.lateStores }], guard := some (7, true) }) (v := ?_) rfl (by kernel_rfl) (by kernel_rfl) (by kernel_rfl) (fun _ _ _ h => h) (Or.inl ⟨by rfl, ?_⟩) (by assumption) ?_
    rotate_left 1
    · (intro W hSW; obtain ⟨hS1, hS2, hS3⟩ := hSW; go_simp; (try with_reducible rfl))
    try simp only [Act.put, List.setIfInBounds_toArray, List.set_cons_zero, List.set_cons_succ]
    refine wpAnyH_take (i := 11) (oi := { dst := some 30, op := Go.Op.load 4 (Go.Operand.tmp 29), type := 4, pos := "wire.go:226", after := #[{ on := 10, ground := Go.Ground.data }, { on := 7, ground := Go.Ground.guard }, { on := 14, ground := Go.Ground.gcOnly Go.Departure.lateStores }], guard := some (7, true) }) (v := ?_) rfl (by kernel_rfl) (by kernel_rfl) (by kernel_rfl) (fun _ _ _ h => h) (Or.inl ⟨by rfl, ?_⟩) (by assumption) ?_
    rotate_left 1
    · (intro W hSW; obtain ⟨hS1, hS2, hS3⟩ := hSW; go_simp; (try with_reducible rfl))
    try simp only [Act.put, List.setIfInBounds_toArray, List.set_cons_zero, List.set_cons_succ]
    refine wpAnyH_take (i := 12) (oi := { dst := some 31, op := Go.Op.unOp Go.UnOp.not 4 (Go.Operand.tmp 30), type := 4, pos := "wire.go:226", after := #[{ on := 11, ground := Go.Ground.data }, { on := 7, ground := Go.Ground.guard }, { on := 14, ground := Go.Ground.gcOnly Go.Departure.lateStores }], guard := some (7, true) }) (v := ?_) rfl (by kernel_rfl) (by kernel_rfl) (by kernel_rfl) (fun _ _ _ h => h) (Or.inl ⟨by rfl, ?_⟩) (by assumption) ?_
    rotate_left 1
    · (intro W hSW; obtain ⟨hS1, hS2, hS3⟩ := hSW; go_simp; (try with_reducible rfl))
    try simp only [Act.put, List.setIfInBounds_toArray, List.set_cons_zero, List.set_cons_succ]
    refine wpAnyH_take (i := 13) (oi := { dst := some 32, op := Go.Op.pick (Go.Operand.tmp 26) (Go.Operand.tmp 31) (Go.Operand.const (Go.Value.bool false)), type := 4, pos := "wire.go:226", after := #[{ on := 7, ground := Go.Ground.data }, { on := 12, ground := Go.Ground.data }, { on := 14, ground := Go.Ground.gcOnly Go.Departure.lateStores }], guard := none }) (v := ?_) rfl (by kernel_rfl) (by kernel_rfl) (by kernel_rfl) (fun _ _ _ h => h) (Or.inl ⟨by rfl, ?_⟩) (by assumption) ?_
    rotate_left 1
    · (intro W hSW; obtain ⟨hS1, hS2, hS3⟩ := hSW; go_simp; (try with_reducible rfl))
    try simp only [Act.put, List.setIfInBounds_toArray, List.set_cons_zero, List.set_cons_succ]
    refine wpAnyH_ready (rs := [14]) (by kernel_rfl) (by simp) ?_
    refine AllReadyH.cons (o := { dst := none, op := Go.Op.store 35 (Go.Operand.tmp 2) (Go.Operand.tmp 19), type := 0, pos := "wire.go:226", after := #[{ on := 0, ground := Go.Ground.data }, { on := 7, ground := Go.Ground.chain }, { on := 0, ground := Go.Ground.phase }, { on := 1, ground := Go.Ground.textOnly Go.Departure.lateStores }, { on := 2, ground := Go.Ground.textOnly Go.Departure.lateStores }, { on := 3, ground := Go.Ground.textOnly Go.Departure.lateStores }, { on := 4, ground := Go.Ground.textOnly Go.Departure.lateStores }, { on := 5, ground := Go.Ground.textOnly Go.Departure.lateStoresUnsure }, { on := 6, ground := Go.Ground.textOnly Go.Departure.lateStores }, { on := 7, ground := Go.Ground.textOnly Go.Departure.lateStores }, { on := 8, ground := Go.Ground.textOnly Go.Departure.lateStores }, { on := 9, ground := Go.Ground.textOnly Go.Departure.lateStores }, { on := 10, ground := Go.Ground.textOnly Go.Departure.lateStores }, { on := 11, ground := Go.Ground.textOnly Go.Departure.lateStores }, { on := 12, ground := Go.Ground.textOnly Go.Departure.lateStores }, { on := 13, ground := Go.Ground.textOnly Go.Departure.lateStores }], guard := none }) rfl (fun K hK => ?_) AllReadyH.nil
    rw [if_pos (by rfl)]
    refine wp_store_row 35 (.tmp 2) (.tmp 19) rfl g2 rfl (msgC (rdM xs).c sv) _ rfl _ HXR.out rfl info_msg HOA.out (fun w13 hX13 hO13 => ?_)
    have HX13 := Aside0.mk hX13
    have HO13 := Aside0.mk hO13
    clear hX13 hO13
    refine hK.out _ _ ⟨HO13.out.blk HX12.out HNE.out.1, HO13.out.cell HI0.out HNE.out.2, HO13.out.cell HI1.out HNE.out.2⟩ (fun hHeld' => ?_)
    clear hK K hHeld
    try simp only [Act.put, List.setIfInBounds_toArray, List.set_cons_zero, List.set_cons_succ]
    refine wpAnyH_take (i := 15) (oi := { dst := some 3, op := Go.Op.assign (Go.Operand.tmp 32), type := 4, pos := "wire.go:226", after := #[{ on := 13, ground := Go.Ground.data }, { on := 14, ground := Go.Ground.chain }, { on := 0, ground := Go.Ground.phase }, { on := 1, ground := Go.Ground.phase }, { on := 2, ground := Go.Ground.phase }, { on := 3, ground := Go.Ground.phase }, { on := 4, ground := Go.Ground.phase }, { on := 5, ground := Go.Ground.phase }, { on := 6, ground := Go.Ground.phase }, { on := 7, ground := Go.Ground.phase }, { on := 8, ground := Go.Ground.phase }, { on := 9, ground := Go.Ground.phase }, { on := 10, ground := Go.Ground.phase }, { on := 11, ground := Go.Ground.phase }, { on := 12, ground := Go.Ground.phase }, { on := 13, ground := Go.Ground.phase }, { on := 14, ground := Go.Ground.phase }], guard := none }) (v := ?_) rfl (by kernel_rfl) (by kernel_rfl) (by kernel_rfl) (fun _ _ _ h => h) (Or.inl ⟨by rfl, ?_⟩) (by assumption) ?_
    rotate_left 1
    · (intro W hSW; obtain ⟨hS1, hS2, hS3⟩ := hSW; go_simp; (try with_reducible rfl))
    try simp only [Act.put, List.setIfInBounds_toArray, List.set_cons_zero, List.set_cons_succ]
    refine wpAnyH_done (by kernel_rfl) ?_ _
    go_wp2
    refine bodyPost_ret (results_ct (P := Try.prog) (fn := Try.f25) rfl _ _ g2 _ (msgC (rdM xs).c sv) (0, 0) _ rfl HX13.out Try.underlying35 rfl info_msg) rfl ?_
    obtain ⟨k1, k2⟩ := HFIN.out w13 HO13.out
    exact ⟨k1, _, _, rfl, HOKE.out.symm, sv, k2, HFR.out⟩
  · refine wp_region_held_drew (S := (fun W => W.heap[gm]? = some (.cells (msgC (rdM xs).c sv) 35 (0, 0)) ∧ W.cell? ⟨gi, 0, none⟩ = some (.pointer (some ⟨gr, 0, none⟩)) ∧ W.cell? ⟨gi, 1, none⟩ = some (.bool o))) (by kernel_rfl) ⟨HX12.out, HI0.out, HI1.out⟩ (fun hHeld => ?_)
    refine wpAnyH_take (i := 0) (oi := { dst := some 19, op := Go.Op.load 35 (Go.Operand.tmp 5), type := 35, pos := "wire.go:226", after := #[], guard := none }) (v := .agg (msgC (rdM xs).c sv)) rfl (by kernel_rfl) (by kernel_rfl) (by kernel_rfl) (fun _ _ _ h => h) ?_ (by assumption) ?_
    · refine Or.inl ⟨by rfl, fun W hSW => ?_⟩
      exact run_load_row rfl rfl hSW.1 Try.underlying35 rfl info_msg
    try simp only [Act.put, List.setIfInBounds_toArray, List.set_cons_zero, List.set_cons_succ]
    refine wpAnyH_take (i := 1) (oi := { dst := some 20, op := Go.Op.move (Go.Operand.tmp 4), type := 106, pos := "wire.go:226", after := #[], guard := none }) (v := ?_) rfl (by kernel_rfl) (by kernel_rfl) (by kernel_rfl) (fun _ _ _ h => h) (Or.inl ⟨by rfl, ?_⟩) (by assumption) ?_
    rotate_left 1
    · (intro W hSW; obtain ⟨hS1, hS2, hS3⟩ := hSW; go_simp; (try with_reducible rfl))
    try simp only [Act.put, List.setIfInBounds_toArray, List.set_cons_zero, List.set_cons_succ]
    refine wpAnyH_take (i := 2) (oi := { dst := some 21, op := Go.Op.nilCheck (Go.Operand.tmp 20), type := 0, pos := "wire.go:226", after := #[{ on := 1, ground := Go.Ground.data }], guard := none }) (v := ?_) rfl (by kernel_rfl) (by kernel_rfl) (by kernel_rfl) (fun _ _ _ h => h) (Or.inl ⟨by rfl, ?_⟩) (by assumption) ?_
    rotate_left 1
    · (intro W hSW; obtain ⟨hS1, hS2, hS3⟩ := hSW; go_simp; (try with_reducible rfl))
    try simp only [Act.put, List.setIfInBounds_toArray, List.set_cons_zero, List.set_cons_succ]
    refine wpAnyH_take (i := 3) (oi := { dst := some 22, op := Go.Op.fieldAddr 110 (Go.Operand.tmp 21) 0, type := 0, pos := "wire.go:226", after := #[{ on := 2, ground := Go.Ground.data }], guard := none }) (v := ?_) rfl (by kernel_rfl) (by kernel_rfl) (by kernel_rfl) (fun _ _ _ h => h) (Or.inl ⟨by rfl, ?_⟩) (by assumption) ?_
    rotate_left 1
    · (intro W hSW; obtain ⟨hS1, hS2, hS3⟩ := hSW; go_simp; (try with_reducible rfl))
    try simp only [Act.put, List.setIfInBounds_toArray, List.set_cons_zero, List.set_cons_succ]
    refine wpAnyH_take (i := 4) (oi := { dst := some 23, op := Go.Op.load 107 (Go.Operand.tmp 22), type := 107, pos := "wire.go:226", after := #[{ on := 3, ground := Go.Ground.data }], guard := none }) (v := ?_) rfl (by kernel_rfl) (by kernel_rfl) (by kernel_rfl) (fun _ _ _ h => h) (Or.inl ⟨by rfl, ?_⟩) (by assumption) ?_
    rotate_left 1
    · (intro W hSW; obtain ⟨hS1, hS2, hS3⟩ := hSW; go_simp; (try with_reducible rfl))
    try simp only [Act.put, List.setIfInBounds_toArray, List.set_cons_zero, List.set_cons_succ]
    refine wpAnyH_ready (rs := [5]) (by kernel_rfl) (by simp) ?_
    refine AllReadyH.cons (o := { dst := some 24, op := Go.Op.call { callee := Go.Callee.value (Go.Operand.func 60), args := #[Go.Operand.tmp 23], argTypes := #[107] }, type := 28, pos := "wire.go:226", after := #[{ on := 4, ground := Go.Ground.data }], guard := none }) rfl (fun K hK => ?_) AllReadyH.nil
    go_simp
    go_at_call 60
    refine CE.out.mono ?_
    rintro e w' ⟨rfl, rfl⟩
    go_wp2_with fail
    refine hK.out _ _ hHeld (fun hHeld' => ?_)
    clear hK K hHeld'
    try simp only [Act.put, List.setIfInBounds_toArray, List.set_cons_zero, List.set_cons_succ]
    refine wpAnyH_take (i := 6) (oi := { dst := some 25, op := Go.Op.binOp Go.BinOp.eql 28 (Go.Operand.tmp 24) (Go.Operand.const (Go.Value.int Go.IntKind.i64 0)) 28, type := 4, pos := "wire.go:226", after := #[{ on := 5, ground := Go.Ground.data }], guard := none }) (v := ?_) rfl (by kernel_rfl) (by kernel_rfl) (by kernel_rfl) (fun _ _ _ h => h) (Or.inl ⟨by rfl, ?_⟩) (by assumption) ?_
    rotate_left 1
    · (intro W hSW; obtain ⟨hS1, hS2, hS3⟩ := hSW; go_simp; (try with_reducible rfl))
    try simp only [Act.put, List.setIfInBounds_toArray, List.set_cons_zero, List.set_cons_succ]
    refine wpAnyH_take (i := 7) (oi := { dst := some 26, op := Go.Op.move (Go.Operand.tmp 25), type := 4, pos := "wire.go:226", after := #[{ on := 6, ground := Go.Ground.data }, { on := 5, ground := Go.Ground.chain }], guard := none }) (v := ?_) rfl (by kernel_rfl) (by kernel_rfl) (by kernel_rfl) (fun _ _ _ h => h) (Or.inl ⟨by rfl, ?_⟩) (by assumption) ?_
    rotate_left 1
    · (intro W hSW; obtain ⟨hS1, hS2, hS3⟩ := hSW; go_simp; (try with_reducible rfl))
    try simp only [Act.put, List.setIfInBounds_toArray, List.set_cons_zero, List.set_cons_succ]
    refine wpAnyH_take (i := 8) (oi := { dst := some 27, op := Go.Op.move (Go.Operand.tmp 4), type := 106, pos := "wire.go:226", after := #[{ on := 7, ground := Go.Ground.guard }, { on := 14, ground := Go.Ground.gcOnly Go.Departure.lateStores }], guard := some (7, true) }) (v := undef) rfl (by kernel_rfl) (by kernel_rfl) (by kernel_rfl) (fun _ _ _ h => h) (Or.inr ⟨by rfl, rfl⟩) (by assumption) ?_
    try simp only [Act.put, List.setIfInBounds_toArray, List.set_cons_zero, List.set_cons_succ]
    refine wpAnyH_take (i := 9) (oi := { dst := some 28, op := Go.Op.nilCheck (Go.Operand.tmp 27), type := 0, pos := "wire.go:226", after := #[{ on := 8, ground := Go.Ground.data }, { on := 7, ground := Go.Ground.guard }, { on := 14, ground := Go.Ground.gcOnly Go.Departure.lateStores }], guard := some (7, true) }) (v := undef) rfl (by kernel_rfl) (by kernel_rfl) (by kernel_rfl) (fun _ _ _ h => h) (Or.inr ⟨by rfl, rfl⟩) (by assumption) ?_
    try simp only [Act.put, List.setIfInBounds_toArray, List.set_cons_zero, List.set_cons_succ]
    refine wpAnyH_take (i := 10) (oi := { dst := some 29, op := Go.Op.fieldAddr 110 (Go.Operand.tmp 28) 1, type := 0, pos := "wire.go:226", after := #[{ on := 9, ground := Go.Ground.data }, { on := 7, ground := Go.Ground.guard }, { on := 14, ground := Go.Ground.gcOnly Go.Departure.lateStores }], guard := some (7, true) }) (v := undef) rfl (by kernel_rfl) (by kernel_rfl) (by kernel_rfl) (fun _ _ _ h => h) (Or.inr ⟨by rfl, rfl⟩) (by assumption) ?_
    try simp only [Act.put, List.setIfInBounds_toArray, List.set_cons_zero, List.set_cons_succ]
    refine wpAnyH_take (i := 11) (oi := { dst := some 30, op := Go.Op.load 4 (Go.Operand.tmp 29), type := 4, pos := "wire.go:226", after := #[{ on := 10, ground := Go.Ground.data }, { on := 7, ground := Go.Ground.guard }, { on := 14, ground := Go.Ground.gcOnly Go.Departure.lateStores }], guard := some (7, true) }) (v := undef) rfl (by kernel_rfl) (by kernel_rfl) (by kernel_rfl) (fun _ _ _ h => h) (Or.inr ⟨by rfl, rfl⟩) (by assumption) ?_
    try simp only [Act.put, List.setIfInBounds_toArray, List.set_cons_zero, List.set_cons_succ]
    refine wpAnyH_take (i := 12) (oi := { dst := some 31, op := Go.Op.unOp Go.UnOp.not 4 (Go.Operand.tmp 30), type := 4, pos := "wire.go:226", after := #[{ on := 11, ground := Go.Ground.data }, { on := 7, ground := Go.Ground.guard }, { on := 14, ground := Go.Ground.gcOnly Go.Departure.lateStores }], guard := some (7, true) }) (v := undef) rfl (by kernel_rfl) (by kernel_rfl) (by kernel_rfl) (fun _ _ _ h => h) (Or.inr ⟨by rfl, rfl⟩) (by assumption) ?_
    try simp only [Act.put, List.setIfInBounds_toArray, List.set_cons_zero, List.set_cons_succ]
    refine wpAnyH_take (i := 13) (oi := { dst := some 32, op := Go.Op.pick (Go.Operand.tmp 26) (Go.Operand.tmp 31) (Go.Operand.const (Go.Value.bool false)), type := 4, pos := "wire.go:226", after := #[{ on := 7, ground := Go.Ground.data }, { on := 12, ground := Go.Ground.data }, { on := 14, ground := Go.Ground.gcOnly Go.Departure.lateStores }], guard := none }) (v := ?_) rfl (by kernel_rfl) (by kernel_rfl) (by kernel_rfl) (fun _ _ _ h => h) (Or.inl ⟨by rfl, ?_⟩) (by assumption) ?_
    rotate_left 1
    · (intro W hSW; obtain ⟨hS1, hS2, hS3⟩ := hSW; go_simp; (try with_reducible rfl))
    try simp only [Act.put, List.setIfInBounds_toArray, List.set_cons_zero, List.set_cons_succ]
    refine wpAnyH_ready (rs := [14]) (by kernel_rfl) (by simp) ?_
    refine AllReadyH.cons (o := { dst := none, op := Go.Op.store 35 (Go.Operand.tmp 2) (Go.Operand.tmp 19), type := 0, pos := "wire.go:226", after := #[{ on := 0, ground := Go.Ground.data }, { on := 7, ground := Go.Ground.chain }, { on := 0, ground := Go.Ground.phase }, { on := 1, ground := Go.Ground.textOnly Go.Departure.lateStores }, { on := 2, ground := Go.Ground.textOnly Go.Departure.lateStores }, { on := 3, ground := Go.Ground.textOnly Go.Departure.lateStores }, { on := 4, ground := Go.Ground.textOnly Go.Departure.lateStores }, { on := 5, ground := Go.Ground.textOnly Go.Departure.lateStoresUnsure }, { on := 6, ground := Go.Ground.textOnly Go.Departure.lateStores }, { on := 7, ground := Go.Ground.textOnly Go.Departure.lateStores }, { on := 8, ground := Go.Ground.textOnly Go.Departure.lateStores }, { on := 9, ground := Go.Ground.textOnly Go.Departure.lateStores }, { on := 10, ground := Go.Ground.textOnly Go.Departure.lateStores }, { on := 11, ground := Go.Ground.textOnly Go.Departure.lateStores }, { on := 12, ground := Go.Ground.textOnly Go.Departure.lateStores }, { on := 13, ground := Go.Ground.textOnly Go.Departure.lateStores }], guard := none }) rfl (fun K hK => ?_) AllReadyH.nil
    rw [if_pos (by rfl)]
    refine wp_store_row 35 (.tmp 2) (.tmp 19) rfl g2 rfl (msgC (rdM xs).c sv) _ rfl _ HXR.out rfl info_msg HOA.out (fun w13 hX13 hO13 => ?_)
    have HX13 := Aside0.mk hX13
    have HO13 := Aside0.mk hO13
    clear hX13 hO13
    refine hK.out _ _ ⟨HO13.out.blk HX12.out HNE.out.1, HO13.out.cell HI0.out HNE.out.2, HO13.out.cell HI1.out HNE.out.2⟩ (fun hHeld' => ?_)
    clear hK K hHeld
    try simp only [Act.put, List.setIfInBounds_toArray, List.set_cons_zero, List.set_cons_succ]
    refine wpAnyH_take (i := 15) (oi := { dst := some 3, op := Go.Op.assign (Go.Operand.tmp 32), type := 4, pos := "wire.go:226", after := #[{ on := 13, ground := Go.Ground.data }, { on := 14, ground := Go.Ground.chain }, { on := 0, ground := Go.Ground.phase }, { on := 1, ground := Go.Ground.phase }, { on := 2, ground := Go.Ground.phase }, { on := 3, ground := Go.Ground.phase }, { on := 4, ground := Go.Ground.phase }, { on := 5, ground := Go.Ground.phase }, { on := 6, ground := Go.Ground.phase }, { on := 7, ground := Go.Ground.phase }, { on := 8, ground := Go.Ground.phase }, { on := 9, ground := Go.Ground.phase }, { on := 10, ground := Go.Ground.phase }, { on := 11, ground := Go.Ground.phase }, { on := 12, ground := Go.Ground.phase }, { on := 13, ground := Go.Ground.phase }, { on := 14, ground := Go.Ground.phase }], guard := none }) (v := ?_) rfl (by kernel_rfl) (by kernel_rfl) (by kernel_rfl) (fun _ _ _ h => h) (Or.inl ⟨by rfl, ?_⟩) (by assumption) ?_
    rotate_left 1
    · (intro W hSW; obtain ⟨hS1, hS2, hS3⟩ := hSW; go_simp; (try with_reducible rfl))
    try simp only [Act.put, List.setIfInBounds_toArray, List.set_cons_zero, List.set_cons_succ]
    refine wpAnyH_done (by kernel_rfl) ?_ _
    go_wp2
    refine bodyPost_ret (results_ct (P := Try.prog) (fn := Try.f25) rfl _ _ g2 _ (msgC (rdM xs).c sv) (0, 0) _ rfl HX13.out Try.underlying35 rfl info_msg) rfl ?_
    obtain ⟨k1, k2⟩ := HFIN.out w13 HO13.out
    exact ⟨k1, _, _, rfl, HOKE.out.symm, sv, k2, HFR.out⟩
end Go.Proofs.Ytcbehfbfaonanaa.Wr
end

/- Two lists of rows compared, as wire.Same and the references do. -/
section
namespace Go.Proofs.Ytcbehfbfaonanaa.Wr
open Go.RowKit Go.Proofs.YtcbehfbfaonanaaW.PrintWords Go.Proofs.YtcbehfbfaonanaaW.PrintLast Go.Proofs.YtcbehfbfaonanaaW.PrintMore Go.Proofs.Ytcbehfbfaonanaa.Pk
set_option linter.unusedVariables false
set_option linter.unusedSimpArgs false

theorem eqA_Pos (d : Nat) (w : World) (x0 y0 : Int) (x1 y1 : Int) :
    (Op.equalIn (d + 2) 24 (.agg #[.int .i64 x0, .int .i64 x1]) (.agg #[.int .i64 y0, .int .i64 y1])).run Try.prog w = .ok (x0 == y0 && (x1 == y1)) w := by
  refine eqA_of Try.underlying24 (by kernel_rfl) ?_
  refine eqf_cons (by rfl) (by go_simp; rfl) (by go_simp; rfl) (by go_simp) ?_
  exact eqf_last (by rfl) (by go_simp; rfl) (by go_simp; rfl) (by go_simp)
theorem eqA_Value (d : Nat) (w : World) (x0 y0 : Int) (x1 y1 : Int) (x2 y2 : Bool) (x3 y3 : ByteArray) :
    (Op.equalIn (d + 3) 30 (.agg #[.int .i64 x0, .int .i64 x1, .bool x2, .string x3]) (.agg #[.int .i64 y0, .int .i64 y1, .bool y2, .string y3])).run Try.prog w = .ok ((x0 == y0 && (x1 == y1)) && (x2 == y2 && (x3.toList == y3.toList))) w := by
  refine eqA_of Try.underlying30 (by kernel_rfl) ?_
  refine eqf_cons (by rfl) (by go_simp) (by go_simp) (eqA_Pos (d + 0) w _ _ _ _) ?_
  refine eqf_cons (by rfl) (by go_simp; rfl) (by go_simp; rfl) (by go_simp) ?_
  exact eqf_last (by rfl) (by go_simp; rfl) (by go_simp; rfl) (by go_simp)
theorem eqA_Pair (d : Nat) (w : World) (x0 y0 : ByteArray) (x1 y1 : Int) (x2 y2 : Int) (x3 y3 : Bool) (x4 y4 : ByteArray) :
    (Op.equalIn (d + 4) 68 (.agg #[.string x0, .int .i64 x1, .int .i64 x2, .bool x3, .string x4]) (.agg #[.string y0, .int .i64 y1, .int .i64 y2, .bool y3, .string y4])).run Try.prog w = .ok (x0.toList == y0.toList && (((x1 == y1 && (x2 == y2)) && (x3 == y3 && (x4.toList == y4.toList))))) w := by
  refine eqA_of Try.underlying68 (by kernel_rfl) ?_
  refine eqf_cons (by rfl) (by go_simp; rfl) (by go_simp; rfl) (by go_simp) ?_
  exact eqf_last (by rfl) (by go_simp) (by go_simp) (eqA_Value (d + 0) w _ _ _ _ _ _ _ _)
theorem eqA_Seen (d : Nat) (w : World) (x0 y0 : Int) (x1 y1 : Int) (x2 y2 : Int) (x3 y3 : Int) :
    (Op.equalIn (d + 3) 70 (.agg #[.int .i64 x0, .int .i64 x1, .int .i64 x2, .int .i64 x3]) (.agg #[.int .i64 y0, .int .i64 y1, .int .i64 y2, .int .i64 y3])).run Try.prog w = .ok (x0 == y0 && (x1 == y1 && ((x2 == y2 && (x3 == y3))))) w := by
  refine eqA_of Try.underlying70 (by kernel_rfl) ?_
  refine eqf_cons (by rfl) (by go_simp; rfl) (by go_simp; rfl) (by go_simp) ?_
  refine eqf_cons (by rfl) (by go_simp; rfl) (by go_simp; rfl) (by go_simp) ?_
  exact eqf_last (by rfl) (by go_simp) (by go_simp) (eqA_Pos (d + 0) w _ _ _ _)
theorem eqA_Epoch (d : Nat) (w : World) (x0 y0 : Int) (x1 y1 : Int) (x2 y2 : Bool) :
    (Op.equalIn (d + 2) 72 (.agg #[.int .i64 x0, .int .i64 x1, .bool x2]) (.agg #[.int .i64 y0, .int .i64 y1, .bool y2])).run Try.prog w = .ok (x0 == y0 && (x1 == y1 && (x2 == y2))) w := by
  refine eqA_of Try.underlying72 (by kernel_rfl) ?_
  refine eqf_cons (by rfl) (by go_simp; rfl) (by go_simp; rfl) (by go_simp) ?_
  refine eqf_cons (by rfl) (by go_simp; rfl) (by go_simp; rfl) (by go_simp) ?_
  exact eqf_last (by rfl) (by go_simp; rfl) (by go_simp; rfl) (by go_simp)
theorem eqA_Entry (d : Nat) (w : World) (x0 y0 : Int) (x1 y1 : Int) (x2 y2 : Int) (x3 y3 : Int) (x4 y4 : ByteArray) (x5 y5 : Bool) (x6 y6 : ByteArray) :
    (Op.equalIn (d + 3) 66 (.agg #[.int .i64 x0, .int .i64 x1, .int .i64 x2, .int .i64 x3, .string x4, .bool x5, .string x6]) (.agg #[.int .i64 y0, .int .i64 y1, .int .i64 y2, .int .i64 y3, .string y4, .bool y5, .string y6])).run Try.prog w = .ok ((x0 == y0 && (x1 == y1)) && (x2 == y2 && (x3 == y3 && (x4.toList == y4.toList && (x5 == y5 && (x6.toList == y6.toList)))))) w := by
  refine eqA_of Try.underlying66 (by kernel_rfl) ?_
  refine eqf_cons (by rfl) (by go_simp) (by go_simp) (eqA_Pos (d + 0) w _ _ _ _) ?_
  refine eqf_cons (by rfl) (by go_simp; rfl) (by go_simp; rfl) (by go_simp) ?_
  refine eqf_cons (by rfl) (by go_simp; rfl) (by go_simp; rfl) (by go_simp) ?_
  refine eqf_cons (by rfl) (by go_simp; rfl) (by go_simp; rfl) (by go_simp) ?_
  refine eqf_cons (by rfl) (by go_simp; rfl) (by go_simp; rfl) (by go_simp) ?_
  exact eqf_last (by rfl) (by go_simp; rfl) (by go_simp; rfl) (by go_simp)

theorem baToList_inj {a b : ByteArray} (h : a.toList = b.toList) : a = b := by
  rw [ByteArray.toList_eq, ByteArray.toList_eq] at h
  exact ByteArray.ext (Array.ext' h)
/-- Two values were found the same, or not: nothing was turned. -/
def IsEq (p : Prop) (w : World) (e : Ending) (w' : World) : Prop := ∃ r, e = .returned (.bool r) ∧ (r = true ↔ p) ∧ Drawn0 w w'
theorem rd_row {w : World} {A : Option Addr} {n c st : Nat} {R : List (List Value)} {fs : List Fld} (h : ListRd w (.slice A n c) st R) (hl : R.length = n) {k : Nat} (hk : k < n) : ∃ ad r, A = some ad ∧ R[k]? = some r ∧ ∀ j v, r[j]? = some v → w.cell? (ad.add (k * st + j)) = some v := by
  obtain ⟨a, c', e, h0, h3⟩ := h
  injection e with e1 e2 e3
  subst e1
  obtain ⟨ad, rfl, h4⟩ := h3 (fun e => by subst e; simp at hl; omega)
  have hkl : k < R.length := by omega
  exact ⟨ad, R[k], rfl, List.getElem?_eq_getElem hkl, fun j v hj => h4 k _ (List.getElem?_eq_getElem hkl) j v hj⟩
theorem take_eq_succ {α : Type} {R S : List α} {k : Nat} {r : α} (h : R.take k = S.take k) (h1 : R[k]? = some r) (h2 : S[k]? = some r) : R.take (k + 1) = S.take (k + 1) := by
  rw [List.take_add_one, List.take_add_one, h, h1, h2]
theorem take_ne {α : Type} {R S : List α} {k : Nat} {r s : α} (h1 : R[k]? = some r) (h2 : S[k]? = some s) (hn : r ≠ s) : R ≠ S := fun e => by
  subst e
  rw [h1] at h2
  injection h2 with h2
  exact hn h2
theorem entry_vals {r : List Value} (h : fits entryF r) : ∃ (x0 : Int) (x1 : Int) (x2 : Int) (x3 : Int) (x4 : ByteArray) (x5 : Bool) (x6 : ByteArray), r = [.int .i64 x0, .int .i64 x1, .int .i64 x2, .int .i64 x3, .string x4, .bool x5, .string x6] := by
  obtain ⟨v0, r, rfl⟩ : ∃ v0 q, r = v0 :: q := by cases r with | nil => exact h.elim | cons a r => exact ⟨_, _, rfl⟩
  obtain ⟨⟨x0, rfl⟩, h⟩ := h
  obtain ⟨v1, r, rfl⟩ : ∃ v0 q, r = v0 :: q := by cases r with | nil => exact h.elim | cons a r => exact ⟨_, _, rfl⟩
  obtain ⟨⟨x1, rfl⟩, h⟩ := h
  obtain ⟨v2, r, rfl⟩ : ∃ v0 q, r = v0 :: q := by cases r with | nil => exact h.elim | cons a r => exact ⟨_, _, rfl⟩
  obtain ⟨⟨x2, rfl⟩, h⟩ := h
  obtain ⟨v3, r, rfl⟩ : ∃ v0 q, r = v0 :: q := by cases r with | nil => exact h.elim | cons a r => exact ⟨_, _, rfl⟩
  obtain ⟨⟨x3, rfl⟩, h⟩ := h
  obtain ⟨v4, r, rfl⟩ : ∃ v0 q, r = v0 :: q := by cases r with | nil => exact h.elim | cons a r => exact ⟨_, _, rfl⟩
  obtain ⟨⟨x4, rfl⟩, h⟩ := h
  obtain ⟨v5, r, rfl⟩ : ∃ v0 q, r = v0 :: q := by cases r with | nil => exact h.elim | cons a r => exact ⟨_, _, rfl⟩
  obtain ⟨⟨x5, rfl⟩, h⟩ := h
  obtain ⟨v6, r, rfl⟩ : ∃ v0 q, r = v0 :: q := by cases r with | nil => exact h.elim | cons a r => exact ⟨_, _, rfl⟩
  obtain ⟨⟨x6, rfl⟩, h⟩ := h
  obtain rfl : r = [] := by cases r with | nil => rfl | cons a r => exact h.elim
  exact ⟨x0, x1, x2, x3, x4, x5, x6, rfl⟩
theorem pair_vals {r : List Value} (h : fits pairF r) : ∃ (x0 : ByteArray) (x1 : Int) (x2 : Int) (x3 : Bool) (x4 : ByteArray), r = [.string x0, .int .i64 x1, .int .i64 x2, .bool x3, .string x4] := by
  obtain ⟨v0, r, rfl⟩ : ∃ v0 q, r = v0 :: q := by cases r with | nil => exact h.elim | cons a r => exact ⟨_, _, rfl⟩
  obtain ⟨⟨x0, rfl⟩, h⟩ := h
  obtain ⟨v1, r, rfl⟩ : ∃ v0 q, r = v0 :: q := by cases r with | nil => exact h.elim | cons a r => exact ⟨_, _, rfl⟩
  obtain ⟨⟨x1, rfl⟩, h⟩ := h
  obtain ⟨v2, r, rfl⟩ : ∃ v0 q, r = v0 :: q := by cases r with | nil => exact h.elim | cons a r => exact ⟨_, _, rfl⟩
  obtain ⟨⟨x2, rfl⟩, h⟩ := h
  obtain ⟨v3, r, rfl⟩ : ∃ v0 q, r = v0 :: q := by cases r with | nil => exact h.elim | cons a r => exact ⟨_, _, rfl⟩
  obtain ⟨⟨x3, rfl⟩, h⟩ := h
  obtain ⟨v4, r, rfl⟩ : ∃ v0 q, r = v0 :: q := by cases r with | nil => exact h.elim | cons a r => exact ⟨_, _, rfl⟩
  obtain ⟨⟨x4, rfl⟩, h⟩ := h
  obtain rfl : r = [] := by cases r with | nil => rfl | cons a r => exact h.elim
  exact ⟨x0, x1, x2, x3, x4, rfl⟩
theorem seen_vals {r : List Value} (h : fits seenF r) : ∃ (x0 : Int) (x1 : Int) (x2 : Int) (x3 : Int), r = [.int .i64 x0, .int .i64 x1, .int .i64 x2, .int .i64 x3] := by
  obtain ⟨v0, r, rfl⟩ : ∃ v0 q, r = v0 :: q := by cases r with | nil => exact h.elim | cons a r => exact ⟨_, _, rfl⟩
  obtain ⟨⟨x0, rfl⟩, h⟩ := h
  obtain ⟨v1, r, rfl⟩ : ∃ v0 q, r = v0 :: q := by cases r with | nil => exact h.elim | cons a r => exact ⟨_, _, rfl⟩
  obtain ⟨⟨x1, rfl⟩, h⟩ := h
  obtain ⟨v2, r, rfl⟩ : ∃ v0 q, r = v0 :: q := by cases r with | nil => exact h.elim | cons a r => exact ⟨_, _, rfl⟩
  obtain ⟨⟨x2, rfl⟩, h⟩ := h
  obtain ⟨v3, r, rfl⟩ : ∃ v0 q, r = v0 :: q := by cases r with | nil => exact h.elim | cons a r => exact ⟨_, _, rfl⟩
  obtain ⟨⟨x3, rfl⟩, h⟩ := h
  obtain rfl : r = [] := by cases r with | nil => rfl | cons a r => exact h.elim
  exact ⟨x0, x1, x2, x3, rfl⟩
theorem epoch_vals {r : List Value} (h : fits epochF r) : ∃ (x0 : Int) (x1 : Int) (x2 : Bool), r = [.int .i64 x0, .int .i64 x1, .bool x2] := by
  obtain ⟨v0, r, rfl⟩ : ∃ v0 q, r = v0 :: q := by cases r with | nil => exact h.elim | cons a r => exact ⟨_, _, rfl⟩
  obtain ⟨⟨x0, rfl⟩, h⟩ := h
  obtain ⟨v1, r, rfl⟩ : ∃ v0 q, r = v0 :: q := by cases r with | nil => exact h.elim | cons a r => exact ⟨_, _, rfl⟩
  obtain ⟨⟨x1, rfl⟩, h⟩ := h
  obtain ⟨v2, r, rfl⟩ : ∃ v0 q, r = v0 :: q := by cases r with | nil => exact h.elim | cons a r => exact ⟨_, _, rfl⟩
  obtain ⟨⟨x2, rfl⟩, h⟩ := h
  obtain rfl : r = [] := by cases r with | nil => rfl | cons a r => exact h.elim
  exact ⟨x0, x1, x2, rfl⟩

attribute [local go_sem high] eqA_Entry in
set_option maxRecDepth 100000 in
set_option maxHeartbeats 4000000 in
theorem equalEntry_c (w : World) (A B : Option Addr) (c d : Nat) (R S : List (List Value)) (h1 : ListRd w (.slice A R.length c) 7 R) (h2 : ListRd w (.slice B S.length d) 7 S) (hf : ∀ r, r ∈ R → fits entryF r) (hg : ∀ r, r ∈ S → fits entryF r) (hn : R.length ≤ 1048576) (hn2 : S.length ≤ 1048576) :
    Calls Try.prog 30 #[.slice A R.length c, .slice B S.length d] w (IsEq (R = S) w) := by
  have hu := Try.underlying66
  have H1 := Aside0.mk h1
  have H2 := Aside0.mk h2
  have HF := Aside0.mk hf
  have HG := Aside0.mk hg
  clear h1 h2 hf hg
  by_cases hl : R.length = S.length
  · obtain ⟨n, e1⟩ : ∃ n, R.length = n := ⟨_, rfl⟩
    have e2 : S.length = n := by omega
    rw [e1] at H1 hn hl
    rw [e2] at H2 hn2 hl
    rw [e1, e2]
    have E1 := Aside0.mk e1
    have E2 := Aside0.mk e2
    clear e1 e2 hl hn2
    go_enter Try.func30, Try.ntmps30
    go_wp2
    go_loopg [13] n (fun g v w' => ∃ k : Nat, v = .int .i64 (k : Int) ∧ k + g = n ∧ Aside0 (R.take k = S.take k) ∧ Drawn0 w w')
    case atStart => exact ⟨0, rfl, by omega, ⟨rfl⟩, Drawn0.refl _⟩
    case round =>
      obtain ⟨k, rfl, hk, HT, ⟨m1, rfl⟩⟩ := hrel
      cases gk with
      | zero =>
        obtain rfl : k = n := by omega
        go_wp2
        go_ret
        refine ⟨true, rfl, ⟨fun _ => ?_, fun _ => rfl⟩, by repeat (first | exact Drawn0.refl _ | apply Drawn0.step)⟩
        have := HT.out
        rwa [List.take_of_length_le (by rw [E1.out]; omega), List.take_of_length_le (by rw [E2.out]; omega)] at this
      | succ g =>
        have hkn : k < n := by omega
        obtain ⟨ad, r, rfl, hr, hcx⟩ := rd_row (fs := entryF) H1.out E1.out hkn
        obtain ⟨bd, s, rfl, hs, hcy⟩ := rd_row (fs := entryF) H2.out E2.out hkn
        obtain ⟨x0, x1, x2, x3, x4, x5, x6, rfl⟩ := entry_vals (HF.out r (List.mem_of_getElem? hr))
        obtain ⟨y0, y1, y2, y3, y4, y5, y6, rfl⟩ := entry_vals (HG.out s (List.mem_of_getElem? hs))
        have cx0 : w.cell? (ad.add (k * 7)) = some (.int .i64 x0) := hcx 0 _ rfl
        have cx1 : w.cell? ⟨(ad.add (k * 7)).block, (ad.add (k * 7)).off + 1, none⟩ = some (.int .i64 x1) := by rw [← add_field _ _ _ (by omega)]; exact hcx 1 _ rfl
        have cx2 : w.cell? ⟨(ad.add (k * 7)).block, (ad.add (k * 7)).off + 2, none⟩ = some (.int .i64 x2) := by rw [← add_field _ _ _ (by omega)]; exact hcx 2 _ rfl
        have cx3 : w.cell? ⟨(ad.add (k * 7)).block, (ad.add (k * 7)).off + 3, none⟩ = some (.int .i64 x3) := by rw [← add_field _ _ _ (by omega)]; exact hcx 3 _ rfl
        have cx4 : w.cell? ⟨(ad.add (k * 7)).block, (ad.add (k * 7)).off + 4, none⟩ = some (.string x4) := by rw [← add_field _ _ _ (by omega)]; exact hcx 4 _ rfl
        have cx5 : w.cell? ⟨(ad.add (k * 7)).block, (ad.add (k * 7)).off + 5, none⟩ = some (.bool x5) := by rw [← add_field _ _ _ (by omega)]; exact hcx 5 _ rfl
        have cx6 : w.cell? ⟨(ad.add (k * 7)).block, (ad.add (k * 7)).off + 6, none⟩ = some (.string x6) := by rw [← add_field _ _ _ (by omega)]; exact hcx 6 _ rfl
        have cy0 : w.cell? (bd.add (k * 7)) = some (.int .i64 y0) := hcy 0 _ rfl
        have cy1 : w.cell? ⟨(bd.add (k * 7)).block, (bd.add (k * 7)).off + 1, none⟩ = some (.int .i64 y1) := by rw [← add_field _ _ _ (by omega)]; exact hcy 1 _ rfl
        have cy2 : w.cell? ⟨(bd.add (k * 7)).block, (bd.add (k * 7)).off + 2, none⟩ = some (.int .i64 y2) := by rw [← add_field _ _ _ (by omega)]; exact hcy 2 _ rfl
        have cy3 : w.cell? ⟨(bd.add (k * 7)).block, (bd.add (k * 7)).off + 3, none⟩ = some (.int .i64 y3) := by rw [← add_field _ _ _ (by omega)]; exact hcy 3 _ rfl
        have cy4 : w.cell? ⟨(bd.add (k * 7)).block, (bd.add (k * 7)).off + 4, none⟩ = some (.string y4) := by rw [← add_field _ _ _ (by omega)]; exact hcy 4 _ rfl
        have cy5 : w.cell? ⟨(bd.add (k * 7)).block, (bd.add (k * 7)).off + 5, none⟩ = some (.bool y5) := by rw [← add_field _ _ _ (by omega)]; exact hcy 5 _ rfl
        have cy6 : w.cell? ⟨(bd.add (k * 7)).block, (bd.add (k * 7)).off + 6, none⟩ = some (.string y6) := by rw [← add_field _ _ _ (by omega)]; exact hcy 6 _ rfl
        have HR := Aside0.mk hr
        have HS := Aside0.mk hs
        have HK := Aside0.mk hk
        clear hcx hcy hr hs hk
        cases hb : (((!(x0 == y0)) || ((!(x1 == y1)))) || ((!(x2 == y2)) || ((!(x3 == y3)) || ((!(x4.toList == y4.toList)) || ((!(x5 == y5)) || ((!(x6.toList == y6.toList))))))))
        · have HE := Aside0.mk hb
          go_wp2
          repeat (go_quiet (fail); try go_wp2)
          go_roundg g
          case measure => omega
          case rel =>
            refine ⟨k + 1, by go_num, by have := HK.out; omega, ⟨?_⟩, by repeat (first | exact Drawn0.refl _ | apply Drawn0.step)⟩
            have he := HE.out
            simp only [Bool.or_eq_false_iff, Bool.not_eq_false', beq_iff_eq] at he
            obtain ⟨q0, q1, q2, q3, q4, q5, q6⟩ : x0 = y0 ∧ x1 = y1 ∧ x2 = y2 ∧ x3 = y3 ∧ x4.toList = y4.toList ∧ x5 = y5 ∧ x6.toList = y6.toList := by simpa [and_assoc] using he
            subst q0
            subst q1
            subst q2
            subst q3
            obtain rfl := baToList_inj q4
            subst q5
            obtain rfl := baToList_inj q6
            exact take_eq_succ HT.out HR.out HS.out
        · have HE := Aside0.mk hb
          go_wp2
          repeat (go_quiet (fail); try go_wp2)
          go_ret
          refine ⟨false, rfl, ⟨(fun h => by cases h), fun h => absurd h (take_ne HR.out HS.out (fun e => ?_))⟩, by repeat (first | exact Drawn0.refl _ | apply Drawn0.step)⟩
          have he := HE.out
          simp only [List.cons.injEq, Value.int.injEq, Value.string.injEq, Value.bool.injEq, true_and, and_true] at e
          obtain ⟨rfl, rfl, rfl, rfl, rfl, rfl, rfl⟩ := e
          simp at he
  · have b0 : ((R.length : Int) == (S.length : Int)) = false := by rw [beq_eq_false_iff_ne]; omega
    have b1 : ((R.length : Int) != (S.length : Int)) = true := by rw [bne_iff_ne]; omega
    have b2 : (R.length == S.length) = false := by simpa using hl
    have HN := Aside0.mk hl
    clear hl
    go_enter Try.func30, Try.ntmps30
    go_wp2
    go_ret
    exact ⟨false, rfl, ⟨(fun h => by cases h), fun h => absurd (congrArg List.length h) HN.out⟩, Drawn0.refl _⟩

attribute [local go_sem high] eqA_Pair in
set_option maxRecDepth 100000 in
set_option maxHeartbeats 4000000 in
theorem equalPair_c (w : World) (A B : Option Addr) (c d : Nat) (R S : List (List Value)) (h1 : ListRd w (.slice A R.length c) 5 R) (h2 : ListRd w (.slice B S.length d) 5 S) (hf : ∀ r, r ∈ R → fits pairF r) (hg : ∀ r, r ∈ S → fits pairF r) (hn : R.length ≤ 1048576) (hn2 : S.length ≤ 1048576) :
    Calls Try.prog 31 #[.slice A R.length c, .slice B S.length d] w (IsEq (R = S) w) := by
  have hu := Try.underlying68
  have H1 := Aside0.mk h1
  have H2 := Aside0.mk h2
  have HF := Aside0.mk hf
  have HG := Aside0.mk hg
  clear h1 h2 hf hg
  by_cases hl : R.length = S.length
  · obtain ⟨n, e1⟩ : ∃ n, R.length = n := ⟨_, rfl⟩
    have e2 : S.length = n := by omega
    rw [e1] at H1 hn hl
    rw [e2] at H2 hn2 hl
    rw [e1, e2]
    have E1 := Aside0.mk e1
    have E2 := Aside0.mk e2
    clear e1 e2 hl hn2
    go_enter Try.func31, Try.ntmps31
    go_wp2
    go_loopg [13] n (fun g v w' => ∃ k : Nat, v = .int .i64 (k : Int) ∧ k + g = n ∧ Aside0 (R.take k = S.take k) ∧ Drawn0 w w')
    case atStart => exact ⟨0, rfl, by omega, ⟨rfl⟩, Drawn0.refl _⟩
    case round =>
      obtain ⟨k, rfl, hk, HT, ⟨m1, rfl⟩⟩ := hrel
      cases gk with
      | zero =>
        obtain rfl : k = n := by omega
        go_wp2
        go_ret
        refine ⟨true, rfl, ⟨fun _ => ?_, fun _ => rfl⟩, by repeat (first | exact Drawn0.refl _ | apply Drawn0.step)⟩
        have := HT.out
        rwa [List.take_of_length_le (by rw [E1.out]; omega), List.take_of_length_le (by rw [E2.out]; omega)] at this
      | succ g =>
        have hkn : k < n := by omega
        obtain ⟨ad, r, rfl, hr, hcx⟩ := rd_row (fs := pairF) H1.out E1.out hkn
        obtain ⟨bd, s, rfl, hs, hcy⟩ := rd_row (fs := pairF) H2.out E2.out hkn
        obtain ⟨x0, x1, x2, x3, x4, rfl⟩ := pair_vals (HF.out r (List.mem_of_getElem? hr))
        obtain ⟨y0, y1, y2, y3, y4, rfl⟩ := pair_vals (HG.out s (List.mem_of_getElem? hs))
        have cx0 : w.cell? (ad.add (k * 5)) = some (.string x0) := hcx 0 _ rfl
        have cx1 : w.cell? ⟨(ad.add (k * 5)).block, (ad.add (k * 5)).off + 1, none⟩ = some (.int .i64 x1) := by rw [← add_field _ _ _ (by omega)]; exact hcx 1 _ rfl
        have cx2 : w.cell? ⟨(ad.add (k * 5)).block, (ad.add (k * 5)).off + 2, none⟩ = some (.int .i64 x2) := by rw [← add_field _ _ _ (by omega)]; exact hcx 2 _ rfl
        have cx3 : w.cell? ⟨(ad.add (k * 5)).block, (ad.add (k * 5)).off + 3, none⟩ = some (.bool x3) := by rw [← add_field _ _ _ (by omega)]; exact hcx 3 _ rfl
        have cx4 : w.cell? ⟨(ad.add (k * 5)).block, (ad.add (k * 5)).off + 4, none⟩ = some (.string x4) := by rw [← add_field _ _ _ (by omega)]; exact hcx 4 _ rfl
        have cy0 : w.cell? (bd.add (k * 5)) = some (.string y0) := hcy 0 _ rfl
        have cy1 : w.cell? ⟨(bd.add (k * 5)).block, (bd.add (k * 5)).off + 1, none⟩ = some (.int .i64 y1) := by rw [← add_field _ _ _ (by omega)]; exact hcy 1 _ rfl
        have cy2 : w.cell? ⟨(bd.add (k * 5)).block, (bd.add (k * 5)).off + 2, none⟩ = some (.int .i64 y2) := by rw [← add_field _ _ _ (by omega)]; exact hcy 2 _ rfl
        have cy3 : w.cell? ⟨(bd.add (k * 5)).block, (bd.add (k * 5)).off + 3, none⟩ = some (.bool y3) := by rw [← add_field _ _ _ (by omega)]; exact hcy 3 _ rfl
        have cy4 : w.cell? ⟨(bd.add (k * 5)).block, (bd.add (k * 5)).off + 4, none⟩ = some (.string y4) := by rw [← add_field _ _ _ (by omega)]; exact hcy 4 _ rfl
        have HR := Aside0.mk hr
        have HS := Aside0.mk hs
        have HK := Aside0.mk hk
        clear hcx hcy hr hs hk
        cases hb : ((!(x0.toList == y0.toList)) || ((((!(x1 == y1)) || ((!(x2 == y2)))) || ((!(x3 == y3)) || ((!(x4.toList == y4.toList)))))))
        · have HE := Aside0.mk hb
          go_wp2
          repeat (go_quiet (fail); try go_wp2)
          go_roundg g
          case measure => omega
          case rel =>
            refine ⟨k + 1, by go_num, by have := HK.out; omega, ⟨?_⟩, by repeat (first | exact Drawn0.refl _ | apply Drawn0.step)⟩
            have he := HE.out
            simp only [Bool.or_eq_false_iff, Bool.not_eq_false', beq_iff_eq] at he
            obtain ⟨q0, q1, q2, q3, q4⟩ : x0.toList = y0.toList ∧ x1 = y1 ∧ x2 = y2 ∧ x3 = y3 ∧ x4.toList = y4.toList := by simpa [and_assoc] using he
            obtain rfl := baToList_inj q0
            subst q1
            subst q2
            subst q3
            obtain rfl := baToList_inj q4
            exact take_eq_succ HT.out HR.out HS.out
        · have HE := Aside0.mk hb
          go_wp2
          repeat (go_quiet (fail); try go_wp2)
          go_ret
          refine ⟨false, rfl, ⟨(fun h => by cases h), fun h => absurd h (take_ne HR.out HS.out (fun e => ?_))⟩, by repeat (first | exact Drawn0.refl _ | apply Drawn0.step)⟩
          have he := HE.out
          simp only [List.cons.injEq, Value.int.injEq, Value.string.injEq, Value.bool.injEq, true_and, and_true] at e
          obtain ⟨rfl, rfl, rfl, rfl, rfl⟩ := e
          simp at he
  · have b0 : ((R.length : Int) == (S.length : Int)) = false := by rw [beq_eq_false_iff_ne]; omega
    have b1 : ((R.length : Int) != (S.length : Int)) = true := by rw [bne_iff_ne]; omega
    have b2 : (R.length == S.length) = false := by simpa using hl
    have HN := Aside0.mk hl
    clear hl
    go_enter Try.func31, Try.ntmps31
    go_wp2
    go_ret
    exact ⟨false, rfl, ⟨(fun h => by cases h), fun h => absurd (congrArg List.length h) HN.out⟩, Drawn0.refl _⟩

attribute [local go_sem high] eqA_Seen in
set_option maxRecDepth 100000 in
set_option maxHeartbeats 4000000 in
theorem equalSeen_c (w : World) (A B : Option Addr) (c d : Nat) (R S : List (List Value)) (h1 : ListRd w (.slice A R.length c) 4 R) (h2 : ListRd w (.slice B S.length d) 4 S) (hf : ∀ r, r ∈ R → fits seenF r) (hg : ∀ r, r ∈ S → fits seenF r) (hn : R.length ≤ 1048576) (hn2 : S.length ≤ 1048576) :
    Calls Try.prog 32 #[.slice A R.length c, .slice B S.length d] w (IsEq (R = S) w) := by
  have hu := Try.underlying70
  have H1 := Aside0.mk h1
  have H2 := Aside0.mk h2
  have HF := Aside0.mk hf
  have HG := Aside0.mk hg
  clear h1 h2 hf hg
  by_cases hl : R.length = S.length
  · obtain ⟨n, e1⟩ : ∃ n, R.length = n := ⟨_, rfl⟩
    have e2 : S.length = n := by omega
    rw [e1] at H1 hn hl
    rw [e2] at H2 hn2 hl
    rw [e1, e2]
    have E1 := Aside0.mk e1
    have E2 := Aside0.mk e2
    clear e1 e2 hl hn2
    go_enter Try.func32, Try.ntmps32
    go_wp2
    go_loopg [13] n (fun g v w' => ∃ k : Nat, v = .int .i64 (k : Int) ∧ k + g = n ∧ Aside0 (R.take k = S.take k) ∧ Drawn0 w w')
    case atStart => exact ⟨0, rfl, by omega, ⟨rfl⟩, Drawn0.refl _⟩
    case round =>
      obtain ⟨k, rfl, hk, HT, ⟨m1, rfl⟩⟩ := hrel
      cases gk with
      | zero =>
        obtain rfl : k = n := by omega
        go_wp2
        go_ret
        refine ⟨true, rfl, ⟨fun _ => ?_, fun _ => rfl⟩, by repeat (first | exact Drawn0.refl _ | apply Drawn0.step)⟩
        have := HT.out
        rwa [List.take_of_length_le (by rw [E1.out]; omega), List.take_of_length_le (by rw [E2.out]; omega)] at this
      | succ g =>
        have hkn : k < n := by omega
        obtain ⟨ad, r, rfl, hr, hcx⟩ := rd_row (fs := seenF) H1.out E1.out hkn
        obtain ⟨bd, s, rfl, hs, hcy⟩ := rd_row (fs := seenF) H2.out E2.out hkn
        obtain ⟨x0, x1, x2, x3, rfl⟩ := seen_vals (HF.out r (List.mem_of_getElem? hr))
        obtain ⟨y0, y1, y2, y3, rfl⟩ := seen_vals (HG.out s (List.mem_of_getElem? hs))
        have cx0 : w.cell? (ad.add (k * 4)) = some (.int .i64 x0) := hcx 0 _ rfl
        have cx1 : w.cell? ⟨(ad.add (k * 4)).block, (ad.add (k * 4)).off + 1, none⟩ = some (.int .i64 x1) := by rw [← add_field _ _ _ (by omega)]; exact hcx 1 _ rfl
        have cx2 : w.cell? ⟨(ad.add (k * 4)).block, (ad.add (k * 4)).off + 2, none⟩ = some (.int .i64 x2) := by rw [← add_field _ _ _ (by omega)]; exact hcx 2 _ rfl
        have cx3 : w.cell? ⟨(ad.add (k * 4)).block, (ad.add (k * 4)).off + 3, none⟩ = some (.int .i64 x3) := by rw [← add_field _ _ _ (by omega)]; exact hcx 3 _ rfl
        have cy0 : w.cell? (bd.add (k * 4)) = some (.int .i64 y0) := hcy 0 _ rfl
        have cy1 : w.cell? ⟨(bd.add (k * 4)).block, (bd.add (k * 4)).off + 1, none⟩ = some (.int .i64 y1) := by rw [← add_field _ _ _ (by omega)]; exact hcy 1 _ rfl
        have cy2 : w.cell? ⟨(bd.add (k * 4)).block, (bd.add (k * 4)).off + 2, none⟩ = some (.int .i64 y2) := by rw [← add_field _ _ _ (by omega)]; exact hcy 2 _ rfl
        have cy3 : w.cell? ⟨(bd.add (k * 4)).block, (bd.add (k * 4)).off + 3, none⟩ = some (.int .i64 y3) := by rw [← add_field _ _ _ (by omega)]; exact hcy 3 _ rfl
        have HR := Aside0.mk hr
        have HS := Aside0.mk hs
        have HK := Aside0.mk hk
        clear hcx hcy hr hs hk
        cases hb : ((!(x0 == y0)) || ((!(x1 == y1)) || (((!(x2 == y2)) || ((!(x3 == y3)))))))
        · have HE := Aside0.mk hb
          go_wp2
          repeat (go_quiet (fail); try go_wp2)
          go_roundg g
          case measure => omega
          case rel =>
            refine ⟨k + 1, by go_num, by have := HK.out; omega, ⟨?_⟩, by repeat (first | exact Drawn0.refl _ | apply Drawn0.step)⟩
            have he := HE.out
            simp only [Bool.or_eq_false_iff, Bool.not_eq_false', beq_iff_eq] at he
            obtain ⟨q0, q1, q2, q3⟩ : x0 = y0 ∧ x1 = y1 ∧ x2 = y2 ∧ x3 = y3 := by simpa [and_assoc] using he
            subst q0
            subst q1
            subst q2
            subst q3
            exact take_eq_succ HT.out HR.out HS.out
        · have HE := Aside0.mk hb
          go_wp2
          repeat (go_quiet (fail); try go_wp2)
          go_ret
          refine ⟨false, rfl, ⟨(fun h => by cases h), fun h => absurd h (take_ne HR.out HS.out (fun e => ?_))⟩, by repeat (first | exact Drawn0.refl _ | apply Drawn0.step)⟩
          have he := HE.out
          simp only [List.cons.injEq, Value.int.injEq, Value.string.injEq, Value.bool.injEq, true_and, and_true] at e
          obtain ⟨rfl, rfl, rfl, rfl⟩ := e
          simp at he
  · have b0 : ((R.length : Int) == (S.length : Int)) = false := by rw [beq_eq_false_iff_ne]; omega
    have b1 : ((R.length : Int) != (S.length : Int)) = true := by rw [bne_iff_ne]; omega
    have b2 : (R.length == S.length) = false := by simpa using hl
    have HN := Aside0.mk hl
    clear hl
    go_enter Try.func32, Try.ntmps32
    go_wp2
    go_ret
    exact ⟨false, rfl, ⟨(fun h => by cases h), fun h => absurd (congrArg List.length h) HN.out⟩, Drawn0.refl _⟩

attribute [local go_sem high] eqA_Epoch in
set_option maxRecDepth 100000 in
set_option maxHeartbeats 4000000 in
theorem equalEpoch_c (w : World) (A B : Option Addr) (c d : Nat) (R S : List (List Value)) (h1 : ListRd w (.slice A R.length c) 3 R) (h2 : ListRd w (.slice B S.length d) 3 S) (hf : ∀ r, r ∈ R → fits epochF r) (hg : ∀ r, r ∈ S → fits epochF r) (hn : R.length ≤ 1048576) (hn2 : S.length ≤ 1048576) :
    Calls Try.prog 33 #[.slice A R.length c, .slice B S.length d] w (IsEq (R = S) w) := by
  have hu := Try.underlying72
  have H1 := Aside0.mk h1
  have H2 := Aside0.mk h2
  have HF := Aside0.mk hf
  have HG := Aside0.mk hg
  clear h1 h2 hf hg
  by_cases hl : R.length = S.length
  · obtain ⟨n, e1⟩ : ∃ n, R.length = n := ⟨_, rfl⟩
    have e2 : S.length = n := by omega
    rw [e1] at H1 hn hl
    rw [e2] at H2 hn2 hl
    rw [e1, e2]
    have E1 := Aside0.mk e1
    have E2 := Aside0.mk e2
    clear e1 e2 hl hn2
    go_enter Try.func33, Try.ntmps33
    go_wp2
    go_loopg [13] n (fun g v w' => ∃ k : Nat, v = .int .i64 (k : Int) ∧ k + g = n ∧ Aside0 (R.take k = S.take k) ∧ Drawn0 w w')
    case atStart => exact ⟨0, rfl, by omega, ⟨rfl⟩, Drawn0.refl _⟩
    case round =>
      obtain ⟨k, rfl, hk, HT, ⟨m1, rfl⟩⟩ := hrel
      cases gk with
      | zero =>
        obtain rfl : k = n := by omega
        go_wp2
        go_ret
        refine ⟨true, rfl, ⟨fun _ => ?_, fun _ => rfl⟩, by repeat (first | exact Drawn0.refl _ | apply Drawn0.step)⟩
        have := HT.out
        rwa [List.take_of_length_le (by rw [E1.out]; omega), List.take_of_length_le (by rw [E2.out]; omega)] at this
      | succ g =>
        have hkn : k < n := by omega
        obtain ⟨ad, r, rfl, hr, hcx⟩ := rd_row (fs := epochF) H1.out E1.out hkn
        obtain ⟨bd, s, rfl, hs, hcy⟩ := rd_row (fs := epochF) H2.out E2.out hkn
        obtain ⟨x0, x1, x2, rfl⟩ := epoch_vals (HF.out r (List.mem_of_getElem? hr))
        obtain ⟨y0, y1, y2, rfl⟩ := epoch_vals (HG.out s (List.mem_of_getElem? hs))
        have cx0 : w.cell? (ad.add (k * 3)) = some (.int .i64 x0) := hcx 0 _ rfl
        have cx1 : w.cell? ⟨(ad.add (k * 3)).block, (ad.add (k * 3)).off + 1, none⟩ = some (.int .i64 x1) := by rw [← add_field _ _ _ (by omega)]; exact hcx 1 _ rfl
        have cx2 : w.cell? ⟨(ad.add (k * 3)).block, (ad.add (k * 3)).off + 2, none⟩ = some (.bool x2) := by rw [← add_field _ _ _ (by omega)]; exact hcx 2 _ rfl
        have cy0 : w.cell? (bd.add (k * 3)) = some (.int .i64 y0) := hcy 0 _ rfl
        have cy1 : w.cell? ⟨(bd.add (k * 3)).block, (bd.add (k * 3)).off + 1, none⟩ = some (.int .i64 y1) := by rw [← add_field _ _ _ (by omega)]; exact hcy 1 _ rfl
        have cy2 : w.cell? ⟨(bd.add (k * 3)).block, (bd.add (k * 3)).off + 2, none⟩ = some (.bool y2) := by rw [← add_field _ _ _ (by omega)]; exact hcy 2 _ rfl
        have HR := Aside0.mk hr
        have HS := Aside0.mk hs
        have HK := Aside0.mk hk
        clear hcx hcy hr hs hk
        cases hb : ((!(x0 == y0)) || ((!(x1 == y1)) || ((!(x2 == y2)))))
        · have HE := Aside0.mk hb
          go_wp2
          repeat (go_quiet (fail); try go_wp2)
          go_roundg g
          case measure => omega
          case rel =>
            refine ⟨k + 1, by go_num, by have := HK.out; omega, ⟨?_⟩, by repeat (first | exact Drawn0.refl _ | apply Drawn0.step)⟩
            have he := HE.out
            simp only [Bool.or_eq_false_iff, Bool.not_eq_false', beq_iff_eq] at he
            obtain ⟨q0, q1, q2⟩ : x0 = y0 ∧ x1 = y1 ∧ x2 = y2 := by simpa [and_assoc] using he
            subst q0
            subst q1
            subst q2
            exact take_eq_succ HT.out HR.out HS.out
        · have HE := Aside0.mk hb
          go_wp2
          repeat (go_quiet (fail); try go_wp2)
          go_ret
          refine ⟨false, rfl, ⟨(fun h => by cases h), fun h => absurd h (take_ne HR.out HS.out (fun e => ?_))⟩, by repeat (first | exact Drawn0.refl _ | apply Drawn0.step)⟩
          have he := HE.out
          simp only [List.cons.injEq, Value.int.injEq, Value.string.injEq, Value.bool.injEq, true_and, and_true] at e
          obtain ⟨rfl, rfl, rfl⟩ := e
          simp at he
  · have b0 : ((R.length : Int) == (S.length : Int)) = false := by rw [beq_eq_false_iff_ne]; omega
    have b1 : ((R.length : Int) != (S.length : Int)) = true := by rw [bne_iff_ne]; omega
    have b2 : (R.length == S.length) = false := by simpa using hl
    have HN := Aside0.mk hl
    clear hl
    go_enter Try.func33, Try.ntmps33
    go_wp2
    go_ret
    exact ⟨false, rfl, ⟨(fun h => by cases h), fun h => absurd (congrArg List.length h) HN.out⟩, Drawn0.refl _⟩

end Go.Proofs.Ytcbehfbfaonanaa.Wr
end

/- Guarded operations (a chain of '&&' or of '||'), carried out in blocks, over a frame that is known at some slots alone. -/
section
namespace Go.Proofs.Ytcbehfbfaonanaa.Wr
open Go.RowKit Go.Proofs.YtcbehfbfaonanaaW.PrintWords Go.Proofs.YtcbehfbfaonanaaW.PrintLast Go.Proofs.YtcbehfbfaonanaaW.PrintMore Go.Proofs.Ytcbehfbfaonanaa.Pk
set_option linter.unusedVariables false
set_option linter.unusedSimpArgs false

theorem dblk {w w' : World} {g : Nat} {o : Obj} (h : Drawn0 w w') (hb : w.heap[g]? = some o) : w'.heap[g]? = some o := by
  obtain ⟨n, rfl⟩ := h.out
  exact hb
/-- Slot i holds v. -/
def Has (a : Act) (i : Nat) (v : Value) : Prop := a.tmps[i]? = some v
theorem Has.eval {a : Act} {i : Nat} {v : Value} (h : Has a i v) : a.eval (.tmp i) = v := by
  unfold Has at h
  have hl := (Array.getElem?_eq_some_iff.1 h).1
  show a.tmps.getD i undef = v
  rw [Array.getD_eq_getD_getElem?, h]; rfl
theorem Has.same {a : Act} {i : Nat} {v : Value} (h : i < a.tmps.size) : Has (a.put (some i) v) i v := by
  unfold Has
  show (a.tmps.setIfInBounds i v)[i]? = some v
  rw [Array.getElem?_setIfInBounds_self_of_lt h]
theorem Has.far {a : Act} {i d : Nat} {v u : Value} (h : Has a i v) (hn : d ≠ i) : Has (a.put (some d) u) i v := by
  unfold Has at h ⊢
  show (a.tmps.setIfInBounds d u)[i]? = some v
  rw [Array.getElem?_setIfInBounds_ne hn, h]
theorem size_put (a : Act) (d : Option Nat) (u : Value) : (a.put d u).tmps.size = a.tmps.size := by
  cases d with
  | none => rfl
  | some d => show (a.tmps.setIfInBounds d u).size = _; simp
theorem defers_put (a : Act) (d : Option Nat) (u : Value) : (a.put d u).defers = a.defers := by cases d <;> rfl
theorem run_assign {P : Program} {W : World} {o : Oper} {ρ : Operand → Value} {x : Operand} {v : Value} (ho : o.op = .assign x) (h : ρ x = v) : (execOp ρ o).run P W = .ok (.value v) W := by
  unfold execOp
  simp only [ho, h]
  rfl
theorem results_one {fn : Func} {t : Tmp} {a : Act} {v : Value} {P : Program} {w : World} (hf : fn.results = #[.tmp t]) (h : Has a t v) : (results fn a.tmps).run P w = .ok v w := by
  rw [results_tmp hf]
  have : a.tmps.getD t undef = v := h.eval
  rw [this]
/-- What a block of operations leaves as it was. -/
structure Fr (n lo : Nat) (a a' : Act) : Prop where
  size : a'.tmps.size = n
  old : ∀ i v, i < lo → Has a i v → Has a' i v
  defers : a'.defers = a.defers
theorem Fr.refl {n lo : Nat} {a : Act} (h : a.tmps.size = n) : Fr n lo a a := ⟨h, fun _ _ _ h => h, rfl⟩
theorem Fr.put {n lo : Nat} {a a' : Act} (h : Fr n lo a a') {d : Nat} (hd : lo ≤ d) (v : Value) : Fr n lo a (a'.put (some d) v) :=
  ⟨(size_put _ _ _).trans h.size, fun i u hi hu => (h.old i u hi hu).far (by omega), (defers_put _ _ _).trans h.defers⟩
theorem Fr.trans {n lo lo' : Nat} {a b c : Act} (h : Fr n lo a b) (k : Fr n lo' b c) (hl : lo ≤ lo') : Fr n lo a c :=
  ⟨k.size, fun i v hi hv => k.old i v (by omega) (h.old i v hi hv), k.defers.trans h.defers⟩
section
variable {P : Program} {ops : Array Oper} {rest : List Oper} {Q : Exit → Act → World → Prop} {W : World} {a : Act} {o : Oper}
/-- An operation that yields. -/
theorem step_val {v : Value} {w1 : World} (hg : o.guard = none) (hrun : (execOp a.eval o).run P W = .ok (.value v) w1) (h : wpList P ops Q rest (a.put o.dst v) w1) : wpList P ops Q (o :: rest) a W := Kd.event_run hg hrun h
/-- The same, behind a guard that wants it. -/
theorem step_in {v : Value} {w1 : World} {j m : Nat} {b : Bool} (hg : o.guard = some (j, b)) (hj : (ops[j]?.bind (·.dst)) = some m) (hm : Has a m (.bool b)) (hrun : (execOp a.eval o).run P W = .ok (.value v) w1) (h : wpList P ops Q rest (a.put o.dst v) w1) : wpList P ops Q (o :: rest) a W := by
  refine gate_guard ?_ (step_val rfl ?_ h)
  · unfold Region.wanted yielded
    rw [hg]
    simp only [hj, Option.bind_some]
    rw [hm]
    simp
  · exact hrun
/-- Behind a guard that doesn't. -/
theorem step_out {j m : Nat} {b : Bool} (hg : o.guard = some (j, b)) (hj : (ops[j]?.bind (·.dst)) = some m) (hm : Has a m (.bool (!b))) (h : wpList P ops Q rest (a.put o.dst undef) W) : wpList P ops Q (o :: rest) a W := by
  refine skip_guard ?_ h
  unfold Region.wanted yielded
  rw [hg]
  simp only [hj, Option.bind_some]
  rw [hm]
  cases b <;> rfl
variable {n d p j : Nat} {b r e : Bool} {o1 o2 o3 o4 o5 o6 o7 : Oper} {A1 A2 v1 v2 : Value}
/-- One link of a chain: two fields compared, if what stands ahead wants it. -/
theorem cmp_block (hd : d + 6 < n) (hn : a.tmps.size = n) (hp : Has a p (.bool r)) {P1 P2 : Value} (h2 : Has a 2 P1) (h3 : Has a 3 P2) (hp2 : 3 < d) (hpd : p < d)
    (q1 : o1.op = .move (.tmp p) ∧ o1.dst = some d ∧ o1.guard = none) (q2 : o2.dst = some (d + 1) ∧ o2.guard = some (j, b)) (q3 : o3.dst = some (d + 2) ∧ o3.guard = some (j, b)) (q4 : o4.dst = some (d + 3) ∧ o4.guard = some (j, b)) (q5 : o5.dst = some (d + 4) ∧ o5.guard = some (j, b)) (q6 : o6.dst = some (d + 5) ∧ o6.guard = some (j, b)) (q7 : o7.dst = some (d + 6) ∧ o7.guard = none) (hj : (ops[j]?.bind (·.dst)) = some d)
    (x2 : ∀ ρ : Operand → Value, ρ (.tmp 2) = P1 → (execOp ρ o2).run P W = .ok (.value A1) W) (x3 : ∀ ρ : Operand → Value, ρ (.tmp (d + 1)) = A1 → (execOp ρ o3).run P W = .ok (.value v1) W)
    (x4 : ∀ ρ : Operand → Value, ρ (.tmp 3) = P2 → (execOp ρ o4).run P W = .ok (.value A2) W) (x5 : ∀ ρ : Operand → Value, ρ (.tmp (d + 3)) = A2 → (execOp ρ o5).run P W = .ok (.value v2) W)
    (x6 : ∀ ρ : Operand → Value, ρ (.tmp (d + 2)) = v1 → ρ (.tmp (d + 4)) = v2 → (execOp ρ o6).run P W = .ok (.value (.bool e)) W)
    (x7 : ∀ ρ : Operand → Value, (∀ v, ρ (.const v) = v) → (ρ (.tmp d) = .bool b → ρ (.tmp (d + 5)) = .bool e → (execOp ρ o7).run P W = .ok (.value (.bool e)) W) ∧ (ρ (.tmp d) = .bool (!b) → (execOp ρ o7).run P W = .ok (.value (.bool (!b))) W))
    (h : ∀ a' r', Fr n d a a' → Has a' (d + 6) (.bool r') → (r' = b ↔ r = b ∧ e = b) → wpList P ops Q rest a' W) : wpList P ops Q (o1 :: o2 :: o3 :: o4 :: o5 :: o6 :: o7 :: rest) a W := by
  refine step_val q1.2.2 (v := .bool r) (w1 := W) ?_ ?_
  · unfold execOp; simp only [q1.1, hp.eval]; rfl
  rw [q1.2.1]
  have f1 : Fr n d a (a.put (some d) (.bool r)) := (Fr.refl hn).put (Nat.le_refl _) _
  have m1 : Has (a.put (some d) (.bool r)) d (.bool r) := Has.same (by omega)
  generalize a.put (some d) (.bool r) = a1 at *
  by_cases hr : r = b
  · subst hr
    refine step_in q2.2 hj m1 (x2 _ (f1.old 2 _ (by omega) h2).eval) ?_
    rw [q2.1]
    have f2 := f1.put (d := d + 1) (by omega) A1
    have m2 : Has (a1.put (some (d + 1)) A1) (d + 1) A1 := Has.same (by rw [f1.size]; omega)
    have g2 : Has (a1.put (some (d + 1)) A1) d (.bool r) := m1.far (by omega)
    generalize a1.put (some (d + 1)) A1 = a2 at *
    refine step_in q3.2 hj g2 (x3 _ m2.eval) ?_
    rw [q3.1]
    have f3 := f2.put (d := d + 2) (by omega) v1
    have m3 : Has (a2.put (some (d + 2)) v1) (d + 2) v1 := Has.same (by rw [f2.size]; omega)
    have g3 : Has (a2.put (some (d + 2)) v1) d (.bool r) := g2.far (by omega)
    generalize a2.put (some (d + 2)) v1 = a3 at *
    refine step_in q4.2 hj g3 (x4 _ (f3.old 3 _ (by omega) h3).eval) ?_
    rw [q4.1]
    have f4 := f3.put (d := d + 3) (by omega) A2
    have m4 : Has (a3.put (some (d + 3)) A2) (d + 3) A2 := Has.same (by rw [f3.size]; omega)
    have g4 : Has (a3.put (some (d + 3)) A2) d (.bool r) := g3.far (by omega)
    have k4 : Has (a3.put (some (d + 3)) A2) (d + 2) v1 := m3.far (by omega)
    generalize a3.put (some (d + 3)) A2 = a4 at *
    refine step_in q5.2 hj g4 (x5 _ m4.eval) ?_
    rw [q5.1]
    have f5 := f4.put (d := d + 4) (by omega) v2
    have m5 : Has (a4.put (some (d + 4)) v2) (d + 4) v2 := Has.same (by rw [f4.size]; omega)
    have g5 : Has (a4.put (some (d + 4)) v2) d (.bool r) := g4.far (by omega)
    have k5 : Has (a4.put (some (d + 4)) v2) (d + 2) v1 := k4.far (by omega)
    generalize a4.put (some (d + 4)) v2 = a5 at *
    refine step_in q6.2 hj g5 (x6 _ k5.eval m5.eval) ?_
    rw [q6.1]
    have f6 := f5.put (d := d + 5) (by omega) (.bool e)
    have m6 : Has (a5.put (some (d + 5)) (.bool e)) (d + 5) (.bool e) := Has.same (by rw [f5.size]; omega)
    have g6 : Has (a5.put (some (d + 5)) (.bool e)) d (.bool r) := g5.far (by omega)
    generalize a5.put (some (d + 5)) (.bool e) = a6 at *
    refine step_val q7.2 ((x7 _ (fun _ => rfl)).1 g6.eval m6.eval) ?_
    rw [q7.1]
    exact h _ e (f6.put (by omega) _) (Has.same (by rw [f6.size]; omega)) (by simp)
  · have hrb : r = !b := by cases r <;> cases b <;> simp_all
    subst hrb
    refine step_out q2.2 hj m1 ?_
    rw [q2.1]
    have f2 := f1.put (d := d + 1) (by omega) undef
    have g2 : Has (a1.put (some (d + 1)) undef) d (.bool (!b)) := m1.far (by omega)
    generalize a1.put (some (d + 1)) undef = a2 at *
    refine step_out q3.2 hj g2 ?_
    rw [q3.1]
    have f3 := f2.put (d := d + 2) (by omega) undef
    have g3 : Has (a2.put (some (d + 2)) undef) d (.bool (!b)) := g2.far (by omega)
    generalize a2.put (some (d + 2)) undef = a3 at *
    refine step_out q4.2 hj g3 ?_
    rw [q4.1]
    have f4 := f3.put (d := d + 3) (by omega) undef
    have g4 : Has (a3.put (some (d + 3)) undef) d (.bool (!b)) := g3.far (by omega)
    generalize a3.put (some (d + 3)) undef = a4 at *
    refine step_out q5.2 hj g4 ?_
    rw [q5.1]
    have f5 := f4.put (d := d + 4) (by omega) undef
    have g5 : Has (a4.put (some (d + 4)) undef) d (.bool (!b)) := g4.far (by omega)
    generalize a4.put (some (d + 4)) undef = a5 at *
    refine step_out q6.2 hj g5 ?_
    rw [q6.1]
    have f6 := f5.put (d := d + 5) (by omega) undef
    have g6 : Has (a5.put (some (d + 5)) undef) d (.bool (!b)) := g5.far (by omega)
    generalize a5.put (some (d + 5)) undef = a6 at *
    refine step_val q7.2 ((x7 _ (fun _ => rfl)).2 g6.eval) ?_
    rw [q7.1]
    exact h _ (!b) (f6.put (by omega) _) (Has.same (by rw [f6.size]; omega)) (by simp)
/-- The first link. -/
theorem cmp_first (hd : d + 4 < n) (hn : a.tmps.size = n) {P1 P2 : Value} (h2 : Has a 2 P1) (h3 : Has a 3 P2) (hp2 : 3 < d)
    (q2 : o2.dst = some d ∧ o2.guard = none) (q3 : o3.dst = some (d + 1) ∧ o3.guard = none) (q4 : o4.dst = some (d + 2) ∧ o4.guard = none) (q5 : o5.dst = some (d + 3) ∧ o5.guard = none) (q6 : o6.dst = some (d + 4) ∧ o6.guard = none)
    (x2 : ∀ ρ : Operand → Value, ρ (.tmp 2) = P1 → (execOp ρ o2).run P W = .ok (.value A1) W) (x3 : ∀ ρ : Operand → Value, ρ (.tmp d) = A1 → (execOp ρ o3).run P W = .ok (.value v1) W)
    (x4 : ∀ ρ : Operand → Value, ρ (.tmp 3) = P2 → (execOp ρ o4).run P W = .ok (.value A2) W) (x5 : ∀ ρ : Operand → Value, ρ (.tmp (d + 2)) = A2 → (execOp ρ o5).run P W = .ok (.value v2) W)
    (x6 : ∀ ρ : Operand → Value, ρ (.tmp (d + 1)) = v1 → ρ (.tmp (d + 3)) = v2 → (execOp ρ o6).run P W = .ok (.value (.bool e)) W)
    (h : ∀ a', Fr n d a a' → Has a' (d + 4) (.bool e) → wpList P ops Q rest a' W) : wpList P ops Q (o2 :: o3 :: o4 :: o5 :: o6 :: rest) a W := by
  have f1 : Fr n d a a := Fr.refl hn
  refine step_val q2.2 (x2 _ h2.eval) ?_
  rw [q2.1]
  have f2 := f1.put (d := d) (by omega) A1
  have m2 : Has (a.put (some d) A1) d A1 := Has.same (by omega)
  generalize a.put (some d) A1 = a2 at *
  refine step_val q3.2 (x3 _ m2.eval) ?_
  rw [q3.1]
  have f3 := f2.put (d := d + 1) (by omega) v1
  have m3 : Has (a2.put (some (d + 1)) v1) (d + 1) v1 := Has.same (by rw [f2.size]; omega)
  generalize a2.put (some (d + 1)) v1 = a3 at *
  refine step_val q4.2 (x4 _ (f3.old 3 _ (by omega) h3).eval) ?_
  rw [q4.1]
  have f4 := f3.put (d := d + 2) (by omega) A2
  have m4 : Has (a3.put (some (d + 2)) A2) (d + 2) A2 := Has.same (by rw [f3.size]; omega)
  have k4 : Has (a3.put (some (d + 2)) A2) (d + 1) v1 := m3.far (by omega)
  generalize a3.put (some (d + 2)) A2 = a4 at *
  refine step_val q5.2 (x5 _ m4.eval) ?_
  rw [q5.1]
  have f5 := f4.put (d := d + 3) (by omega) v2
  have m5 : Has (a4.put (some (d + 3)) v2) (d + 3) v2 := Has.same (by rw [f4.size]; omega)
  have k5 : Has (a4.put (some (d + 3)) v2) (d + 1) v1 := k4.far (by omega)
  generalize a4.put (some (d + 3)) v2 = a5 at *
  refine step_val q6.2 (x6 _ k5.eval m5.eval) ?_
  rw [q6.1]
  exact h _ (f5.put (by omega) _) (Has.same (by rw [f5.size]; omega))
/-- A link that calls: two lists compared, if what stands ahead wants it. -/
theorem call_block {f : FuncId} {fn : Func} {ts : Array TypeId} {p' : Prop} (hf : P.funcs[f]? = some fn) (hname : (fn.name == "runtime.NumGoroutine") = false) (hb : fn.body.isSome = true) (hd : d + 6 < n) (hn : a.tmps.size = n) (hp : Has a p (.bool r)) {P1 P2 : Value} (h2 : Has a 2 P1) (h3 : Has a 3 P2) (hp2 : 3 < d) (hpd : p < d)
    (q1 : o1.op = .move (.tmp p) ∧ o1.dst = some d ∧ o1.guard = none) (q2 : o2.dst = some (d + 1) ∧ o2.guard = some (j, true)) (q3 : o3.dst = some (d + 2) ∧ o3.guard = some (j, true)) (q4 : o4.dst = some (d + 3) ∧ o4.guard = some (j, true)) (q5 : o5.dst = some (d + 4) ∧ o5.guard = some (j, true)) (q6 : o6.dst = some (d + 5) ∧ o6.guard = some (j, true)) (q7 : o7.dst = some (d + 6) ∧ o7.guard = none) (hj : (ops[j]?.bind (·.dst)) = some d)
    (x2 : ∀ ρ : Operand → Value, ρ (.tmp 2) = P1 → (execOp ρ o2).run P W = .ok (.value A1) W) (x3 : ∀ ρ : Operand → Value, ρ (.tmp (d + 1)) = A1 → (execOp ρ o3).run P W = .ok (.value v1) W)
    (x4 : ∀ ρ : Operand → Value, ρ (.tmp 3) = P2 → (execOp ρ o4).run P W = .ok (.value A2) W) (x5 : ∀ ρ : Operand → Value, ρ (.tmp (d + 3)) = A2 → (execOp ρ o5).run P W = .ok (.value v2) W)
    (x6 : o6.op = .call { callee := .value (.func f), args := #[.tmp (d + 2), .tmp (d + 4)], argTypes := ts }) (hC : Calls P f #[v1, v2] W (IsEq p' W))
    (x7 : ∀ (ρ : Operand → Value) (e : Bool) (W : World), (∀ v, ρ (.const v) = v) → (ρ (.tmp d) = .bool true → ρ (.tmp (d + 5)) = .bool e → (execOp ρ o7).run P W = .ok (.value (.bool e)) W) ∧ (ρ (.tmp d) = .bool false → (execOp ρ o7).run P W = .ok (.value (.bool false)) W))
    (h : ∀ a' r' W', Fr n d a a' → Has a' (d + 6) (.bool r') → (r' = true ↔ r = true ∧ p') → Drawn0 W W' → wpList P ops Q rest a' W') : wpList P ops Q (o1 :: o2 :: o3 :: o4 :: o5 :: o6 :: o7 :: rest) a W := by
  refine step_val q1.2.2 (v := .bool r) (w1 := W) ?_ ?_
  · unfold execOp; simp only [q1.1, hp.eval]; rfl
  rw [q1.2.1]
  have f1 : Fr n d a (a.put (some d) (.bool r)) := (Fr.refl hn).put (Nat.le_refl _) _
  have m1 : Has (a.put (some d) (.bool r)) d (.bool r) := Has.same (by omega)
  generalize a.put (some d) (.bool r) = a1 at *
  cases r
  · refine step_out q2.2 hj m1 ?_
    rw [q2.1]
    have f2 := f1.put (d := d + 1) (by omega) undef
    have g2 : Has (a1.put (some (d + 1)) undef) d (.bool false) := m1.far (by omega)
    generalize a1.put (some (d + 1)) undef = a2 at *
    refine step_out q3.2 hj g2 ?_
    rw [q3.1]
    have f3 := f2.put (d := d + 2) (by omega) undef
    have g3 : Has (a2.put (some (d + 2)) undef) d (.bool false) := g2.far (by omega)
    generalize a2.put (some (d + 2)) undef = a3 at *
    refine step_out q4.2 hj g3 ?_
    rw [q4.1]
    have f4 := f3.put (d := d + 3) (by omega) undef
    have g4 : Has (a3.put (some (d + 3)) undef) d (.bool false) := g3.far (by omega)
    generalize a3.put (some (d + 3)) undef = a4 at *
    refine step_out q5.2 hj g4 ?_
    rw [q5.1]
    have f5 := f4.put (d := d + 4) (by omega) undef
    have g5 : Has (a4.put (some (d + 4)) undef) d (.bool false) := g4.far (by omega)
    generalize a4.put (some (d + 4)) undef = a5 at *
    refine step_out q6.2 hj g5 ?_
    rw [q6.1]
    have f6 := f5.put (d := d + 5) (by omega) undef
    have g6 : Has (a5.put (some (d + 5)) undef) d (.bool false) := g5.far (by omega)
    generalize a5.put (some (d + 5)) undef = a6 at *
    refine step_val q7.2 ((x7 _ false W (fun _ => rfl)).2 g6.eval) ?_
    rw [q7.1]
    exact h _ false W (f6.put (by omega) _) (Has.same (by rw [f6.size]; omega)) (by simp) (Drawn0.refl _)
  · refine step_in q2.2 hj m1 (x2 _ (f1.old 2 _ (by omega) h2).eval) ?_
    rw [q2.1]
    have f2 := f1.put (d := d + 1) (by omega) A1
    have m2 : Has (a1.put (some (d + 1)) A1) (d + 1) A1 := Has.same (by rw [f1.size]; omega)
    have g2 : Has (a1.put (some (d + 1)) A1) d (.bool true) := m1.far (by omega)
    generalize a1.put (some (d + 1)) A1 = a2 at *
    refine step_in q3.2 hj g2 (x3 _ m2.eval) ?_
    rw [q3.1]
    have f3 := f2.put (d := d + 2) (by omega) v1
    have m3 : Has (a2.put (some (d + 2)) v1) (d + 2) v1 := Has.same (by rw [f2.size]; omega)
    have g3 : Has (a2.put (some (d + 2)) v1) d (.bool true) := g2.far (by omega)
    generalize a2.put (some (d + 2)) v1 = a3 at *
    refine step_in q4.2 hj g3 (x4 _ (f3.old 3 _ (by omega) h3).eval) ?_
    rw [q4.1]
    have f4 := f3.put (d := d + 3) (by omega) A2
    have m4 : Has (a3.put (some (d + 3)) A2) (d + 3) A2 := Has.same (by rw [f3.size]; omega)
    have g4 : Has (a3.put (some (d + 3)) A2) d (.bool true) := g3.far (by omega)
    have k4 : Has (a3.put (some (d + 3)) A2) (d + 2) v1 := m3.far (by omega)
    generalize a3.put (some (d + 3)) A2 = a4 at *
    refine step_in q5.2 hj g4 (x5 _ m4.eval) ?_
    rw [q5.1]
    have f5 := f4.put (d := d + 4) (by omega) v2
    have m5 : Has (a4.put (some (d + 4)) v2) (d + 4) v2 := Has.same (by rw [f4.size]; omega)
    have g5 : Has (a4.put (some (d + 4)) v2) d (.bool true) := g4.far (by omega)
    have k5 : Has (a4.put (some (d + 4)) v2) (d + 2) v1 := k4.far (by omega)
    generalize a4.put (some (d + 4)) v2 = a5 at *
    refine gate_guard ?_ ?_
    · unfold Region.wanted yielded
      rw [q6.2]
      simp only [hj, Option.bind_some]
      rw [show a5.tmps[d]? = _ from g5]
      rfl
    refine goesL_ (some (d + 5)) q6.1 rfl hf hname hb #[v1, v2] x6 (by simp [k5.eval, m5.eval]) (hC.mono ?_)
    rintro e w' ⟨r', rfl, hr', hD⟩
    refine ⟨_, rfl, ?_⟩
    have f6 := f5.put (d := d + 5) (by omega) (.bool r')
    have m6 : Has (a5.put (some (d + 5)) (.bool r')) (d + 5) (.bool r') := Has.same (by rw [f5.size]; omega)
    have g6 : Has (a5.put (some (d + 5)) (.bool r')) d (.bool true) := g5.far (by omega)
    generalize a5.put (some (d + 5)) (.bool r') = a6 at *
    refine step_val q7.2 ((x7 _ r' w' (fun _ => rfl)).1 g6.eval m6.eval) ?_
    rw [q7.1]
    exact h _ r' w' (f6.put (by omega) _) (Has.same (by rw [f6.size]; omega)) (by simp [hr']) hD
end
end Go.Proofs.Ytcbehfbfaonanaa.Wr
end

/- Two messages compared: meridian/wire.Same. -/
section
namespace Go.Proofs.Ytcbehfbfaonanaa.Wr
open Go.RowKit Go.Proofs.YtcbehfbfaonanaaW.PrintWords Go.Proofs.YtcbehfbfaonanaaW.PrintLast Go.Proofs.YtcbehfbfaonanaaW.PrintMore Go.Proofs.Ytcbehfbfaonanaa.Pk
set_option linter.unusedVariables false
set_option linter.unusedSimpArgs false

/-- Two messages are the same. -/
def MEq (a b : M) : Prop := (∀ i, scalar i = true → a.c i = b.c i) ∧ ∀ j fs, (j, fs) ∈ lists → a.L j = b.L j
def IsEqB (p : Prop) (w : World) (e : Ending) (w' : World) : Prop := ∃ r, e = .returned (.bool r) ∧ (r = true ↔ p) ∧ Below w.heap.size w w'
/-- The frame while two boxed messages are compared. -/
structure St (n : Nat) (a : Act) (g1 g2 : Nat) : Prop where
  size : a.tmps.size = n
  h2 : Has a 2 (.pointer (some ⟨g1, 0, none⟩))
  h3 : Has a 3 (.pointer (some ⟨g2, 0, none⟩))
  defers : a.defers = []
theorem St.step {n d g1 g2 : Nat} {a a' : Act} (h : St n a g1 g2) (hf : Fr n d a a') (hd : 3 < d) : St n a' g1 g2 := ⟨hf.size, hf.old 2 _ (by omega) h.h2, hf.old 3 _ hd h.h3, hf.defers.trans h.defers⟩
theorem wp_frame {P : Program} {ops : Array Oper} {Q : Exit → Act → World → Prop} {l : List Oper} {a : Act} {W : World} {n g1 g2 : Nat} (h0 : St n a g1 g2) (h : ∀ a, St n a g1 g2 → wpList P ops Q l a W) : wpList P ops Q l a W := h a h0
theorem meq_scalar {c d : Nat → Value} {i : Nat} (hi : scalar i = true) (h : c 0 = d 0 ∧ c 1 = d 1 ∧ c 2 = d 2 ∧ c 4 = d 4 ∧ c 5 = d 5 ∧ c 6 = d 6 ∧ c 7 = d 7 ∧ c 11 = d 11 ∧ c 12 = d 12 ∧ c 13 = d 13 ∧ c 14 = d 14 ∧ c 15 = d 15 ∧ c 16 = d 16 ∧ c 17 = d 17 ∧ c 18 = d 18 ∧ c 19 = d 19 ∧ c 20 = d 20 ∧ c 21 = d 21 ∧ c 22 = d 22 ∧ c 23 = d 23 ∧ c 24 = d 24 ∧ c 25 = d 25) : c i = d i := by
  obtain ⟨h0, h1, h2, h4, h5, h6, h7, h11, h12, h13, h14, h15, h16, h17, h18, h19, h20, h21, h22, h23, h24, h25⟩ := h
  have hlt : i < 26 := by unfold scalar at hi; simp only [Bool.and_eq_true, decide_eq_true_eq] at hi; exact hi.1
  have n3 : i ≠ 3 := fun e => by subst e; cases hi
  have n8 : i ≠ 8 := fun e => by subst e; cases hi
  have n9 : i ≠ 9 := fun e => by subst e; cases hi
  have n10 : i ≠ 10 := fun e => by subst e; cases hi
  have : i = 0 ∨ i = 1 ∨ i = 2 ∨ i = 4 ∨ i = 5 ∨ i = 6 ∨ i = 7 ∨ i = 11 ∨ i = 12 ∨ i = 13 ∨ i = 14 ∨ i = 15 ∨ i = 16 ∨ i = 17 ∨ i = 18 ∨ i = 19 ∨ i = 20 ∨ i = 21 ∨ i = 22 ∨ i = 23 ∨ i = 24 ∨ i = 25 := by omega
  rcases this with rfl | rfl | rfl | rfl | rfl | rfl | rfl | rfl | rfl | rfl | rfl | rfl | rfl | rfl | rfl | rfl | rfl | rfl | rfl | rfl | rfl | rfl <;> assumption

attribute [local go_sem high] eqA_Pos eqA_Value in
set_option maxRecDepth 100000 in
set_option maxHeartbeats 8000000 in
theorem wireSame_c (w : World) (va vb : Value) (a b : M) (sa sb : Nat → Value) (ha : MsgRd w va a sa) (hb : MsgRd w vb b sb) (hsa : ∀ j, (a.L j).length ≤ 1048576) (hsb : ∀ j, (b.L j).length ≤ 1048576) :
    Calls Try.prog 17 #[va, vb] w (IsEqB (MEq a b) w) := by
  obtain ⟨ea, ta, fa, ra⟩ := ha
  obtain ⟨eb, tb, fb, rb⟩ := hb
  obtain ⟨x0, e0⟩ := ta 0 rfl
  obtain ⟨y0, g0⟩ := tb 0 rfl
  obtain ⟨x1, e1⟩ := ta 1 rfl
  obtain ⟨y1, g1⟩ := tb 1 rfl
  obtain ⟨x2, e2⟩ := ta 2 rfl
  obtain ⟨y2, g2⟩ := tb 2 rfl
  obtain ⟨x4, e4⟩ := ta 4 rfl
  obtain ⟨y4, g4⟩ := tb 4 rfl
  obtain ⟨x5, e5⟩ := ta 5 rfl
  obtain ⟨y5, g5⟩ := tb 5 rfl
  obtain ⟨x6, e6⟩ := ta 6 rfl
  obtain ⟨y6, g6⟩ := tb 6 rfl
  obtain ⟨x7, e7⟩ := ta 7 rfl
  obtain ⟨y7, g7⟩ := tb 7 rfl
  obtain ⟨x11, e11⟩ := ta 11 rfl
  obtain ⟨y11, g11⟩ := tb 11 rfl
  obtain ⟨x12, e12⟩ := ta 12 rfl
  obtain ⟨y12, g12⟩ := tb 12 rfl
  obtain ⟨x13, e13⟩ := ta 13 rfl
  obtain ⟨y13, g13⟩ := tb 13 rfl
  obtain ⟨x14, e14⟩ := ta 14 rfl
  obtain ⟨y14, g14⟩ := tb 14 rfl
  obtain ⟨x15, e15⟩ := ta 15 rfl
  obtain ⟨y15, g15⟩ := tb 15 rfl
  obtain ⟨x16, e16⟩ := ta 16 rfl
  obtain ⟨y16, g16⟩ := tb 16 rfl
  obtain ⟨x17, e17⟩ := ta 17 rfl
  obtain ⟨y17, g17⟩ := tb 17 rfl
  obtain ⟨x18, e18⟩ := ta 18 rfl
  obtain ⟨y18, g18⟩ := tb 18 rfl
  obtain ⟨x19, e19⟩ := ta 19 rfl
  obtain ⟨y19, g19⟩ := tb 19 rfl
  obtain ⟨x20, e20⟩ := ta 20 rfl
  obtain ⟨y20, g20⟩ := tb 20 rfl
  obtain ⟨x21, e21⟩ := ta 21 rfl
  obtain ⟨y21, g21⟩ := tb 21 rfl
  obtain ⟨x22, e22⟩ := ta 22 rfl
  obtain ⟨y22, g22⟩ := tb 22 rfl
  obtain ⟨x23, e23⟩ := ta 23 rfl
  obtain ⟨y23, g23⟩ := tb 23 rfl
  obtain ⟨x24, e24⟩ := ta 24 rfl
  obtain ⟨y24, g24⟩ := tb 24 rfl
  obtain ⟨x25, e25⟩ := ta 25 rfl
  obtain ⟨y25, g25⟩ := tb 25 rfl
  have p3 := ra 3 entryF (by simp [lists])
  have q3 := rb 3 entryF (by simp [lists])
  have P3 := Aside0.mk p3
  have Q3 := Aside0.mk q3
  obtain ⟨A3, c3, s3, _⟩ := p3
  obtain ⟨B3, d3, t3, _⟩ := q3
  rw [s3] at P3
  rw [t3] at Q3
  have HC3 := Aside0.mk (fun (W : World) (hB : Below w.heap.size w W) => equalEntry_c W A3 B3 c3 d3 (a.L 3) (b.L 3) (P3.out.below (by simp [entryF]) (fitl fa (by simp [lists])) hB) (Q3.out.below (by simp [entryF]) (fitl fb (by simp [lists])) hB) (fa 3 entryF (by simp [lists])) (fb 3 entryF (by simp [lists])) (hsa 3) (hsb 3))
  have p8 := ra 8 pairF (by simp [lists])
  have q8 := rb 8 pairF (by simp [lists])
  have P8 := Aside0.mk p8
  have Q8 := Aside0.mk q8
  obtain ⟨A8, c8, s8, _⟩ := p8
  obtain ⟨B8, d8, t8, _⟩ := q8
  rw [s8] at P8
  rw [t8] at Q8
  have HC8 := Aside0.mk (fun (W : World) (hB : Below w.heap.size w W) => equalPair_c W A8 B8 c8 d8 (a.L 8) (b.L 8) (P8.out.below (by simp [pairF]) (fitl fa (by simp [lists])) hB) (Q8.out.below (by simp [pairF]) (fitl fb (by simp [lists])) hB) (fa 8 pairF (by simp [lists])) (fb 8 pairF (by simp [lists])) (hsa 8) (hsb 8))
  have p9 := ra 9 seenF (by simp [lists])
  have q9 := rb 9 seenF (by simp [lists])
  have P9 := Aside0.mk p9
  have Q9 := Aside0.mk q9
  obtain ⟨A9, c9, s9, _⟩ := p9
  obtain ⟨B9, d9, t9, _⟩ := q9
  rw [s9] at P9
  rw [t9] at Q9
  have HC9 := Aside0.mk (fun (W : World) (hB : Below w.heap.size w W) => equalSeen_c W A9 B9 c9 d9 (a.L 9) (b.L 9) (P9.out.below (by simp [seenF]) (fitl fa (by simp [lists])) hB) (Q9.out.below (by simp [seenF]) (fitl fb (by simp [lists])) hB) (fa 9 seenF (by simp [lists])) (fb 9 seenF (by simp [lists])) (hsa 9) (hsb 9))
  have p10 := ra 10 epochF (by simp [lists])
  have q10 := rb 10 epochF (by simp [lists])
  have P10 := Aside0.mk p10
  have Q10 := Aside0.mk q10
  obtain ⟨A10, c10, s10, _⟩ := p10
  obtain ⟨B10, d10, t10, _⟩ := q10
  rw [s10] at P10
  rw [t10] at Q10
  have HC10 := Aside0.mk (fun (W : World) (hB : Below w.heap.size w W) => equalEpoch_c W A10 B10 c10 d10 (a.L 10) (b.L 10) (P10.out.below (by simp [epochF]) (fitl fa (by simp [lists])) hB) (Q10.out.below (by simp [epochF]) (fitl fb (by simp [lists])) hB) (fa 10 epochF (by simp [lists])) (fb 10 epochF (by simp [lists])) (hsa 10) (hsb 10))
  have HEQ := Aside0.mk (show MEq a b ↔ ((x0 == y0) = true ∧ (x1 == y1) = true ∧ (x2 == y2) = true ∧ (x4 == y4 && (x5 == y5)) = true ∧ (x6 == y6) = true ∧ (x7 == y7) = true ∧ (x11 == y11 && (x12 == y12)) = true ∧ (x13 == y13) = true ∧ (x14 == y14) = true ∧ (x15 == y15) = true ∧ (x16.toList == y16.toList) = true ∧ (x17 == y17) = true ∧ (x18.toList == y18.toList) = true ∧ (x19 == y19 && (x20 == y20)) = true ∧ (x21 == y21) = true ∧ ((x22 == y22 && (x23 == y23)) && (x24 == y24 && (x25.toList == y25.toList))) = true) ∧ a.L 3 = b.L 3 ∧ a.L 8 = b.L 8 ∧ a.L 9 = b.L 9 ∧ a.L 10 = b.L 10 from by
    constructor
    · intro h
      have k0 := h.1 0 rfl
      rw [e0, g0] at k0
      simp only [Value.int.injEq, Value.string.injEq, Value.bool.injEq, true_and] at k0
      have k1 := h.1 1 rfl
      rw [e1, g1] at k1
      simp only [Value.int.injEq, Value.string.injEq, Value.bool.injEq, true_and] at k1
      have k2 := h.1 2 rfl
      rw [e2, g2] at k2
      simp only [Value.int.injEq, Value.string.injEq, Value.bool.injEq, true_and] at k2
      have k4 := h.1 4 rfl
      rw [e4, g4] at k4
      simp only [Value.int.injEq, Value.string.injEq, Value.bool.injEq, true_and] at k4
      have k5 := h.1 5 rfl
      rw [e5, g5] at k5
      simp only [Value.int.injEq, Value.string.injEq, Value.bool.injEq, true_and] at k5
      have k6 := h.1 6 rfl
      rw [e6, g6] at k6
      simp only [Value.int.injEq, Value.string.injEq, Value.bool.injEq, true_and] at k6
      have k7 := h.1 7 rfl
      rw [e7, g7] at k7
      simp only [Value.int.injEq, Value.string.injEq, Value.bool.injEq, true_and] at k7
      have k11 := h.1 11 rfl
      rw [e11, g11] at k11
      simp only [Value.int.injEq, Value.string.injEq, Value.bool.injEq, true_and] at k11
      have k12 := h.1 12 rfl
      rw [e12, g12] at k12
      simp only [Value.int.injEq, Value.string.injEq, Value.bool.injEq, true_and] at k12
      have k13 := h.1 13 rfl
      rw [e13, g13] at k13
      simp only [Value.int.injEq, Value.string.injEq, Value.bool.injEq, true_and] at k13
      have k14 := h.1 14 rfl
      rw [e14, g14] at k14
      simp only [Value.int.injEq, Value.string.injEq, Value.bool.injEq, true_and] at k14
      have k15 := h.1 15 rfl
      rw [e15, g15] at k15
      simp only [Value.int.injEq, Value.string.injEq, Value.bool.injEq, true_and] at k15
      have k16 := h.1 16 rfl
      rw [e16, g16] at k16
      simp only [Value.int.injEq, Value.string.injEq, Value.bool.injEq, true_and] at k16
      have k17 := h.1 17 rfl
      rw [e17, g17] at k17
      simp only [Value.int.injEq, Value.string.injEq, Value.bool.injEq, true_and] at k17
      have k18 := h.1 18 rfl
      rw [e18, g18] at k18
      simp only [Value.int.injEq, Value.string.injEq, Value.bool.injEq, true_and] at k18
      have k19 := h.1 19 rfl
      rw [e19, g19] at k19
      simp only [Value.int.injEq, Value.string.injEq, Value.bool.injEq, true_and] at k19
      have k20 := h.1 20 rfl
      rw [e20, g20] at k20
      simp only [Value.int.injEq, Value.string.injEq, Value.bool.injEq, true_and] at k20
      have k21 := h.1 21 rfl
      rw [e21, g21] at k21
      simp only [Value.int.injEq, Value.string.injEq, Value.bool.injEq, true_and] at k21
      have k22 := h.1 22 rfl
      rw [e22, g22] at k22
      simp only [Value.int.injEq, Value.string.injEq, Value.bool.injEq, true_and] at k22
      have k23 := h.1 23 rfl
      rw [e23, g23] at k23
      simp only [Value.int.injEq, Value.string.injEq, Value.bool.injEq, true_and] at k23
      have k24 := h.1 24 rfl
      rw [e24, g24] at k24
      simp only [Value.int.injEq, Value.string.injEq, Value.bool.injEq, true_and] at k24
      have k25 := h.1 25 rfl
      rw [e25, g25] at k25
      simp only [Value.int.injEq, Value.string.injEq, Value.bool.injEq, true_and] at k25
      refine ⟨⟨by simp [k0], by simp [k1], by simp [k2], by simp [k4, k5], by simp [k6], by simp [k7], by simp [k11, k12], by simp [k13], by simp [k14], by simp [k15], by simp [k16], by simp [k17], by simp [k18], by simp [k19, k20], by simp [k21], by simp [k22, k23, k24, k25]⟩, h.2 3 entryF (by simp [lists]), h.2 8 pairF (by simp [lists]), h.2 9 seenF (by simp [lists]), h.2 10 epochF (by simp [lists])⟩
    · rintro ⟨⟨k0, k1, k2, k3, k4, k5, k6, k7, k8, k9, k10, k11, k12, k13, k14, k15⟩, h3, h8, h9, h10⟩
      have z0 : x0 = y0 := by simpa using k0
      have z1 : x1 = y1 := by simpa using k1
      have z2 : x2 = y2 := by simpa using k2
      obtain ⟨z4, z5⟩ : x4 = y4 ∧ x5 = y5 := by simpa [and_assoc] using k3
      have z6 : x6 = y6 := by simpa using k4
      have z7 : x7 = y7 := by simpa using k5
      obtain ⟨z11, z12⟩ : x11 = y11 ∧ x12 = y12 := by simpa [and_assoc] using k6
      have z13 : x13 = y13 := by simpa using k7
      have z14 : x14 = y14 := by simpa using k8
      have z15 : x15 = y15 := by simpa using k9
      have z16 : x16.toList = y16.toList := by simpa using k10
      have z17 : x17 = y17 := by simpa using k11
      have z18 : x18.toList = y18.toList := by simpa using k12
      obtain ⟨z19, z20⟩ : x19 = y19 ∧ x20 = y20 := by simpa [and_assoc] using k13
      have z21 : x21 = y21 := by simpa using k14
      obtain ⟨z22, z23, z24, z25⟩ : x22 = y22 ∧ x23 = y23 ∧ x24 = y24 ∧ x25.toList = y25.toList := by simpa [and_assoc] using k15
      refine ⟨fun i hi => meq_scalar hi ⟨by rw [e0, g0, z0], by rw [e1, g1, z1], by rw [e2, g2, z2], by rw [e4, g4, z4], by rw [e5, g5, z5], by rw [e6, g6, z6], by rw [e7, g7, z7], by rw [e11, g11, z11], by rw [e12, g12, z12], by rw [e13, g13, z13], by rw [e14, g14, z14], by rw [e15, g15, z15], by rw [e16, g16, baToList_inj z16], by rw [e17, g17, z17], by rw [e18, g18, baToList_inj z18], by rw [e19, g19, z19], by rw [e20, g20, z20], by rw [e21, g21, z21], by rw [e22, g22, z22], by rw [e23, g23, z23], by rw [e24, g24, z24], by rw [e25, g25, baToList_inj z25]⟩, fun j fs hj => ?_⟩
      simp only [lists, List.mem_cons, Prod.mk.injEq, List.not_mem_nil, or_false] at hj
      rcases hj with ⟨rfl, _⟩ | ⟨rfl, _⟩ | ⟨rfl, _⟩ | ⟨rfl, _⟩
      · exact h3
      · exact h8
      · exact h9
      · exact h10)
  have ea' : va = .agg #[.int .i64 x0, .int .i64 x1, .int .i64 x2, .slice A3 (a.L 3).length c3, .int .i64 x4, .int .i64 x5, .int .i64 x6, .int .i64 x7, .slice A8 (a.L 8).length c8, .slice A9 (a.L 9).length c9, .slice A10 (a.L 10).length c10, .int .i64 x11, .int .i64 x12, .bool x13, .int .i64 x14, .int .i64 x15, .string x16, .bool x17, .string x18, .int .i64 x19, .int .i64 x20, .int .i64 x21, .int .i64 x22, .int .i64 x23, .bool x24, .string x25] := by rw [ea]; simp only [msgV, msgC, e0, e1, e2, e4, e5, e6, e7, e11, e12, e13, e14, e15, e16, e17, e18, e19, e20, e21, e22, e23, e24, e25, s3, s8, s9, s10]
  have eb' : vb = .agg #[.int .i64 y0, .int .i64 y1, .int .i64 y2, .slice B3 (b.L 3).length d3, .int .i64 y4, .int .i64 y5, .int .i64 y6, .int .i64 y7, .slice B8 (b.L 8).length d8, .slice B9 (b.L 9).length d9, .slice B10 (b.L 10).length d10, .int .i64 y11, .int .i64 y12, .bool y13, .int .i64 y14, .int .i64 y15, .string y16, .bool y17, .string y18, .int .i64 y19, .int .i64 y20, .int .i64 y21, .int .i64 y22, .int .i64 y23, .bool y24, .string y25] := by rw [eb]; simp only [msgV, msgC, g0, g1, g2, g4, g5, g6, g7, g11, g12, g13, g14, g15, g16, g17, g18, g19, g20, g21, g22, g23, g24, g25, t3, t8, t9, t10]
  rw [ea', eb']
  clear ea eb ea' eb' ta tb fa fb ra rb hsa hsb e0 g0 e1 g1 e2 g2 e4 g4 e5 g5 e6 g6 e7 g7 e11 g11 e12 g12 e13 g13 e14 g14 e15 g15 e16 g16 e17 g17 e18 g18 e19 g19 e20 g20 e21 g21 e22 g22 e23 g23 e24 g24 e25 g25 s3 t3 P3 Q3 s8 t8 P8 Q8 s9 t9 P9 Q9 s10 t10 P10 Q10
  go_enter Try.func17, Try.ntmps17
  go_upto_region 1 with (first | ((with_reducible refine gate_dst (N := 2) rfl ?_); refine box_row rfl 35 (.tmp 0) rfl #[.int .i64 x0, .int .i64 x1, .int .i64 x2, .slice A3 (a.L 3).length c3, .int .i64 x4, .int .i64 x5, .int .i64 x6, .int .i64 x7, .slice A8 (a.L 8).length c8, .slice A9 (a.L 9).length c9, .slice A10 (a.L 10).length c10, .int .i64 x11, .int .i64 x12, .bool x13, .int .i64 x14, .int .i64 x15, .string x16, .bool x17, .string x18, .int .i64 x19, .int .i64 x20, .int .i64 x21, .int .i64 x22, .int .i64 x23, .bool x24, .string x25] rfl ?_; intro g1 w1 hg hbox hb1; have HB1 := Aside0.mk hb1; have HX0 := Aside0.mk hbox; clear hb1 hg hbox) | ((with_reducible refine gate_dst (N := 3) rfl ?_); refine box_row rfl 35 (.tmp 1) rfl #[.int .i64 y0, .int .i64 y1, .int .i64 y2, .slice B3 (b.L 3).length d3, .int .i64 y4, .int .i64 y5, .int .i64 y6, .int .i64 y7, .slice B8 (b.L 8).length d8, .slice B9 (b.L 9).length d9, .slice B10 (b.L 10).length d10, .int .i64 y11, .int .i64 y12, .bool y13, .int .i64 y14, .int .i64 y15, .string y16, .bool y17, .string y18, .int .i64 y19, .int .i64 y20, .int .i64 y21, .int .i64 y22, .int .i64 y23, .bool y24, .string y25] rfl ?_; intro g2 w2 hg hbox hb1; have HX1 := Aside0.mk ((hb1.block g1 (blk_lt HX0.out)).trans HX0.out); have HX2 := Aside0.mk hbox; have HBW := Aside0.mk (HB1.out.trans (hb1.mono HB1.out.size)); clear hb1 hg hbox HX0 HB1))
  refine wp_region_lit ?_
  refine wp_frame (n := 143) (g1 := g1) (g2 := g2) ⟨rfl, rfl, rfl, rfl⟩ ?_
  intro a0 S0
  have q0 := blk_cell HX1.out 0
  simp only [List.getElem?_toArray, List.getElem?_cons_zero, List.getElem?_cons_succ] at q0
  have r0 := blk_cell HX2.out 0
  simp only [List.getElem?_toArray, List.getElem?_cons_zero, List.getElem?_cons_succ] at r0
  refine cmp_first (n := 143) (d := 5) (A1 := (.pointer (some ⟨g1, 0, none⟩))) (A2 := (.pointer (some ⟨g2, 0, none⟩))) (v1 := (.int .i64 x0)) (v2 := (.int .i64 y0)) (e := (x0 == y0)) (by omega) S0.size S0.h2 S0.h3 (by omega) ?_ ?_ ?_ ?_ ?_ ?_ ?_ ?_ ?_ ?_ ?_
  · exact ⟨rfl, rfl⟩
  · exact ⟨rfl, rfl⟩
  · exact ⟨rfl, rfl⟩
  · exact ⟨rfl, rfl⟩
  · exact ⟨rfl, rfl⟩
  · (intro ρ h; go_simp; (try with_reducible rfl))
  · (intro ρ h; go_simp; (try with_reducible rfl))
  · (intro ρ h; go_simp; (try with_reducible rfl))
  · (intro ρ h; go_simp; (try with_reducible rfl))
  · (intro ρ h h'; go_simp; (try with_reducible rfl))
  intro a1 F1 R1
  have S1 := St.step S0 F1 (by omega)
  clear q0 r0
  have q1 := blk_cell HX1.out 1
  simp only [List.getElem?_toArray, List.getElem?_cons_zero, List.getElem?_cons_succ] at q1
  have r1 := blk_cell HX2.out 1
  simp only [List.getElem?_toArray, List.getElem?_cons_zero, List.getElem?_cons_succ] at r1
  refine cmp_block (n := 143) (d := 10) (j := 5) (p := 9) (b := true) (A1 := (.pointer (some ⟨g1, 1, none⟩))) (A2 := (.pointer (some ⟨g2, 1, none⟩))) (v1 := (.int .i64 x1)) (v2 := (.int .i64 y1)) (e := (x1 == y1)) (by omega) S1.size R1 S1.h2 S1.h3 (by omega) (by omega) ?_ ?_ ?_ ?_ ?_ ?_ ?_ ?_ ?_ ?_ ?_ ?_ ?_ ?_ ?_
  · exact ⟨rfl, rfl, rfl⟩
  · exact ⟨rfl, rfl⟩
  · exact ⟨rfl, rfl⟩
  · exact ⟨rfl, rfl⟩
  · exact ⟨rfl, rfl⟩
  · exact ⟨rfl, rfl⟩
  · exact ⟨rfl, rfl⟩
  · rfl
  · (intro ρ h; go_simp; (try with_reducible rfl))
  · (intro ρ h; go_simp; (try with_reducible rfl))
  · (intro ρ h; go_simp; (try with_reducible rfl))
  · (intro ρ h; go_simp; (try with_reducible rfl))
  · (intro ρ h h'; go_simp; (try with_reducible rfl))
  · (intro ρ hc; exact ⟨(by intro h h'; go_simp), (by intro h; (try simp only [Bool.not_true, Bool.not_false] at h); go_simp)⟩)
  intro a2 r2_ F2 R2 K2
  have S2 := St.step S1 F2 (by omega)
  clear q1 r1
  have q2 := blk_cell HX1.out 2
  simp only [List.getElem?_toArray, List.getElem?_cons_zero, List.getElem?_cons_succ] at q2
  have r2 := blk_cell HX2.out 2
  simp only [List.getElem?_toArray, List.getElem?_cons_zero, List.getElem?_cons_succ] at r2
  refine cmp_block (n := 143) (d := 17) (j := 12) (p := 16) (b := true) (A1 := (.pointer (some ⟨g1, 2, none⟩))) (A2 := (.pointer (some ⟨g2, 2, none⟩))) (v1 := (.int .i64 x2)) (v2 := (.int .i64 y2)) (e := (x2 == y2)) (by omega) S2.size R2 S2.h2 S2.h3 (by omega) (by omega) ?_ ?_ ?_ ?_ ?_ ?_ ?_ ?_ ?_ ?_ ?_ ?_ ?_ ?_ ?_
  · exact ⟨rfl, rfl, rfl⟩
  · exact ⟨rfl, rfl⟩
  · exact ⟨rfl, rfl⟩
  · exact ⟨rfl, rfl⟩
  · exact ⟨rfl, rfl⟩
  · exact ⟨rfl, rfl⟩
  · exact ⟨rfl, rfl⟩
  · rfl
  · (intro ρ h; go_simp; (try with_reducible rfl))
  · (intro ρ h; go_simp; (try with_reducible rfl))
  · (intro ρ h; go_simp; (try with_reducible rfl))
  · (intro ρ h; go_simp; (try with_reducible rfl))
  · (intro ρ h h'; go_simp; (try with_reducible rfl))
  · (intro ρ hc; exact ⟨(by intro h h'; go_simp), (by intro h; (try simp only [Bool.not_true, Bool.not_false] at h); go_simp)⟩)
  intro a3 r3_ F3 R3 K3
  have S3 := St.step S2 F3 (by omega)
  clear q2 r2
  have q4 := blk_cell HX1.out 4
  simp only [List.getElem?_toArray, List.getElem?_cons_zero, List.getElem?_cons_succ] at q4
  have q5 := blk_cell HX1.out 5
  simp only [List.getElem?_toArray, List.getElem?_cons_zero, List.getElem?_cons_succ] at q5
  have r4 := blk_cell HX2.out 4
  simp only [List.getElem?_toArray, List.getElem?_cons_zero, List.getElem?_cons_succ] at r4
  have r5 := blk_cell HX2.out 5
  simp only [List.getElem?_toArray, List.getElem?_cons_zero, List.getElem?_cons_succ] at r5
  refine cmp_block (n := 143) (d := 24) (j := 19) (p := 23) (b := true) (A1 := (.pointer (some ⟨g1, 4, none⟩))) (A2 := (.pointer (some ⟨g2, 4, none⟩))) (v1 := (.agg #[.int .i64 x4, .int .i64 x5])) (v2 := (.agg #[.int .i64 y4, .int .i64 y5])) (e := (x4 == y4 && (x5 == y5))) (by omega) S3.size R3 S3.h2 S3.h3 (by omega) (by omega) ?_ ?_ ?_ ?_ ?_ ?_ ?_ ?_ ?_ ?_ ?_ ?_ ?_ ?_ ?_
  · exact ⟨rfl, rfl, rfl⟩
  · exact ⟨rfl, rfl⟩
  · exact ⟨rfl, rfl⟩
  · exact ⟨rfl, rfl⟩
  · exact ⟨rfl, rfl⟩
  · exact ⟨rfl, rfl⟩
  · exact ⟨rfl, rfl⟩
  · rfl
  · (intro ρ h; go_simp; (try with_reducible rfl))
  · (intro ρ h; go_simp; (try with_reducible rfl))
  · (intro ρ h; go_simp; (try with_reducible rfl))
  · (intro ρ h; go_simp; (try with_reducible rfl))
  · (intro ρ h h'; go_simp; (try with_reducible rfl))
  · (intro ρ hc; exact ⟨(by intro h h'; go_simp), (by intro h; (try simp only [Bool.not_true, Bool.not_false] at h); go_simp)⟩)
  intro a4 r4_ F4 R4 K4
  have S4 := St.step S3 F4 (by omega)
  clear q4 r4 q5 r5
  have q6 := blk_cell HX1.out 6
  simp only [List.getElem?_toArray, List.getElem?_cons_zero, List.getElem?_cons_succ] at q6
  have r6 := blk_cell HX2.out 6
  simp only [List.getElem?_toArray, List.getElem?_cons_zero, List.getElem?_cons_succ] at r6
  refine cmp_block (n := 143) (d := 31) (j := 26) (p := 30) (b := true) (A1 := (.pointer (some ⟨g1, 6, none⟩))) (A2 := (.pointer (some ⟨g2, 6, none⟩))) (v1 := (.int .i64 x6)) (v2 := (.int .i64 y6)) (e := (x6 == y6)) (by omega) S4.size R4 S4.h2 S4.h3 (by omega) (by omega) ?_ ?_ ?_ ?_ ?_ ?_ ?_ ?_ ?_ ?_ ?_ ?_ ?_ ?_ ?_
  · exact ⟨rfl, rfl, rfl⟩
  · exact ⟨rfl, rfl⟩
  · exact ⟨rfl, rfl⟩
  · exact ⟨rfl, rfl⟩
  · exact ⟨rfl, rfl⟩
  · exact ⟨rfl, rfl⟩
  · exact ⟨rfl, rfl⟩
  · rfl
  · (intro ρ h; go_simp; (try with_reducible rfl))
  · (intro ρ h; go_simp; (try with_reducible rfl))
  · (intro ρ h; go_simp; (try with_reducible rfl))
  · (intro ρ h; go_simp; (try with_reducible rfl))
  · (intro ρ h h'; go_simp; (try with_reducible rfl))
  · (intro ρ hc; exact ⟨(by intro h h'; go_simp), (by intro h; (try simp only [Bool.not_true, Bool.not_false] at h); go_simp)⟩)
  intro a5 r5_ F5 R5 K5
  have S5 := St.step S4 F5 (by omega)
  clear q6 r6
  have q7 := blk_cell HX1.out 7
  simp only [List.getElem?_toArray, List.getElem?_cons_zero, List.getElem?_cons_succ] at q7
  have r7 := blk_cell HX2.out 7
  simp only [List.getElem?_toArray, List.getElem?_cons_zero, List.getElem?_cons_succ] at r7
  refine cmp_block (n := 143) (d := 38) (j := 33) (p := 37) (b := true) (A1 := (.pointer (some ⟨g1, 7, none⟩))) (A2 := (.pointer (some ⟨g2, 7, none⟩))) (v1 := (.int .i64 x7)) (v2 := (.int .i64 y7)) (e := (x7 == y7)) (by omega) S5.size R5 S5.h2 S5.h3 (by omega) (by omega) ?_ ?_ ?_ ?_ ?_ ?_ ?_ ?_ ?_ ?_ ?_ ?_ ?_ ?_ ?_
  · exact ⟨rfl, rfl, rfl⟩
  · exact ⟨rfl, rfl⟩
  · exact ⟨rfl, rfl⟩
  · exact ⟨rfl, rfl⟩
  · exact ⟨rfl, rfl⟩
  · exact ⟨rfl, rfl⟩
  · exact ⟨rfl, rfl⟩
  · rfl
  · (intro ρ h; go_simp; (try with_reducible rfl))
  · (intro ρ h; go_simp; (try with_reducible rfl))
  · (intro ρ h; go_simp; (try with_reducible rfl))
  · (intro ρ h; go_simp; (try with_reducible rfl))
  · (intro ρ h h'; go_simp; (try with_reducible rfl))
  · (intro ρ hc; exact ⟨(by intro h h'; go_simp), (by intro h; (try simp only [Bool.not_true, Bool.not_false] at h); go_simp)⟩)
  intro a6 r6_ F6 R6 K6
  have S6 := St.step S5 F6 (by omega)
  clear q7 r7
  have q11 := blk_cell HX1.out 11
  simp only [List.getElem?_toArray, List.getElem?_cons_zero, List.getElem?_cons_succ] at q11
  have q12 := blk_cell HX1.out 12
  simp only [List.getElem?_toArray, List.getElem?_cons_zero, List.getElem?_cons_succ] at q12
  have r11 := blk_cell HX2.out 11
  simp only [List.getElem?_toArray, List.getElem?_cons_zero, List.getElem?_cons_succ] at r11
  have r12 := blk_cell HX2.out 12
  simp only [List.getElem?_toArray, List.getElem?_cons_zero, List.getElem?_cons_succ] at r12
  refine cmp_block (n := 143) (d := 45) (j := 40) (p := 44) (b := true) (A1 := (.pointer (some ⟨g1, 11, none⟩))) (A2 := (.pointer (some ⟨g2, 11, none⟩))) (v1 := (.agg #[.int .i64 x11, .int .i64 x12])) (v2 := (.agg #[.int .i64 y11, .int .i64 y12])) (e := (x11 == y11 && (x12 == y12))) (by omega) S6.size R6 S6.h2 S6.h3 (by omega) (by omega) ?_ ?_ ?_ ?_ ?_ ?_ ?_ ?_ ?_ ?_ ?_ ?_ ?_ ?_ ?_
  · exact ⟨rfl, rfl, rfl⟩
  · exact ⟨rfl, rfl⟩
  · exact ⟨rfl, rfl⟩
  · exact ⟨rfl, rfl⟩
  · exact ⟨rfl, rfl⟩
  · exact ⟨rfl, rfl⟩
  · exact ⟨rfl, rfl⟩
  · rfl
  · (intro ρ h; go_simp; (try with_reducible rfl))
  · (intro ρ h; go_simp; (try with_reducible rfl))
  · (intro ρ h; go_simp; (try with_reducible rfl))
  · (intro ρ h; go_simp; (try with_reducible rfl))
  · (intro ρ h h'; go_simp; (try with_reducible rfl))
  · (intro ρ hc; exact ⟨(by intro h h'; go_simp), (by intro h; (try simp only [Bool.not_true, Bool.not_false] at h); go_simp)⟩)
  intro a7 r7_ F7 R7 K7
  have S7 := St.step S6 F7 (by omega)
  clear q11 r11 q12 r12
  have q13 := blk_cell HX1.out 13
  simp only [List.getElem?_toArray, List.getElem?_cons_zero, List.getElem?_cons_succ] at q13
  have r13 := blk_cell HX2.out 13
  simp only [List.getElem?_toArray, List.getElem?_cons_zero, List.getElem?_cons_succ] at r13
  refine cmp_block (n := 143) (d := 52) (j := 47) (p := 51) (b := true) (A1 := (.pointer (some ⟨g1, 13, none⟩))) (A2 := (.pointer (some ⟨g2, 13, none⟩))) (v1 := (.bool x13)) (v2 := (.bool y13)) (e := (x13 == y13)) (by omega) S7.size R7 S7.h2 S7.h3 (by omega) (by omega) ?_ ?_ ?_ ?_ ?_ ?_ ?_ ?_ ?_ ?_ ?_ ?_ ?_ ?_ ?_
  · exact ⟨rfl, rfl, rfl⟩
  · exact ⟨rfl, rfl⟩
  · exact ⟨rfl, rfl⟩
  · exact ⟨rfl, rfl⟩
  · exact ⟨rfl, rfl⟩
  · exact ⟨rfl, rfl⟩
  · exact ⟨rfl, rfl⟩
  · rfl
  · (intro ρ h; go_simp; (try with_reducible rfl))
  · (intro ρ h; go_simp; (try with_reducible rfl))
  · (intro ρ h; go_simp; (try with_reducible rfl))
  · (intro ρ h; go_simp; (try with_reducible rfl))
  · (intro ρ h h'; go_simp; (try with_reducible rfl))
  · (intro ρ hc; exact ⟨(by intro h h'; go_simp), (by intro h; (try simp only [Bool.not_true, Bool.not_false] at h); go_simp)⟩)
  intro a8 r8_ F8 R8 K8
  have S8 := St.step S7 F8 (by omega)
  clear q13 r13
  have q14 := blk_cell HX1.out 14
  simp only [List.getElem?_toArray, List.getElem?_cons_zero, List.getElem?_cons_succ] at q14
  have r14 := blk_cell HX2.out 14
  simp only [List.getElem?_toArray, List.getElem?_cons_zero, List.getElem?_cons_succ] at r14
  refine cmp_block (n := 143) (d := 59) (j := 54) (p := 58) (b := true) (A1 := (.pointer (some ⟨g1, 14, none⟩))) (A2 := (.pointer (some ⟨g2, 14, none⟩))) (v1 := (.int .i64 x14)) (v2 := (.int .i64 y14)) (e := (x14 == y14)) (by omega) S8.size R8 S8.h2 S8.h3 (by omega) (by omega) ?_ ?_ ?_ ?_ ?_ ?_ ?_ ?_ ?_ ?_ ?_ ?_ ?_ ?_ ?_
  · exact ⟨rfl, rfl, rfl⟩
  · exact ⟨rfl, rfl⟩
  · exact ⟨rfl, rfl⟩
  · exact ⟨rfl, rfl⟩
  · exact ⟨rfl, rfl⟩
  · exact ⟨rfl, rfl⟩
  · exact ⟨rfl, rfl⟩
  · rfl
  · (intro ρ h; go_simp; (try with_reducible rfl))
  · (intro ρ h; go_simp; (try with_reducible rfl))
  · (intro ρ h; go_simp; (try with_reducible rfl))
  · (intro ρ h; go_simp; (try with_reducible rfl))
  · (intro ρ h h'; go_simp; (try with_reducible rfl))
  · (intro ρ hc; exact ⟨(by intro h h'; go_simp), (by intro h; (try simp only [Bool.not_true, Bool.not_false] at h); go_simp)⟩)
  intro a9 r9_ F9 R9 K9
  have S9 := St.step S8 F9 (by omega)
  clear q14 r14
  have q15 := blk_cell HX1.out 15
  simp only [List.getElem?_toArray, List.getElem?_cons_zero, List.getElem?_cons_succ] at q15
  have r15 := blk_cell HX2.out 15
  simp only [List.getElem?_toArray, List.getElem?_cons_zero, List.getElem?_cons_succ] at r15
  refine cmp_block (n := 143) (d := 66) (j := 61) (p := 65) (b := true) (A1 := (.pointer (some ⟨g1, 15, none⟩))) (A2 := (.pointer (some ⟨g2, 15, none⟩))) (v1 := (.int .i64 x15)) (v2 := (.int .i64 y15)) (e := (x15 == y15)) (by omega) S9.size R9 S9.h2 S9.h3 (by omega) (by omega) ?_ ?_ ?_ ?_ ?_ ?_ ?_ ?_ ?_ ?_ ?_ ?_ ?_ ?_ ?_
  · exact ⟨rfl, rfl, rfl⟩
  · exact ⟨rfl, rfl⟩
  · exact ⟨rfl, rfl⟩
  · exact ⟨rfl, rfl⟩
  · exact ⟨rfl, rfl⟩
  · exact ⟨rfl, rfl⟩
  · exact ⟨rfl, rfl⟩
  · rfl
  · (intro ρ h; go_simp; (try with_reducible rfl))
  · (intro ρ h; go_simp; (try with_reducible rfl))
  · (intro ρ h; go_simp; (try with_reducible rfl))
  · (intro ρ h; go_simp; (try with_reducible rfl))
  · (intro ρ h h'; go_simp; (try with_reducible rfl))
  · (intro ρ hc; exact ⟨(by intro h h'; go_simp), (by intro h; (try simp only [Bool.not_true, Bool.not_false] at h); go_simp)⟩)
  intro a10 r10_ F10 R10 K10
  have S10 := St.step S9 F10 (by omega)
  clear q15 r15
  have q16 := blk_cell HX1.out 16
  simp only [List.getElem?_toArray, List.getElem?_cons_zero, List.getElem?_cons_succ] at q16
  have r16 := blk_cell HX2.out 16
  simp only [List.getElem?_toArray, List.getElem?_cons_zero, List.getElem?_cons_succ] at r16
  refine cmp_block (n := 143) (d := 73) (j := 68) (p := 72) (b := true) (A1 := (.pointer (some ⟨g1, 16, none⟩))) (A2 := (.pointer (some ⟨g2, 16, none⟩))) (v1 := (.string x16)) (v2 := (.string y16)) (e := (x16.toList == y16.toList)) (by omega) S10.size R10 S10.h2 S10.h3 (by omega) (by omega) ?_ ?_ ?_ ?_ ?_ ?_ ?_ ?_ ?_ ?_ ?_ ?_ ?_ ?_ ?_
  · exact ⟨rfl, rfl, rfl⟩
  · exact ⟨rfl, rfl⟩
  · exact ⟨rfl, rfl⟩
  · exact ⟨rfl, rfl⟩
  · exact ⟨rfl, rfl⟩
  · exact ⟨rfl, rfl⟩
  · exact ⟨rfl, rfl⟩
  · rfl
  · (intro ρ h; go_simp; (try with_reducible rfl))
  · (intro ρ h; go_simp; (try with_reducible rfl))
  · (intro ρ h; go_simp; (try with_reducible rfl))
  · (intro ρ h; go_simp; (try with_reducible rfl))
  · (intro ρ h h'; go_simp; (try with_reducible rfl))
  · (intro ρ hc; exact ⟨(by intro h h'; go_simp), (by intro h; (try simp only [Bool.not_true, Bool.not_false] at h); go_simp)⟩)
  intro a11 r11_ F11 R11 K11
  have S11 := St.step S10 F11 (by omega)
  clear q16 r16
  have q17 := blk_cell HX1.out 17
  simp only [List.getElem?_toArray, List.getElem?_cons_zero, List.getElem?_cons_succ] at q17
  have r17 := blk_cell HX2.out 17
  simp only [List.getElem?_toArray, List.getElem?_cons_zero, List.getElem?_cons_succ] at r17
  refine cmp_block (n := 143) (d := 80) (j := 75) (p := 79) (b := true) (A1 := (.pointer (some ⟨g1, 17, none⟩))) (A2 := (.pointer (some ⟨g2, 17, none⟩))) (v1 := (.bool x17)) (v2 := (.bool y17)) (e := (x17 == y17)) (by omega) S11.size R11 S11.h2 S11.h3 (by omega) (by omega) ?_ ?_ ?_ ?_ ?_ ?_ ?_ ?_ ?_ ?_ ?_ ?_ ?_ ?_ ?_
  · exact ⟨rfl, rfl, rfl⟩
  · exact ⟨rfl, rfl⟩
  · exact ⟨rfl, rfl⟩
  · exact ⟨rfl, rfl⟩
  · exact ⟨rfl, rfl⟩
  · exact ⟨rfl, rfl⟩
  · exact ⟨rfl, rfl⟩
  · rfl
  · (intro ρ h; go_simp; (try with_reducible rfl))
  · (intro ρ h; go_simp; (try with_reducible rfl))
  · (intro ρ h; go_simp; (try with_reducible rfl))
  · (intro ρ h; go_simp; (try with_reducible rfl))
  · (intro ρ h h'; go_simp; (try with_reducible rfl))
  · (intro ρ hc; exact ⟨(by intro h h'; go_simp), (by intro h; (try simp only [Bool.not_true, Bool.not_false] at h); go_simp)⟩)
  intro a12 r12_ F12 R12 K12
  have S12 := St.step S11 F12 (by omega)
  clear q17 r17
  have q18 := blk_cell HX1.out 18
  simp only [List.getElem?_toArray, List.getElem?_cons_zero, List.getElem?_cons_succ] at q18
  have r18 := blk_cell HX2.out 18
  simp only [List.getElem?_toArray, List.getElem?_cons_zero, List.getElem?_cons_succ] at r18
  refine cmp_block (n := 143) (d := 87) (j := 82) (p := 86) (b := true) (A1 := (.pointer (some ⟨g1, 18, none⟩))) (A2 := (.pointer (some ⟨g2, 18, none⟩))) (v1 := (.string x18)) (v2 := (.string y18)) (e := (x18.toList == y18.toList)) (by omega) S12.size R12 S12.h2 S12.h3 (by omega) (by omega) ?_ ?_ ?_ ?_ ?_ ?_ ?_ ?_ ?_ ?_ ?_ ?_ ?_ ?_ ?_
  · exact ⟨rfl, rfl, rfl⟩
  · exact ⟨rfl, rfl⟩
  · exact ⟨rfl, rfl⟩
  · exact ⟨rfl, rfl⟩
  · exact ⟨rfl, rfl⟩
  · exact ⟨rfl, rfl⟩
  · exact ⟨rfl, rfl⟩
  · rfl
  · (intro ρ h; go_simp; (try with_reducible rfl))
  · (intro ρ h; go_simp; (try with_reducible rfl))
  · (intro ρ h; go_simp; (try with_reducible rfl))
  · (intro ρ h; go_simp; (try with_reducible rfl))
  · (intro ρ h h'; go_simp; (try with_reducible rfl))
  · (intro ρ hc; exact ⟨(by intro h h'; go_simp), (by intro h; (try simp only [Bool.not_true, Bool.not_false] at h); go_simp)⟩)
  intro a13 r13_ F13 R13 K13
  have S13 := St.step S12 F13 (by omega)
  clear q18 r18
  have q19 := blk_cell HX1.out 19
  simp only [List.getElem?_toArray, List.getElem?_cons_zero, List.getElem?_cons_succ] at q19
  have q20 := blk_cell HX1.out 20
  simp only [List.getElem?_toArray, List.getElem?_cons_zero, List.getElem?_cons_succ] at q20
  have r19 := blk_cell HX2.out 19
  simp only [List.getElem?_toArray, List.getElem?_cons_zero, List.getElem?_cons_succ] at r19
  have r20 := blk_cell HX2.out 20
  simp only [List.getElem?_toArray, List.getElem?_cons_zero, List.getElem?_cons_succ] at r20
  refine cmp_block (n := 143) (d := 94) (j := 89) (p := 93) (b := true) (A1 := (.pointer (some ⟨g1, 19, none⟩))) (A2 := (.pointer (some ⟨g2, 19, none⟩))) (v1 := (.agg #[.int .i64 x19, .int .i64 x20])) (v2 := (.agg #[.int .i64 y19, .int .i64 y20])) (e := (x19 == y19 && (x20 == y20))) (by omega) S13.size R13 S13.h2 S13.h3 (by omega) (by omega) ?_ ?_ ?_ ?_ ?_ ?_ ?_ ?_ ?_ ?_ ?_ ?_ ?_ ?_ ?_
  · exact ⟨rfl, rfl, rfl⟩
  · exact ⟨rfl, rfl⟩
  · exact ⟨rfl, rfl⟩
  · exact ⟨rfl, rfl⟩
  · exact ⟨rfl, rfl⟩
  · exact ⟨rfl, rfl⟩
  · exact ⟨rfl, rfl⟩
  · rfl
  · (intro ρ h; go_simp; (try with_reducible rfl))
  · (intro ρ h; go_simp; (try with_reducible rfl))
  · (intro ρ h; go_simp; (try with_reducible rfl))
  · (intro ρ h; go_simp; (try with_reducible rfl))
  · (intro ρ h h'; go_simp; (try with_reducible rfl))
  · (intro ρ hc; exact ⟨(by intro h h'; go_simp), (by intro h; (try simp only [Bool.not_true, Bool.not_false] at h); go_simp)⟩)
  intro a14 r14_ F14 R14 K14
  have S14 := St.step S13 F14 (by omega)
  clear q19 r19 q20 r20
  have q21 := blk_cell HX1.out 21
  simp only [List.getElem?_toArray, List.getElem?_cons_zero, List.getElem?_cons_succ] at q21
  have r21 := blk_cell HX2.out 21
  simp only [List.getElem?_toArray, List.getElem?_cons_zero, List.getElem?_cons_succ] at r21
  refine cmp_block (n := 143) (d := 101) (j := 96) (p := 100) (b := true) (A1 := (.pointer (some ⟨g1, 21, none⟩))) (A2 := (.pointer (some ⟨g2, 21, none⟩))) (v1 := (.int .i64 x21)) (v2 := (.int .i64 y21)) (e := (x21 == y21)) (by omega) S14.size R14 S14.h2 S14.h3 (by omega) (by omega) ?_ ?_ ?_ ?_ ?_ ?_ ?_ ?_ ?_ ?_ ?_ ?_ ?_ ?_ ?_
  · exact ⟨rfl, rfl, rfl⟩
  · exact ⟨rfl, rfl⟩
  · exact ⟨rfl, rfl⟩
  · exact ⟨rfl, rfl⟩
  · exact ⟨rfl, rfl⟩
  · exact ⟨rfl, rfl⟩
  · exact ⟨rfl, rfl⟩
  · rfl
  · (intro ρ h; go_simp; (try with_reducible rfl))
  · (intro ρ h; go_simp; (try with_reducible rfl))
  · (intro ρ h; go_simp; (try with_reducible rfl))
  · (intro ρ h; go_simp; (try with_reducible rfl))
  · (intro ρ h h'; go_simp; (try with_reducible rfl))
  · (intro ρ hc; exact ⟨(by intro h h'; go_simp), (by intro h; (try simp only [Bool.not_true, Bool.not_false] at h); go_simp)⟩)
  intro a15 r15_ F15 R15 K15
  have S15 := St.step S14 F15 (by omega)
  clear q21 r21
  have q22 := blk_cell HX1.out 22
  simp only [List.getElem?_toArray, List.getElem?_cons_zero, List.getElem?_cons_succ] at q22
  have q23 := blk_cell HX1.out 23
  simp only [List.getElem?_toArray, List.getElem?_cons_zero, List.getElem?_cons_succ] at q23
  have q24 := blk_cell HX1.out 24
  simp only [List.getElem?_toArray, List.getElem?_cons_zero, List.getElem?_cons_succ] at q24
  have q25 := blk_cell HX1.out 25
  simp only [List.getElem?_toArray, List.getElem?_cons_zero, List.getElem?_cons_succ] at q25
  have r22 := blk_cell HX2.out 22
  simp only [List.getElem?_toArray, List.getElem?_cons_zero, List.getElem?_cons_succ] at r22
  have r23 := blk_cell HX2.out 23
  simp only [List.getElem?_toArray, List.getElem?_cons_zero, List.getElem?_cons_succ] at r23
  have r24 := blk_cell HX2.out 24
  simp only [List.getElem?_toArray, List.getElem?_cons_zero, List.getElem?_cons_succ] at r24
  have r25 := blk_cell HX2.out 25
  simp only [List.getElem?_toArray, List.getElem?_cons_zero, List.getElem?_cons_succ] at r25
  refine cmp_block (n := 143) (d := 108) (j := 103) (p := 107) (b := true) (A1 := (.pointer (some ⟨g1, 22, none⟩))) (A2 := (.pointer (some ⟨g2, 22, none⟩))) (v1 := (.agg #[.int .i64 x22, .int .i64 x23, .bool x24, .string x25])) (v2 := (.agg #[.int .i64 y22, .int .i64 y23, .bool y24, .string y25])) (e := ((x22 == y22 && (x23 == y23)) && (x24 == y24 && (x25.toList == y25.toList)))) (by omega) S15.size R15 S15.h2 S15.h3 (by omega) (by omega) ?_ ?_ ?_ ?_ ?_ ?_ ?_ ?_ ?_ ?_ ?_ ?_ ?_ ?_ ?_
  · exact ⟨rfl, rfl, rfl⟩
  · exact ⟨rfl, rfl⟩
  · exact ⟨rfl, rfl⟩
  · exact ⟨rfl, rfl⟩
  · exact ⟨rfl, rfl⟩
  · exact ⟨rfl, rfl⟩
  · exact ⟨rfl, rfl⟩
  · rfl
  · (intro ρ h; go_simp; (try with_reducible rfl))
  · (intro ρ h; go_simp; (try with_reducible rfl))
  · (intro ρ h; go_simp; (try with_reducible rfl))
  · (intro ρ h; go_simp; (try with_reducible rfl))
  · (intro ρ h h'; go_simp; (try with_reducible rfl))
  · (intro ρ hc; exact ⟨(by intro h h'; go_simp), (by intro h; (try simp only [Bool.not_true, Bool.not_false] at h); go_simp)⟩)
  intro a16 r16_ F16 R16 K16
  have S16 := St.step S15 F16 (by omega)
  clear q22 r22 q23 r23 q24 r24 q25 r25
  have HX1_17 := HX1
  have HX2_17 := HX2
  have HBW17 := Aside0.mk HBW.out
  have q3 := blk_cell HX1_17.out 3
  simp only [List.getElem?_toArray, List.getElem?_cons_zero, List.getElem?_cons_succ] at q3
  have r3 := blk_cell HX2_17.out 3
  simp only [List.getElem?_toArray, List.getElem?_cons_zero, List.getElem?_cons_succ] at r3
  refine call_block (ts := #[22, 22]) (n := 143) (d := 115) (j := 110) (p := 114) (p' := a.L 3 = b.L 3) (A1 := (.pointer (some ⟨g1, 3, none⟩))) (A2 := (.pointer (some ⟨g2, 3, none⟩))) (v1 := .slice A3 (a.L 3).length c3) (v2 := .slice B3 (b.L 3).length d3) Try.func30 rfl rfl (by omega) S16.size R16 S16.h2 S16.h3 (by omega) (by omega) ?_ ?_ ?_ ?_ ?_ ?_ ?_ ?_ ?_ ?_ ?_ ?_ ?_ (HC3.out _ HBW17.out) ?_ ?_
  · exact ⟨rfl, rfl, rfl⟩
  · exact ⟨rfl, rfl⟩
  · exact ⟨rfl, rfl⟩
  · exact ⟨rfl, rfl⟩
  · exact ⟨rfl, rfl⟩
  · exact ⟨rfl, rfl⟩
  · exact ⟨rfl, rfl⟩
  · rfl
  · (intro ρ h; go_simp; (try with_reducible rfl))
  · (intro ρ h; go_simp; (try with_reducible rfl))
  · (intro ρ h; go_simp; (try with_reducible rfl))
  · (intro ρ h; go_simp; (try with_reducible rfl))
  · rfl
  · (intro ρ e W hc; exact ⟨(by intro h h'; go_simp), (by intro h; (try simp only [Bool.not_true, Bool.not_false] at h); go_simp)⟩)
  intro a17 r17_ w17_ F17 R17 K17 D17
  have S17 := St.step S16 F17 (by omega)
  clear q3 r3
  have HX1_18 := Aside0.mk (dblk D17 HX1_17.out)
  have HX2_18 := Aside0.mk (dblk D17 HX2_17.out)
  have HBW18 := Aside0.mk (HBW17.out.trans (D17.below.mono HBW17.out.size))
  have q8 := blk_cell HX1_18.out 8
  simp only [List.getElem?_toArray, List.getElem?_cons_zero, List.getElem?_cons_succ] at q8
  have r8 := blk_cell HX2_18.out 8
  simp only [List.getElem?_toArray, List.getElem?_cons_zero, List.getElem?_cons_succ] at r8
  refine call_block (ts := #[25, 25]) (n := 143) (d := 122) (j := 117) (p := 121) (p' := a.L 8 = b.L 8) (A1 := (.pointer (some ⟨g1, 8, none⟩))) (A2 := (.pointer (some ⟨g2, 8, none⟩))) (v1 := .slice A8 (a.L 8).length c8) (v2 := .slice B8 (b.L 8).length d8) Try.func31 rfl rfl (by omega) S17.size R17 S17.h2 S17.h3 (by omega) (by omega) ?_ ?_ ?_ ?_ ?_ ?_ ?_ ?_ ?_ ?_ ?_ ?_ ?_ (HC8.out _ HBW18.out) ?_ ?_
  · exact ⟨rfl, rfl, rfl⟩
  · exact ⟨rfl, rfl⟩
  · exact ⟨rfl, rfl⟩
  · exact ⟨rfl, rfl⟩
  · exact ⟨rfl, rfl⟩
  · exact ⟨rfl, rfl⟩
  · exact ⟨rfl, rfl⟩
  · rfl
  · (intro ρ h; go_simp; (try with_reducible rfl))
  · (intro ρ h; go_simp; (try with_reducible rfl))
  · (intro ρ h; go_simp; (try with_reducible rfl))
  · (intro ρ h; go_simp; (try with_reducible rfl))
  · rfl
  · (intro ρ e W hc; exact ⟨(by intro h h'; go_simp), (by intro h; (try simp only [Bool.not_true, Bool.not_false] at h); go_simp)⟩)
  intro a18 r18_ w18_ F18 R18 K18 D18
  have S18 := St.step S17 F18 (by omega)
  clear q8 r8
  have HX1_19 := Aside0.mk (dblk D18 HX1_18.out)
  have HX2_19 := Aside0.mk (dblk D18 HX2_18.out)
  have HBW19 := Aside0.mk (HBW18.out.trans (D18.below.mono HBW18.out.size))
  have q9 := blk_cell HX1_19.out 9
  simp only [List.getElem?_toArray, List.getElem?_cons_zero, List.getElem?_cons_succ] at q9
  have r9 := blk_cell HX2_19.out 9
  simp only [List.getElem?_toArray, List.getElem?_cons_zero, List.getElem?_cons_succ] at r9
  refine call_block (ts := #[26, 26]) (n := 143) (d := 129) (j := 124) (p := 128) (p' := a.L 9 = b.L 9) (A1 := (.pointer (some ⟨g1, 9, none⟩))) (A2 := (.pointer (some ⟨g2, 9, none⟩))) (v1 := .slice A9 (a.L 9).length c9) (v2 := .slice B9 (b.L 9).length d9) Try.func32 rfl rfl (by omega) S18.size R18 S18.h2 S18.h3 (by omega) (by omega) ?_ ?_ ?_ ?_ ?_ ?_ ?_ ?_ ?_ ?_ ?_ ?_ ?_ (HC9.out _ HBW19.out) ?_ ?_
  · exact ⟨rfl, rfl, rfl⟩
  · exact ⟨rfl, rfl⟩
  · exact ⟨rfl, rfl⟩
  · exact ⟨rfl, rfl⟩
  · exact ⟨rfl, rfl⟩
  · exact ⟨rfl, rfl⟩
  · exact ⟨rfl, rfl⟩
  · rfl
  · (intro ρ h; go_simp; (try with_reducible rfl))
  · (intro ρ h; go_simp; (try with_reducible rfl))
  · (intro ρ h; go_simp; (try with_reducible rfl))
  · (intro ρ h; go_simp; (try with_reducible rfl))
  · rfl
  · (intro ρ e W hc; exact ⟨(by intro h h'; go_simp), (by intro h; (try simp only [Bool.not_true, Bool.not_false] at h); go_simp)⟩)
  intro a19 r19_ w19_ F19 R19 K19 D19
  have S19 := St.step S18 F19 (by omega)
  clear q9 r9
  have HX1_20 := Aside0.mk (dblk D19 HX1_19.out)
  have HX2_20 := Aside0.mk (dblk D19 HX2_19.out)
  have HBW20 := Aside0.mk (HBW19.out.trans (D19.below.mono HBW19.out.size))
  have q10 := blk_cell HX1_20.out 10
  simp only [List.getElem?_toArray, List.getElem?_cons_zero, List.getElem?_cons_succ] at q10
  have r10 := blk_cell HX2_20.out 10
  simp only [List.getElem?_toArray, List.getElem?_cons_zero, List.getElem?_cons_succ] at r10
  refine call_block (ts := #[27, 27]) (n := 143) (d := 136) (j := 131) (p := 135) (p' := a.L 10 = b.L 10) (A1 := (.pointer (some ⟨g1, 10, none⟩))) (A2 := (.pointer (some ⟨g2, 10, none⟩))) (v1 := .slice A10 (a.L 10).length c10) (v2 := .slice B10 (b.L 10).length d10) Try.func33 rfl rfl (by omega) S19.size R19 S19.h2 S19.h3 (by omega) (by omega) ?_ ?_ ?_ ?_ ?_ ?_ ?_ ?_ ?_ ?_ ?_ ?_ ?_ (HC10.out _ HBW20.out) ?_ ?_
  · exact ⟨rfl, rfl, rfl⟩
  · exact ⟨rfl, rfl⟩
  · exact ⟨rfl, rfl⟩
  · exact ⟨rfl, rfl⟩
  · exact ⟨rfl, rfl⟩
  · exact ⟨rfl, rfl⟩
  · exact ⟨rfl, rfl⟩
  · rfl
  · (intro ρ h; go_simp; (try with_reducible rfl))
  · (intro ρ h; go_simp; (try with_reducible rfl))
  · (intro ρ h; go_simp; (try with_reducible rfl))
  · (intro ρ h; go_simp; (try with_reducible rfl))
  · rfl
  · (intro ρ e W hc; exact ⟨(by intro h h'; go_simp), (by intro h; (try simp only [Bool.not_true, Bool.not_false] at h); go_simp)⟩)
  intro a20 r20_ w20_ F20 R20 K20 D20
  have S20 := St.step S19 F20 (by omega)
  clear q10 r10
  have HBF := HBW20.out.trans (D20.below.mono HBW20.out.size)
  refine step_val rfl (v := .bool r20_) (w1 := w20_) (run_assign rfl R20.eval) ?_
  have HP4 : Has (a20.put (some 4) (.bool r20_)) 4 (.bool r20_) := Has.same (by rw [S20.size]; omega)
  have HD4 : (a20.put (some 4) (.bool r20_)).defers = [] := (defers_put _ _ _).trans S20.defers
  generalize a20.put (some 4) (.bool r20_) = a' at *
  go_wp2
  refine bodyPost_ret (v := .bool r20_) (results_one rfl HP4) HD4 ?_
  refine ⟨r20_, rfl, ?_, HBF⟩
  rw [HEQ.out, K20, K19, K18, K17, K16, K15, K14, K13, K12, K11, K10, K9, K8, K7, K6, K5, K4, K3, K2]
  simp only [and_assoc]
end Go.Proofs.Ytcbehfbfaonanaa.Wr
end


section
-- Laid by a program of this session over the translation of this seat; Lean checks it.
namespace Go.Proofs.Ytcbehfbfaonanaa.PFr
open Go.RowKit Go.Proofs.YtcbehfbfaonanaaW.PrintWords Go.Proofs.YtcbehfbfaonanaaW.PrintLast Go.Proofs.YtcbehfbfaonanaaW.PrintMore
attribute [local go_sem] max2_int min2_int max_two min_two max_three min_three max_four min_four   -- for this text's walks alone
set_option linter.unusedVariables false
set_option linter.unusedSimpArgs false



def errW : Option Int → Value
  | none => .nilIface
  | some c => .iface 0 (.int .i64 c)
theorem errW_none : errW none = .nilIface := rfl
theorem errW_some (c : Int) : errW (some c) = .iface 0 (.int .i64 c) := rfl

theorem info5 : (Try.prog.info? 5).map (fun i => (i.zero, i.size, i.bytes)) = some (some (.int .u8 0), 1, 1) := by kernel_rfl
structure S24 where
  f0 : Int
  f1 : Int
def z24 : S24 := ⟨(0 : Int), (0 : Int)⟩
def k24 : Kd S24 := Kd.iso (Kd.pair (Kd.int .i64) (Kd.int .i64)) (fun x : S24 => (x.f0, x.f1))
def rd_L10 (xs : List (List Int)) (i : Int) : (List Int) := xs.getD i.toNat ([] : List Int)
theorem at_L10 {w : World} {A : Option Addr} {n : Nat} {xs : List (List Int)} (h : Kd.C (Kd.slice 5 (Kd.int .u8)) w A n xs) (i : Int) (h0 : 0 ≤ i) (h1 : i < n) : ∃ ad A0 c0, A = some ad ∧ w.cell? (ad.add i.toNat) = some (.slice A0 (rd_L10 xs i).length c0) ∧ (rd_L10 xs i).length ≤ c0 ∧ (Kd.int .u8).C w A0 (rd_L10 xs i).length (rd_L10 xs i) := by
  obtain ⟨ad, c, e, _, hK, hc0⟩ := Kd.C_get h ([] : List Int) i h0 h1
  have hc : ∀ j u, c[j]? = some u → w.cell? (ad.add (i.toNat * 1 + j)) = some u := hc0
  obtain ⟨A0, c0, rfl, l0, g0⟩ := hK
  exact ⟨ad, A0, c0, e, by have hq := hc 0 _ rfl; rwa [Nat.mul_one, Nat.add_zero] at hq, l0, g0⟩

/-! #### struct type 98 -/
end Go.Proofs.Ytcbehfbfaonanaa.PFr
end
