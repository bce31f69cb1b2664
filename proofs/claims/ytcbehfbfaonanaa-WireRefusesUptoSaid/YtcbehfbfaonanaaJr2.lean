/- Part 3 of the texts that walk the program and tell its laws, joined in the order of their building. No conditions. -/
import Derived.Test.YtcbehfbfaonanaaJr1
import Derived.Deep.RegionHeld3
import Derived.Deep.WholeRow
import Derived.Test.YtcbehfbfaonanaaJr0
import Derived.Laws.StructEq
import Derived.Deep.LoopGhost
import Derived.Deep.QuietTactic
import Derived.BigQuiet
import Derived.Test.YtcbehfbfaonanaaProg
import Derived.Below
import Derived.Deep.Draws
import Derived.Deep.AppendLies
import Derived.Maps.AppendAt
import Derived.OwnWalk
import Derived.Laws.BytesArg
import Derived.Laws.MakeOwn
import Derived.Laws.OwnMore
import Derived.Deep.OwnRows
import Derived.Tactics
import Derived.Lib.ConvBytes
import Derived.Laws.Slices
import Derived.WalkKit
import Derived.KernelRfl
import Derived.RowKit3
import Derived.WideLaws
import Derived.Deep.DeepCutAuto
import Derived.Deep.CutBlock
import Derived.Laws.Rows
import Derived.Lib.AppendStr
import Derived.ArgAppend
import Derived.Laws.IdiomCopy
import Derived.OrdersHeld
import Derived.Laws.BitsLemmas
import Derived.RowKit
import Derived.Lib.SlBytesConst
/- read: where its walk stands. -/
section
namespace Go.Proofs.Ytcbehfbfaonanaa.Wr
open Go.RowKit Go.Proofs.YtcbehfbfaonanaaW.PrintWords Go.Proofs.YtcbehfbfaonanaaW.PrintLast Go.Proofs.YtcbehfbfaonanaaW.PrintMore Go.Proofs.Ytcbehfbfaonanaa.Pk
set_option linter.unusedVariables false
set_option linter.unusedSimpArgs false

def zeroM : M := ⟨zeroC, fun _ => []⟩
/-! What it reads does not hang on where it lies. -/
section
variable (g r q g' r' q' : Nat)
theorem iRow_g : ∀ (fs : List Fld) (vs : List Value) (s : ISt), ((iForm g r q).row s fs vs : ISt × List Value) = (iForm g' r' q').row s fs vs
  | [], vs, s => by cases vs <;> rfl
  | f :: fs, [], s => rfl
  | f :: fs, v :: vs, s => congrArg (fun p : ISt × List Value => (p.1, ((iForm g r q).fld s f v).2 :: p.2)) (iRow_g fs vs ((iForm g r q).fld s f v).1)
theorem iRows_g (fs : List Fld) : ∀ (rs : List (List Value)) (s : ISt), ((iForm g r q).rows fs s rs : ISt × List (List Value)) = (iForm g' r' q').rows fs s rs
  | [], s => rfl
  | x :: rs, s => by
    have e1 := iRow_g g r q g' r' q' fs x s
    have e2 := iRows_g fs rs ((iForm g r q).row s fs x).1
    show ((((iForm g r q).rows fs ((iForm g r q).row s fs x).1 rs).1, ((iForm g r q).row s fs x).2 :: ((iForm g r q).rows fs ((iForm g r q).row s fs x).1 rs).2) : ISt × List (List Value)) = (((iForm g' r' q').rows fs ((iForm g' r' q').row s fs x).1 rs).1, ((iForm g' r' q').row s fs x).2 :: ((iForm g' r' q').rows fs ((iForm g' r' q').row s fs x).1 rs).2)
    have e3 := congrArg Prod.fst e2
    have e4 := congrArg Prod.snd e2
    have e5 := congrArg Prod.fst e1
    have e6 := congrArg Prod.snd e1
    refine Prod.ext ?_ ?_
    · exact e3.trans (congrArg (fun s' : ISt => (((iForm g' r' q').rows fs s' rs).1 : ISt)) e5)
    · have e7 := e4.trans (congrArg (fun s' : ISt => ((iForm g' r' q').rows fs s' rs).2) e5)
      exact (congrArg (fun a => ((iForm g r q).row s fs x).2 :: a) e7).trans (congrArg (fun a => a :: ((iForm g' r' q').rows fs ((iForm g' r' q').row s fs x).1 rs).2) e6)
theorem iList_g (fs : List Fld) (s : ISt) (most : Nat) (rows : List (List Value)) : ((iForm g r q).list fs s most rows : ISt × List (List Value)) = (iForm g' r' q').list fs s most rows := by
  have e := iRows_g g r q g' r' q' fs (((iForm g r q).listR fs s most rows).take ((iForm g r q).listM s most rows.length)) ((iForm g r q).count s rows.length most).1
  have e1 := congrArg Prod.fst e
  have e2 := congrArg (fun a => a ++ ((iForm g r q).listR fs s most rows).drop ((iForm g r q).listM s most rows.length)) (congrArg Prod.snd e)
  exact Prod.ext e1 e2
theorem iRowM_g (s : ISt) (m : M) (i : Nat) (fs : List Fld) : ((iForm g r q).rowM s m i fs : ISt × M) = (iForm g' r' q').rowM s m i fs :=
  congrArg (fun p : ISt × List Value => ((p.1, { m with c := putAt m.c i p.2 }) : ISt × M)) (iRow_g g r q g' r' q' fs (valsAt m.c i fs.length) s)
theorem iStep_g (s : ISt) (m : M) (t : Step) : ((iForm g r q).step s m t : ISt × M) = (iForm g' r' q').step s m t := by
  cases t with
  | row i fs => exact iRowM_g g r q g' r' q' s m i fs
  | most => exact iRowM_g g r q g' r' q' s m 7 _
  | lst j fs n => exact congrArg (fun p : ISt × List (List Value) => ((p.1, { m with L := upL m.L j p.2 }) : ISt × M)) (iList_g g r q g' r' q' fs s n (m.L j))
theorem iRun_g : ∀ (ts : List Step) (s : ISt) (m : M), ((iForm g r q).run s m ts : ISt × M) = (iForm g' r' q').run s m ts
  | [], s, m => rfl
  | t :: ts, s, m => by
    have e := iStep_g g r q g' r' q' s m t
    show ((iForm g r q).run ((iForm g r q).step s m t).1 ((iForm g r q).step s m t).2 ts : ISt × M) = (iForm g' r' q').run ((iForm g' r' q').step s m t).1 ((iForm g' r' q').step s m t).2 ts
    exact (iRun_g ts _ _).trans (congrArg (fun p : ISt × M => ((iForm g' r' q').run p.1 p.2 ts : ISt × M)) e)
theorem iAll_g (s : ISt) (m : M) : ((iForm g r q).all s m : ISt × M) = (iForm g' r' q').all s m := by
  have e := iRowM_g g r q g' r' q' s m 0 [.num 1 10]
  show ((iForm g r q).run ((iForm g r q).rowM s m 0 [.num 1 10]).1 ((iForm g r q).rowM s m 0 [.num 1 10]).2 (script (kindM ((iForm g r q).rowM s m 0 [.num 1 10]).2)) : ISt × M) = _
  exact (iRun_g g r q g' r' q' _ _ _).trans (congrArg (fun p : ISt × M => ((iForm g' r' q').run p.1 p.2 (script (kindM p.2)) : ISt × M)) e)
end
/-- What bytes say. -/
def rdR (xs : List Int) : ISt × M := (iForm 0 0 0).all (xs, false, false) zeroM
def rdM (xs : List Int) : M := (rdR xs).2
def rdOk (xs : List Int) : Bool := (rend (rdR xs).1.1 (rdR xs).1.2.1 == 0) && !(rdR xs).1.2.2
theorem msgC_eq {cs : Array Value} {c sv : Nat → Value} (hs : cs.size = 26) (h1 : ∀ i, scalar i = true → cs[i]? = some (c i)) (h2 : ∀ j fs, (j, fs) ∈ lists → cs[j]? = some (sv j)) : cs = msgC c sv := by
  apply Array.ext_getElem?
  intro i
  rcases Nat.lt_or_ge i 26 with hi | hi
  · cases h : scalar i with
    | true => rw [h1 i h, msgC_scalar c sv i h]
    | false =>
      have : ∃ fs, (i, fs) ∈ lists := by
        unfold scalar at h
        rw [decide_eq_true hi] at h
        have : i = 3 ∨ i = 8 ∨ i = 9 ∨ i = 10 := by
          simp only [Bool.true_and, Bool.not_eq_false', Bool.or_eq_true, beq_iff_eq] at h
          omega
        rcases this with rfl | rfl | rfl | rfl
        · exact ⟨entryF, by simp [lists]⟩
        · exact ⟨pairF, by simp [lists]⟩
        · exact ⟨seenF, by simp [lists]⟩
        · exact ⟨epochF, by simp [lists]⟩
      obtain ⟨fs, hj⟩ := this
      rw [h2 i fs hj, msgC_list c sv hj]
  · rw [Array.getElem?_eq_none (by omega), Array.getElem?_eq_none (by rw [msgC_size]; omega)]
/-- A message is read of v, its lists in memory from B on. -/
def IsMsg (B : Nat) (m : M) (w : World) (v : Value) : Prop := ∃ sv, MsgRd w v m sv ∧ ∀ j fs, (j, fs) ∈ lists → ∀ k, arr (sv j) = some k → m.L j ≠ [] → B ≤ k
def IsRd (xs : List Int) (w : World) (e : Ending) (w' : World) : Prop :=
  Below w.heap.size w w' ∧ ∃ v ok, e = .returned (.tuple #[v, .bool ok]) ∧ ok = rdOk xs ∧ IsMsg w.heap.size (rdM xs) w' v
theorem zero_typed : Typed zeroM := fun i hi => by
  show (kindOf i).fits (zeroC i)
  unfold zeroC
  cases kindOf i <;> exact ⟨_, rfl⟩
theorem zero_lite (N : Nat) : LiteM N zeroM := ⟨fun i x hx => by
  have hx' : zeroC i = .string x := hx
  unfold zeroC at hx'
  cases h : kindOf i <;> rw [h] at hx' <;> simp at hx'
  subst hx'
  exact Nat.zero_le _, fun j r hr => nomatch hr⟩
theorem zero_fit : Fit zeroM := fun _ _ _ r hr => nomatch hr
theorem zero_wide : Wide zeroM := fun _ r hr => nomatch hr
theorem rd_room (g r q : Nat) {xs : List Int} (hn : xs.length ≤ 9000000000) : (iForm g r q).room (xs, false, false) + (iForm g r q).allCost (xs, false, false) zeroM ≤ cap := by
  have h := allCost_le (iTame g r q 9000000000) (s := (xs, false, false)) hn (zero_lite _) zero_wide
  have e : (iForm g r q).room (xs, false, false) = 0 := rfl
  rw [e]
  unfold most1 at h
  unfold cap
  omega
/-- Where read's walk stands. -/
def RdWalk (gi gr q gm : Nat) (w5 : World) (xs : List Int) (C : Nat) (n : Int) (ts : List Step) (w : World) : Prop :=
  (iForm gi gr q).room (xs, false, false) + C ≤ cap ∧ Stand (iForm gi gr q) (xs, false, false) w5 gm (fun _ => False) (.int .i64 n) C (rdR xs).1 (rdR xs).2 ts w
theorem rd_kind {gi gr q gm : Nat} {w5 : World} {xs : List Int} (hI : IInv gi gr q (xs, false, false) w5) (hno : ¬ IOwn gi gr q w5.heap gm) (hb : w5.heap[gm]? = some (.cells (msgC zeroC nils) 35 (0, 0))) (hn : xs.length ≤ 9000000000) :
    ∃ n C, Calls Try.prog 59 #[.pointer (some ⟨gi, 0, none⟩), .pointer (some ⟨gm, 0, none⟩), .int .i64 1, .int .i64 10] w5 (fun e w => e = .returned (.tuple #[]) ∧ RdWalk gi gr q gm w5 xs C n (script n) w) := by
  have hr := rd_room gi gr q hn
  have hM : MAt (iForm gi gr q) (xs, false, false) w5 gm (fun _ => False) (xs, false, false) 0 zeroM w5 := MAt.made (sv := nils) hI hno hb zero_typed zero_fit (fun _ => Nat.zero_le _)
    (fun j fs hj => ⟨none, 0, rfl, fun h => absurd rfl h, fun _ => rfl⟩) (fun j fs hj k hk h0 => absurd rfl h0) (fun j fs j' fs' hj hj' hne k hk h0 => absurd rfl h0)
  have hC := kind_c (iGood gi gr q) hM hr
  have e := iAll_g gi gr q 0 0 0 (xs, false, false) zeroM
  refine ⟨kindM ((iForm gi gr q).rowM (xs, false, false) zeroM 0 [.num 1 10]).2, (iForm gi gr q).allCost (xs, false, false) zeroM, hC.mono fun e' w H => ⟨H.1, hr, ?_⟩⟩
  have H2 := H.2
  rw [show ((iForm gi gr q).all (xs, false, false) zeroM) = rdR xs from e] at H2
  exact H2
theorem rd_head {gi gr q gm : Nat} {w5 w : World} {xs : List Int} {C : Nat} {n : Int} (h : RdWalk gi gr q gm w5 xs C n (script n) w) :
    Calls Try.prog 40 #[.iface 106 (.pointer (some ⟨gi, 0, none⟩)), .pointer (some ⟨gm, 0, none⟩)] w (fun e w => e = .returned (.tuple #[]) ∧ RdWalk gi gr q gm w5 xs C n (fieldsS n ++ []) w) :=
  (Stand.whole' (head_c n) h.2 (iGood gi gr q) h.1 rfl (head_pos n)).mono fun e w H => ⟨H.1, h.1, H.2⟩
theorem rd_fields {gi gr q gm : Nat} {w5 w : World} {xs : List Int} {C : Nat} {n : Int} (h : RdWalk gi gr q gm w5 xs C n (fieldsS n ++ []) w) :
    Calls Try.prog 41 #[.iface 106 (.pointer (some ⟨gi, 0, none⟩)), .pointer (some ⟨gm, 0, none⟩)] w (fun e w => e = .returned (.tuple #[]) ∧ RdWalk gi gr q gm w5 xs C n [] w) :=
  (Stand.whole' (fields_c n) h.2 (iGood gi gr q) h.1 rfl (fields_pos n)).mono fun e w H => ⟨H.1, h.1, H.2⟩
/-- The end of read's walk. -/
theorem rd_end {gi gr q gm : Nat} {w5 w : World} {xs : List Int} {C : Nat} {n : Int} (h : RdWalk gi gr q gm w5 xs C n [] w) :
    Only (fun k => k = gi ∨ k = gr ∨ k = q ∨ k = gm) w5 w ∧ IInv gi gr q (rdR xs).1 w ∧ ∃ sv, w.heap[gm]? = some (.cells (msgC (rdM xs).c sv) 35 (0, 0)) ∧ MsgRd w (.agg (msgC (rdM xs).c sv)) (rdM xs) sv ∧
      ∀ j fs, (j, fs) ∈ lists → ∀ k, arr (sv j) = some k → (rdM xs).L j ≠ [] → w5.heap.size ≤ k ∧ k < w.heap.size := by
  have h' := h.2.done.2
  obtain ⟨cs, h1, h2, h3, h4⟩ := h'.blk
  have key : ∀ j, ∃ v, ∀ fs, (j, fs) ∈ lists → cs[j]? = some v := fun j => by
    by_cases hj : ∃ fs, (j, fs) ∈ lists
    · obtain ⟨fs, hj⟩ := hj
      obtain ⟨_, v, hv, _⟩ := h4 j fs hj
      exact ⟨v, fun _ _ => hv⟩
    · exact ⟨undef, fun fs hj' => absurd ⟨fs, hj'⟩ hj⟩
  obtain ⟨sv, hsv⟩ := Classical.axiomOfChoice key
  have e : cs = msgC (rdM xs).c sv := msgC_eq h1 h3 (fun j fs hj => hsv j fs hj)
  subst e
  have hl : ∀ j fs, (j, fs) ∈ lists → ((∀ r, r ∈ (rdM xs).L j → fits fs r) ∧ ListAt w (sv j) fs.length ((rdM xs).L j)) ∧ ∀ k, arr (sv j) = some k → (rdM xs).L j ≠ [] → w5.heap.size ≤ k := fun j fs hj => by
    obtain ⟨hf, v, hv, hA, hk⟩ := h4 j fs hj
    rw [hsv j fs hj] at hv
    injection hv with hv
    subst hv
    refine ⟨⟨hf.1, hA⟩, fun k hk' h0 => ?_⟩
    rcases (hk k hk' h0).2.2.1 with h | h
    · exact h.elim
    · exact h
  refine ⟨h'.only.mono (fun k _ hk => ?_), h'.inv, sv, h2, ⟨rfl, h'.typed, fun j fs hj => (hl j fs hj).1.1, fun j fs hj => (hl j fs hj).1.2.rd⟩, fun j fs hj k hk h0 => ⟨(hl j fs hj).2 k hk h0, (hl j fs hj).1.2.lt hk h0⟩⟩
  rcases hk with (h | h | h) | h | h
  · exact .inl h
  · exact .inr (.inl h)
  · exact .inr (.inr (.inl h))
  · exact .inr (.inr (.inr h))
  · exact h.elim
end Go.Proofs.Ytcbehfbfaonanaa.Wr
end

/- read: the message of some bytes. -/
section
namespace Go.Proofs.Ytcbehfbfaonanaa.Wr
open Go.RowKit Go.Proofs.YtcbehfbfaonanaaW.PrintWords Go.Proofs.YtcbehfbfaonanaaW.PrintLast Go.Proofs.YtcbehfbfaonanaaW.PrintMore Go.Proofs.Ytcbehfbfaonanaa.Pk
set_option linter.unusedVariables false
set_option linter.unusedSimpArgs false

section
variable {P : Program} {o : Oper} {a : Act} {Q : Exit → Act → World → Prop} {K : Act → World → Prop} {W : World}
theorem run_load_row {T : TypeId} {x : Operand} (ho : o.op = .load T x) {g : Nat} (hx : a.eval x = .pointer (some ⟨g, 0, none⟩)) {cells : Array Value} {T' : TypeId} (hb : W.heap[g]? = some (.cells cells T' (0, 0)))
    {d : TypeDesc} (hu : P.underlying T = some d) (hd : d.isRow = true) (hi : (P.info? T).map (·.size) = some cells.size) : (execOp a.eval o).run P W = .ok (.value (.agg cells)) W := by
  have h := run_loadVar_mid (P := P) W g 0 T cells.toList d (fun j v hj => by rw [Nat.zero_add]; exact (blk_cell hb j).trans (by simpa using hj)) hu hd (by simpa using hi)
  unfold execOp
  simp only [ho, hx, Instr.loadAt, Instr.sureAddr, Sem.run_bind, Sem.run_pure, Result.andThen_ok, h]
theorem wp_store_row (T : TypeId) (x y : Operand) (ho : o.op = .store T x y) (g : Nat) (hx : a.eval x = .pointer (some ⟨g, 0, none⟩)) (cells cs : Array Value) (hy : a.eval y = .agg cells) (T' : TypeId) (hb : W.heap[g]? = some (.cells cs T' (0, 0)))
    (hs : cells.size = cs.size) (hi : (P.info? T).map (·.size) = some cells.size) (h1 : OneAll cells)
    (h : ∀ w1, w1.heap[g]? = some (.cells cells T' (0, 0)) → Only (· = g) W w1 → K (a.put o.dst undef) w1) : Oper.wp P o a W K Q := by
  refine wp_store_mid T x y ho g 0 cells hx hy (fun j hj => ?_) hi (by unfold OneAll at h1; rw [← Array.all_toList]; exact h1) (h _ ?_ ?_)
  · rw [Nat.zero_add]
    refine ⟨?_, blk_frozen hb j⟩
    rw [blk_cell hb j, Array.getElem?_eq_getElem (by omega)]
    rfl
  · have := blk_setCells cells.toList 0 W cs hb
    rw [overL_all (by simpa using hs)] at this
    simpa using this
  · exact only_setCells g cells.toList 0 W
end
theorem MsgRd.one {w : World} {v : Value} {m : M} {sv : Nat → Value} (h : MsgRd w v m sv) : OneAll (msgC m.c sv) := by
  unfold OneAll
  rw [List.all_eq_true]
  intro u hu
  obtain ⟨i, hi⟩ := List.mem_iff_getElem?.1 hu
  have hi' : (msgC m.c sv)[i]? = some u := by simpa using hi
  have hlt : i < 26 := by have := (Array.getElem?_eq_some_iff.1 hi').1; rwa [msgC_size] at this
  cases hsc : scalar i with
  | true =>
    rw [msgC_scalar _ _ i hsc] at hi'
    injection hi' with hi'
    subst hi'
    have := h.typed i hsc
    cases hk : kindOf i <;> rw [hk] at this <;> obtain ⟨x, hx⟩ := this <;> rw [hx] <;> rfl
  | false =>
    have : i = 3 ∨ i = 8 ∨ i = 9 ∨ i = 10 := by
      unfold scalar at hsc
      rw [decide_eq_true hlt] at hsc
      simp only [Bool.true_and, Bool.not_eq_false', Bool.or_eq_true, beq_iff_eq] at hsc
      omega
    have key : ∀ j fs, (j, fs) ∈ lists → (sv j).oneCell' = true := fun j fs hj => by
      obtain ⟨a, c, e, _⟩ := h.rd j fs hj
      rw [e]; rfl
    rcases this with rfl | rfl | rfl | rfl
    · rw [msgC_list m.c sv (fs := entryF) (by simp [lists])] at hi'; injection hi' with hi'; subst hi'; exact key 3 entryF (by simp [lists])
    · rw [msgC_list m.c sv (fs := pairF) (by simp [lists])] at hi'; injection hi' with hi'; subst hi'; exact key 8 pairF (by simp [lists])
    · rw [msgC_list m.c sv (fs := seenF) (by simp [lists])] at hi'; injection hi' with hi'; subst hi'; exact key 9 seenF (by simp [lists])
    · rw [msgC_list m.c sv (fs := epochF) (by simp [lists])] at hi'; injection hi' with hi'; subst hi'; exact key 10 epochF (by simp [lists])

theorem ListRd.only {S : Nat → Prop} {w w' : World} {sv : Value} {st : Nat} {rows : List (List Value)} (h : ListRd w sv st rows) (hO : Only S w w') (hs : ∀ k, arr sv = some k → rows ≠ [] → ¬ S k) : ListRd w' sv st rows := by
  obtain ⟨a, c, rfl, h0, h3⟩ := h
  refine ⟨a, c, rfl, h0, fun h' => ?_⟩
  obtain ⟨ad, rfl, h4⟩ := h3 h'
  refine ⟨ad, rfl, fun k r hr j v hv => hO.cell (h4 k r hr j v hv) ?_⟩
  have e : (ad.add (k * st + j)).block = ad.block := by unfold Addr.add; split <;> rfl
  rw [e]
  exact hs ad.block rfl h'
theorem MsgRd.only {S : Nat → Prop} {w w' : World} {v : Value} {m : M} {sv : Nat → Value} (h : MsgRd w v m sv) (hO : Only S w w') (hs : ∀ j fs, (j, fs) ∈ lists → ∀ k, arr (sv j) = some k → m.L j ≠ [] → ¬ S k) : MsgRd w' v m sv :=
  ⟨h.eq, h.typed, h.fit, fun j fs hj => (h.rd j fs hj).only hO (hs j fs hj)⟩
structure RdOrd (w w5 : World) (g2 gr q gi gm : Nat) (xs : List Int) : Prop where
  inv : IInv gi gr q (xs, false, false) w5
  no : ¬ IOwn gi gr q w5.heap gm
  res : w5.heap[g2]? = some (.cells (msgC zeroC nils) 35 (0, 0))
  bel : Below w.heap.size w w5
  o1 : g2 = w.heap.size
  o2 : g2 < gr
  o3 : g2 < q
  o4 : gr < gi
  o5 : q < gi
  o6 : gi < gm
  o7 : gm < w5.heap.size
theorem rd_start {w w2 w3 w4 w5 : World} {g2 gr q gi gm : Nat} {xs : List Int} {T : TypeId} {zs : Array Value}
    (b2 : Below w.heap.size w w2) (x2 : w2.heap[g2]? = some (.cells (msgC zeroC nils) 35 (0, 0))) (e2 : g2 = w.heap.size)
    (rd : RdAt w3 gr q xs false) (n1 : w2.heap.size ≤ gr) (n2 : w2.heap.size ≤ q) (b3 : Below w2.heap.size w2 w3)
    (b4 : Below w3.heap.size w3 w4) (x4 : w4.heap[gi]? = some (.cells #[.pointer (some ⟨gr, 0, none⟩), .bool false] 110 (0, 0))) (e4 : gi = w3.heap.size)
    (b5 : Below w4.heap.size w4 w5) (x5 : w5.heap[gm]? = some (.cells zs T (0, 0))) (e5 : gm = w4.heap.size) (hx : ∀ x ∈ xs, IsB x) : RdOrd w w5 g2 gr q gi gm xs := by
  have l2 := blk_lt x2
  have l4 := blk_lt x4
  have l5 := blk_lt x5
  have rd' := rd
  obtain ⟨off, c, hb, _, _, hne, hq, _⟩ := rd'
  have lr := blk_lt hb
  have s2 := b2.size
  have s3 := b3.size
  have s4 := b4.size
  have s5 := b5.size
  have m5 : ∀ k, k < w3.heap.size → w5.heap[k]? = w3.heap[k]? := fun k hk => (b5.block k (by omega)).trans (b4.block k hk)
  refine ⟨⟨(b5.block gi (by omega)).trans x4, rd.move (fun k hk => m5 k (by rcases hk with rfl | rfl <;> assumption)), hx, by omega, by omega⟩, ?_, (m5 g2 (by omega)).trans ((b3.block g2 l2).trans x2), b2.trans ((b3.mono s2).trans ((b4.mono (by omega)).trans (b5.mono (by omega)))), e2, by omega, by omega, by omega, by omega, by omega, by omega⟩
  rintro (h | h | h) <;> omega
theorem RdOrd.fin {w w5 w12 : World} {g2 gr q gi gm : Nat} {xs : List Int} (h : RdOrd w w5 g2 gr q gi gm xs) (hO : Only (fun k => k = gi ∨ k = gr ∨ k = q ∨ k = gm) w5 w12) :
    w12.heap[g2]? = some (.cells (msgC zeroC nils) 35 (0, 0)) ∧ Below w.heap.size w w12 := by
  have := h.o1; have := h.o2; have := h.o3; have := h.o4; have := h.o5; have := h.o6; have := h.o7
  refine ⟨hO.blk h.res (by rintro (h | h | h | h) <;> omega), below_only h.bel hO h.bel.size ?_⟩
  rintro k (hk | hk | hk | hk) <;> omega

set_option maxRecDepth 100000 in
set_option maxHeartbeats 4000000 in
theorem read_m (A : Option Addr) (n c : Nat) (xs : List Int) (w : World) (hr : ReadsInt w .u8 A n xs) (hn : n ≤ 9000000000) (hx : ∀ x ∈ xs, IsB x) :
    Calls Try.prog 25 #[.slice A n c] w (IsRd xs w) := by
  have HL := Aside0.mk (show xs.length ≤ 9000000000 by have := hr.1; omega)
  have HX := Aside0.mk hx
  have HRd := Aside0.mk (fun (W : World) (hB : Below w.heap.size w W) => read_c A n c xs W (hr.below hB) (by omega))
  clear hr hx
  go_enter Try.func25, Try.ntmps25
  go_wp2_with (first | ((with_reducible refine gate_dst (N := 2) rfl ?_); refine alloc_row rfl 35 rfl _ (zero_msg _) ?_; intro g2 w2 hg hbox hb; have HB2 := Aside0.mk hb; have HX2 := Aside0.mk hbox; have HG2 := Aside0.mk hg; have HC := Aside0.mk (HRd.out w2 hb); clear hb hg hbox) | (go_at_call 58; (with_reducible refine HC.out.mono ?_); rintro e w3 ⟨gr, q, rfl, hRd, h1, h2, h3, hB3⟩; have HRD := Aside0.mk hRd; have HN1 := Aside0.mk h1; have HN2 := Aside0.mk h2; have HB3 := Aside0.mk hB3; clear hRd h1 h2 h3 hB3) | ((with_reducible refine gate_dst (N := 9) rfl ?_); refine box_row rfl 110 (.tmp 8) rfl #[.pointer (some ⟨gr, 0, none⟩), .bool false] rfl ?_; intro gi w4 hg hbox hb; have HB4 := Aside0.mk hb; have HX4 := Aside0.mk hbox; have HG4 := Aside0.mk hg; clear hb hg hbox) | ((with_reducible refine gate_dst (N := 5) rfl ?_); refine alloc_row rfl 35 rfl _ (zero_msg _) ?_; intro gm w5 hg hbox hb; have HS := Aside0.mk (rd_start HB2.out HX2.out HG2.out HRD.out HN1.out HN2.out HB3.out HB4.out HX4.out HG4.out hb hbox hg HX.out); have HK := Aside0.mk (rd_kind HS.out.inv HS.out.no hbox HL.out); clear hb hg hbox; obtain ⟨kn, C, hC1⟩ := HK.out; have C1 := Aside0.mk hC1; clear hC1 HK) | (go_at_call 59; (with_reducible refine C1.out.mono ?_); rintro e w10 ⟨rfl, H⟩; have C2 := Aside0.mk (rd_head H); clear H) | (go_at_call 40; (with_reducible refine C2.out.mono ?_); rintro e w11 ⟨rfl, H⟩; have C3 := Aside0.mk (rd_fields H); clear H) | (go_at_call 41; (with_reducible refine C3.out.mono ?_); rintro e w12 ⟨rfl, H⟩; have S3 := Aside0.mk (rd_end H); clear H) | fail)
  obtain ⟨hO12, hI12, sv, hX12, hM12, hF12⟩ := S3.out
  obtain ⟨hXR, hB12⟩ := HS.out.fin hO12
  obtain ⟨o, ho⟩ : ∃ o, (rdR xs).1.2.2 = o := ⟨_, rfl⟩
  have HX12 := Aside0.mk hX12
  have HI0 := Aside0.mk (show w12.cell? ⟨gi, 0, none⟩ = some (.pointer (some ⟨gr, 0, none⟩)) from (blk_cell hI12.blk 0).trans rfl)
  have HI1 := Aside0.mk (show w12.cell? ⟨gi, 1, none⟩ = some (.bool o) from ((blk_cell hI12.blk 1).trans (by rw [← ho]; rfl)))
  obtain ⟨en, he⟩ : ∃ en, rend (rdR xs).1.1 (rdR xs).1.2.1 = en := ⟨_, rfl⟩
  have hen : en = 0 ∨ en = 2 := by rw [← he]; unfold rend; split <;> simp
  have hCE := rEnd_c gr q (rdR xs).1.1 (rdR xs).1.2.1 w12.drew hI12.rd
  rw [he] at hCE
  have CE := Aside0.mk hCE
  have HOKE := Aside0.mk (show rdOk xs = ((en == 0) && !o) from by unfold rdOk; rw [he, ho])
  have HXR := Aside0.mk (show w12.drew.heap[g2]? = _ from hXR)
  have HNE := Aside0.mk (show gm ≠ g2 ∧ gi ≠ g2 from by have := HS.out.o1; have := HS.out.o2; have := HS.out.o4; have := HS.out.o6; omega)
  have HOA := Aside0.mk hM12.one
  have HFIN := Aside0.mk (fun (w13 : World) (hO : Only (· = g2) w12.drew w13) => And.intro (below_only hB12 (show Only (· = g2) w12 w13 from ⟨hO.os, hO.tape, hO.output, hO.size, hO.block⟩) hB12.size (fun k hk => by have := HS.out.o1; have hk' : k = g2 := hk; omega)) (hM12.only (show Only (· = g2) w12 w13 from ⟨hO.os, hO.tape, hO.output, hO.size, hO.block⟩) (fun j fs hj k hk h0 e => by have := (hF12 j fs hj k hk h0).1; have := HS.out.o1; have := HS.out.o2; have := HS.out.o4; have := HS.out.o6; have := HS.out.o7; have e' : k = g2 := e; omega)))
  have HFR := Aside0.mk (fun j fs hj k hk h0 => Nat.le_trans HS.out.bel.size (hF12 j fs hj k hk h0).1)
  clear hO12 hI12 hX12 hM12 hF12 hXR hB12 ho he hCE S3 HS HL HX HRd HC HRD HN1 HN2 HB2 HB3 HB4 HX2 HX4 HG2 HG4 C1 C2 C3
  rcases hen with rfl | rfl
  · refine wp_region_held_drew (S := (fun W => W.heap[gm]? = some (.cells (msgC (rdM xs).c sv) 35 (0, 0)) ∧ W.cell? ⟨gi, 0, none⟩ = some (.pointer (some ⟨gr, 0, none⟩)) ∧ W.cell? ⟨gi, 1, none⟩ = some (.bool o))) (by kernel_rfl) ⟨HX12.out, HI0.out, HI1.out⟩ (fun hHeld => ?_)
    refine wpAnyH_take (i := 0) (oi := { dst := some 19, op := Go.Op.load 35 (Go.Operand.tmp 5), type := 35, pos := "wire.go:226", after := #[], guard := none }) (v := .agg (msgC (rdM xs).c sv)) rfl (by kernel_rfl) (by kernel_rfl) (by kernel_rfl) (fun _ _ _ h => h) ?_ (by assumption) ?_
    · refine Or.inl ⟨by rfl, fun W hSW => ?_⟩
      exact run_load_row rfl rfl hSW.1 Try.underlying35 rfl info_msg
    try simp only [Act.put, List.setIfInBounds_toArray, List.set_cons_zero, List.set_cons_succ]
    refine wpAnyH_take (i := 1) (oi := { dst := some 20, op := Go.Op.move (Go.Operand.tmp 4), type := 106, pos := "wire.go:226", after := #[], guard := none }) (v := ?_) rfl (by kernel_rfl) (by kernel_rfl) (by kernel_rfl) (fun _ _ _ h => h) (Or.inl ⟨by rfl, ?_⟩) (by assumption) ?_
    rotate_left 1
    · (intro W hSW; obtain ⟨hS1, hS2, hS3⟩ := hSW; go_simp; (try with_reducible rfl))
    try simp only [Act.put, List.setIfInBounds_toArray, List.set_cons_zero, List.set_cons_succ]
    refine wpAnyH_take (i := 2) (oi := { dst := some 21, op := Go.Op.nilCheck (Go.Operand.tmp 20), type := 0, pos := "wire.go:226", after := #[{ on := 1, ground := Go.Ground.data }], guard := none }) (v := ?_) rfl (by kernel_rfl) (by kernel_rfl) (by kernel_rfl) (fun _ _ _ h => h) (Or.inl ⟨by rfl, ?_⟩) (by assumption) ?_
    rotate_left 1
    · (intro W hSW; obtain ⟨hS1, hS2, hS3⟩ := hSW; go_simp; (try with_reducible rfl))
    try simp only [Act.put, List.setIfInBounds_toArray, List.set_cons_zero, List.set_cons_succ]
    refine wpAnyH_take (i := 3) (oi := { dst := some 22, op := Go.Op.fieldAddr 110 (Go.Operand.tmp 21) 0, type := 0, pos := "wire.go:226", after := #[{ on := 2, ground := Go.Ground.data }], guard := none }) (v := ?_) rfl (by kernel_rfl) (by kernel_rfl) (by kernel_rfl) (fun _ _ _ h => h) (Or.inl ⟨by rfl, ?_⟩) (by assumption) ?_
    rotate_left 1
    · (intro W hSW; obtain ⟨hS1, hS2, hS3⟩ := hSW; go_simp; (try with_reducible rfl))
    try simp only [Act.put, List.setIfInBounds_toArray, List.set_cons_zero, List.set_cons_succ]
    refine wpAnyH_take (i := 4) (oi := { dst := some 23, op := Go.Op.load 107 (Go.Operand.tmp 22), type := 107, pos := "wire.go:226", after := #[{ on := 3, ground := Go.Ground.data }], guard := none }) (v := ?_) rfl (by kernel_rfl) (by kernel_rfl) (by kernel_rfl) (fun _ _ _ h => h) (Or.inl ⟨by rfl, ?_⟩) (by assumption) ?_
    rotate_left 1
    · (intro W hSW; obtain ⟨hS1, hS2, hS3⟩ := hSW; go_simp; (try with_reducible rfl))
    try simp only [Act.put, List.setIfInBounds_toArray, List.set_cons_zero, List.set_cons_succ]
    refine wpAnyH_ready (rs := [5]) (by kernel_rfl) (by simp) ?_
    refine AllReadyH.cons (o := { dst := some 24, op := Go.Op.call { callee := Go.Callee.value (Go.Operand.func 60), args := #[Go.Operand.tmp 23], argTypes := #[107] }, type := 28, pos := "wire.go:226", after := #[{ on := 4, ground := Go.Ground.data }], guard := none }) rfl (fun K hK => ?_) AllReadyH.nil
    go_simp
    go_at_call 60
    refine CE.out.mono ?_
    rintro e w' ⟨rfl, rfl⟩
    go_wp2_with fail
    refine hK.out _ _ hHeld (fun hHeld' => ?_)
    clear hK K hHeld'
    try simp only [Act.put, List.setIfInBounds_toArray, List.set_cons_zero, List.set_cons_succ]
    refine wpAnyH_take (i := 6) (oi := { dst := some 25, op := Go.Op.binOp Go.BinOp.eql 28 (Go.Operand.tmp 24) (Go.Operand.const (Go.Value.int Go.IntKind.i64 0)) 28, type := 4, pos := "wire.go:226", after := #[{ on := 5, ground := Go.Ground.data }], guard := none }) (v := ?_) rfl (by kernel_rfl) (by kernel_rfl) (by kernel_rfl) (fun _ _ _ h => h) (Or.inl ⟨by rfl, ?_⟩) (by assumption) ?_
    rotate_left 1
    · (intro W hSW; obtain ⟨hS1, hS2, hS3⟩ := hSW; go_simp; (try with_reducible rfl))
    try simp only [Act.put, List.setIfInBounds_toArray, List.set_cons_zero, List.set_cons_succ]
    refine wpAnyH_take (i := 7) (oi := { dst := some 26, op := Go.Op.move (Go.Operand.tmp 25), type := 4, pos := "wire.go:226", after := #[{ on := 6, ground := Go.Ground.data }, { on := 5, ground := Go.Ground.chain }], guard := none }) (v := ?_) rfl (by kernel_rfl) (by kernel_rfl) (by kernel_rfl) (fun _ _ _ h => h) (Or.inl ⟨by rfl, ?_⟩) (by assumption) ?_
    rotate_left 1
    · (intro W hSW; obtain ⟨hS1, hS2, hS3⟩ := hSW; go_simp; (try with_reducible rfl))
    try simp only [Act.put, List.setIfInBounds_toArray, List.set_cons_zero, List.set_cons_succ]
    refine wpAnyH_take (i := 8) (oi := { dst := some 27, op := Go.Op.move (Go.Operand.tmp 4), type := 106, pos := "wire.go:226", after := #[{ on := 7, ground := Go.Ground.guard }, { on := 14, ground := Go.Ground.gcOnly Go.Departure.lateStores }], guard := some (7, true) }) (v := ?_) rfl (by kernel_rfl) (by kernel_rfl) (by kernel_rfl) (fun _ _ _ h => h) (Or.inl ⟨by rfl, ?_⟩) (by assumption) ?_
    rotate_left 1
    · (intro W hSW; obtain ⟨hS1, hS2, hS3⟩ := hSW; go_simp; (try with_reducible rfl))
    try simp only [Act.put, List.setIfInBounds_toArray, List.set_cons_zero, List.set_cons_succ]
    refine wpAnyH_take (i := 9) (oi := { dst := some 28, op := Go.Op.nilCheck (Go.Operand.tmp 27), type := 0, pos := "wire.go:226", after := #[{ on := 8, ground := Go.Ground.data }, { on := 7, ground := Go.Ground.guard }, { on := 14, ground := Go.Ground.gcOnly Go.Departure.lateStores }], guard := some (7, true) }) (v := ?_) rfl (by kernel_rfl) (by kernel_rfl) (by kernel_rfl) (fun _ _ _ h => h) (Or.inl ⟨by rfl, ?_⟩) (by assumption) ?_
    rotate_left 1
    · (intro W hSW; obtain ⟨hS1, hS2, hS3⟩ := hSW; go_simp; (try with_reducible rfl))
    try simp only [Act.put, List.setIfInBounds_toArray, List.set_cons_zero, List.set_cons_succ]
    refine wpAnyH_take (i := 10) (oi := { dst := some 29, op := Go.Op.fieldAddr 110 (Go.Operand.tmp 28) 1, type := 0, pos := "wire.go:226", after := #[{ on := 9, ground := Go.Ground.data }, { on := 7, ground := Go.Ground.guard }, { on := 14, ground := Go.Ground.gcOnly Go.Departure.lateStores }], guard := some (7, true) }) (v := ?_) rfl (by kernel_rfl) (by kernel_rfl) (by kernel_rfl) (fun _ _ _ h => h) (Or.inl ⟨by rfl, ?_⟩) (by assumption) ?_
    rotate_left 1
    · (intro W hSW; obtain ⟨hS1, hS2, hS3⟩ := hSW; go_simp; (try with_reducible rfl))
    try simp only [Act.put, List.setIfInBounds_toArray, List.set_cons_zero, List.set_cons_succ]
    refine wpAnyH_take (i := 11) (oi := { dst := some 30, op := Go.Op.load 4 (Go.Operand.tmp 29), type := 4, pos := "wire.go:226", after := #[{ on := 10, ground := Go.Ground.data }, { on := 7, ground := Go.Ground.guard }, { on := 14, ground := Go.Ground.gcOnly Go.Departure.lateStores }], guard := some (7, true) }) (v := ?_) rfl (by kernel_rfl) (by kernel_rfl) (by kernel_rfl) (fun _ _ _ h => h) (Or.inl ⟨by rfl, ?_⟩) (by assumption) ?_
    rotate_left 1
    · (intro W hSW; obtain ⟨hS1, hS2, hS3⟩ := hSW; go_simp; (try with_reducible rfl))
    try simp only [Act.put, List.setIfInBounds_toArray, List.set_cons_zero, List.set_cons_succ]
    refine wpAnyH_take (i := 12) (oi := { dst := some 31, op := Go.Op.unOp Go.UnOp.not 4 (Go.Operand.tmp 30), type := 4, pos := "wire.go:226", after := #[{ on := 11, ground := Go.Ground.data }, { on := 7, ground := Go.Ground.guard }, { on := 14, ground := Go.Ground.gcOnly Go.Departure.lateStores }], guard := some (7, true) }) (v := ?_) rfl (by kernel_rfl) (by kernel_rfl) (by kernel_rfl) (fun _ _ _ h => h) (Or.inl ⟨by rfl, ?_⟩) (by assumption) ?_
    rotate_left 1
    · (intro W hSW; obtain ⟨hS1, hS2, hS3⟩ := hSW; go_simp; (try with_reducible rfl))
    try simp only [Act.put, List.setIfInBounds_toArray, List.set_cons_zero, List.set_cons_succ]
    refine wpAnyH_take (i := 13) (oi := { dst := some 32, op := Go.Op.pick (Go.Operand.tmp 26) (Go.Operand.tmp 31) (Go.Operand.const (Go.Value.bool false)), type := 4, pos := "wire.go:226", after := #[{ on := 7, ground := Go.Ground.data }, { on := 12, ground := Go.Ground.data }, { on := 14, ground := Go.Ground.gcOnly Go.Departure.lateStores }], guard := none }) (v := ?_) rfl (by kernel_rfl) (by kernel_rfl) (by kernel_rfl) (fun _ _ _ h => h) (Or.inl ⟨by rfl, ?_⟩) (by assumption) ?_
    rotate_left 1
    · (intro W hSW; obtain ⟨hS1, hS2, hS3⟩ := hSW; go_simp; (try with_reducible rfl))
    try simp only [Act.put, List.setIfInBounds_toArray, List.set_cons_zero, List.set_cons_succ]
    refine wpAnyH_ready (rs := [14]) (by kernel_rfl) (by simp) ?_
    refine AllReadyH.cons (o := { dst := none, op := Go.Op.store 35 (Go.Operand.tmp 2) (Go.Operand.tmp 19), type := 0, pos := "wire.go:226", after := #[{ on := 0, ground := Go.Ground.data }, { on := 7, ground := Go.Ground.chain }, { on := 0, ground := Go.Ground.phase }, { on := 1, ground := Go.Ground.textOnly Go.Departure.lateStores }, { on := 2, ground := Go.Ground.textOnly Go.Departure.lateStores }, { on := 3, ground := Go.Ground.textOnly Go.Departure.lateStores }, { on := 4, ground := Go.Ground.textOnly Go.Departure.lateStores }, { on := 5, ground := Go.Ground.textOnly Go.Departure.lateStoresUnsure }, { on := 6, ground := Go.Ground.textOnly Go.Departure.lateStores }, { on := 7, ground := Go.Ground.textOnly Go.Departure.lateStores }, { on := 8, ground := Go.Ground.textOnly Go.Departure.lateStores }, { on := 9, ground := Go.Ground.textOnly Go.Departure.lateStores }, { on := 10, ground := Go.Ground.textOnly Go.Departure.lateStores }, { on := 11, ground := Go.Ground.textOnly Go.Departure.lateStores }, { on := 12, ground := Go.Ground.textOnly Go.Departure.lateStores }, { on := 13, ground := Go.Ground.textOnly Go.Departure.lateStores }], guard := none }) rfl (fun K hK => ?_) AllReadyH.nil
    rw [if_pos (by rfl)]
    refine wp_store_row 35 (.tmp 2) (.tmp 19) rfl g2 rfl (msgC (rdM xs).c sv) _ rfl _ HXR.out rfl info_msg HOA.out (fun w13 hX13 hO13 => ?_)
    have HX13 := Aside0.mk hX13
    have HO13 := Aside0.mk hO13
    clear hX13 hO13
    refine hK.out _ _ ⟨HO13.out.blk HX12.out HNE.out.1, HO13.out.cell HI0.out HNE.out.2, HO13.out.cell HI1.out HNE.out.2⟩ (fun hHeld' => ?_)
    clear hK K hHeld
    try simp only [Act.put, List.setIfInBounds_toArray, List.set_cons_zero, List.set_cons_succ]
    refine wpAnyH_take (i := 15) (oi := { dst := some 3, op := Go.Op.assign (Go.Operand.tmp 32), type := 4, pos := "wire.go:226", after := #[{ on := 13, ground := Go.Ground.data }, { on := 14, ground := Go.Ground.chain }, { on := 0, ground := Go.Ground.phase }, { on := 1, ground := Go.Ground.phase }, { on := 2, ground := Go.Ground.phase }, { on := 3, ground := Go.Ground.phase }, { on := 4, ground := Go.Ground.phase }, { on := 5, ground := Go.Ground.phase }, { on := 6, ground := Go.Ground.phase }, { on := 7, ground := Go.Ground.phase }, { on := 8, ground := Go.Ground.phase }, { on := 9, ground := Go.Ground.phase }, { on := 10, ground := Go.Ground.phase }, { on := 11, ground := Go.Ground.phase }, { on := 12, ground := Go.Ground.phase }, { on := 13, ground := Go.Ground.phase }, { on := 14, ground := Go.Ground.phase }], guard := none }) (v := ?_) rfl (by kernel_rfl) (by kernel_rfl) (by kernel_rfl) (fun _ _ _ h => h) (Or.inl ⟨by rfl, ?_⟩) (by assumption) ?_
    rotate_left 1
    · (intro W hSW; obtain ⟨hS1, hS2, hS3⟩ := hSW; go_simp; (try with_reducible rfl))
    try simp only [Act.put, List.setIfInBounds_toArray, List.set_cons_zero, List.set_cons_succ]
    refine wpAnyH_done (by kernel_rfl) ?_ _
    go_wp2
    refine bodyPost_ret (results_ct (P := Try.prog) (fn := Try.f25) rfl _ _ g2 _ (msgC (rdM xs).c sv) (0, 0) _ rfl HX13.out Try.underlying35 rfl info_msg) rfl ?_
    obtain ⟨k1, k2⟩ := HFIN.out w13 HO13.out
    exact ⟨k1, _, _, rfl, HOKE.out.symm, sv, k2, HFR.out⟩
  · refine wp_region_held_drew (S := (fun W => W.heap[gm]? = some (.cells (msgC (rdM xs).c sv) 35 (0, 0)) ∧ W.cell? ⟨gi, 0, none⟩ = some (.pointer (some ⟨gr, 0, none⟩)) ∧ W.cell? ⟨gi, 1, none⟩ = some (.bool o))) (by kernel_rfl) ⟨HX12.out, HI0.out, HI1.out⟩ (fun hHeld => ?_)
    refine wpAnyH_take (i := 0) (oi := { dst := some 19, op := Go.Op.load 35 (Go.Operand.tmp 5), type := 35, pos := "wire.go:226", after := #[], guard := none }) (v := .agg (msgC (rdM xs).c sv)) rfl (by kernel_rfl) (by kernel_rfl) (by kernel_rfl) (fun _ _ _ h => h) ?_ (by assumption) ?_
    · refine Or.inl ⟨by rfl, fun W hSW => ?_⟩
      exact run_load_row rfl rfl hSW.1 Try.underlying35 rfl info_msg
    try simp only [Act.put, List.setIfInBounds_toArray, List.set_cons_zero, List.set_cons_succ]
    refine wpAnyH_take (i := 1) (oi := { dst := some 20, op := Go.Op.move (Go.Operand.tmp 4), type := 106, pos := "wire.go:226", after := #[], guard := none }) (v := ?_) rfl (by kernel_rfl) (by kernel_rfl) (by kernel_rfl) (fun _ _ _ h => h) (Or.inl ⟨by rfl, ?_⟩) (by assumption) ?_
    rotate_left 1
    · (intro W hSW; obtain ⟨hS1, hS2, hS3⟩ := hSW; go_simp; (try with_reducible rfl))
    try simp only [Act.put, List.setIfInBounds_toArray, List.set_cons_zero, List.set_cons_succ]
    refine wpAnyH_take (i := 2) (oi := { dst := some 21, op := Go.Op.nilCheck (Go.Operand.tmp 20), type := 0, pos := "wire.go:226", after := #[{ on := 1, ground := Go.Ground.data }], guard := none }) (v := ?_) rfl (by kernel_rfl) (by kernel_rfl) (by kernel_rfl) (fun _ _ _ h => h) (Or.inl ⟨by rfl, ?_⟩) (by assumption) ?_
    rotate_left 1
    · (intro W hSW; obtain ⟨hS1, hS2, hS3⟩ := hSW; go_simp; (try with_reducible rfl))
    try simp only [Act.put, List.setIfInBounds_toArray, List.set_cons_zero, List.set_cons_succ]
    refine wpAnyH_take (i := 3) (oi := { dst := some 22, op := Go.Op.fieldAddr 110 (Go.Operand.tmp 21) 0, type := 0, pos := "wire.go:226", after := #[{ on := 2, ground := Go.Ground.data }], guard := none }) (v := ?_) rfl (by kernel_rfl) (by kernel_rfl) (by kernel_rfl) (fun _ _ _ h => h) (Or.inl ⟨by rfl, ?_⟩) (by assumption) ?_
    rotate_left 1
    · (intro W hSW; obtain ⟨hS1, hS2, hS3⟩ := hSW; go_simp; (try with_reducible rfl))
    try simp only [Act.put, List.setIfInBounds_toArray, List.set_cons_zero, List.set_cons_succ]
    refine wpAnyH_take (i := 4) (oi := { dst := some 23, op := Go.Op.load 107 (Go.Operand.tmp 22), type := 107, pos := "wire.go:226", after := #[{ on := 3, ground := Go.Ground.data }], guard := none }) (v := ?_) rfl (by kernel_rfl) (by kernel_rfl) (by kernel_rfl) (fun _ _ _ h => h) (Or.inl ⟨by rfl, ?_⟩) (by assumption) ?_
    rotate_left 1
    · (intro W hSW; obtain ⟨hS1, hS2, hS3⟩ := hSW; go_simp; (try with_reducible rfl))
    try simp only [Act.put, List.setIfInBounds_toArray, List.set_cons_zero, List.set_cons_succ]
    refine wpAnyH_ready (rs := [5]) (by kernel_rfl) (by simp) ?_
    refine AllReadyH.cons (o := { dst := some 24, op := Go.Op.call { callee := Go.Callee.value (Go.Operand.func 60), args := #[Go.Operand.tmp 23], argTypes := #[107] }, type := 28, pos := "wire.go:226", after := #[{ on := 4, ground := Go.Ground.data }], guard := none }) rfl (fun K hK => ?_) AllReadyH.nil
    go_simp
    go_at_call 60
    refine CE.out.mono ?_
    rintro e w' ⟨rfl, rfl⟩
    go_wp2_with fail
    refine hK.out _ _ hHeld (fun hHeld' => ?_)
    clear hK K hHeld'
    try simp only [Act.put, List.setIfInBounds_toArray, List.set_cons_zero, List.set_cons_succ]
    refine wpAnyH_take (i := 6) (oi := { dst := some 25, op := Go.Op.binOp Go.BinOp.eql 28 (Go.Operand.tmp 24) (Go.Operand.const (Go.Value.int Go.IntKind.i64 0)) 28, type := 4, pos := "wire.go:226", after := #[{ on := 5, ground := Go.Ground.data }], guard := none }) (v := ?_) rfl (by kernel_rfl) (by kernel_rfl) (by kernel_rfl) (fun _ _ _ h => h) (Or.inl ⟨by rfl, ?_⟩) (by assumption) ?_
    rotate_left 1
    · (intro W hSW; obtain ⟨hS1, hS2, hS3⟩ := hSW; go_simp; (try with_reducible rfl))
    try simp only [Act.put, List.setIfInBounds_toArray, List.set_cons_zero, List.set_cons_succ]
    refine wpAnyH_take (i := 7) (oi := { dst := some 26, op := Go.Op.move (Go.Operand.tmp 25), type := 4, pos := "wire.go:226", after := #[{ on := 6, ground := Go.Ground.data }, { on := 5, ground := Go.Ground.chain }], guard := none }) (v := ?_) rfl (by kernel_rfl) (by kernel_rfl) (by kernel_rfl) (fun _ _ _ h => h) (Or.inl ⟨by rfl, ?_⟩) (by assumption) ?_
    rotate_left 1
    · (intro W hSW; obtain ⟨hS1, hS2, hS3⟩ := hSW; go_simp; (try with_reducible rfl))
    try simp only [Act.put, List.setIfInBounds_toArray, List.set_cons_zero, List.set_cons_succ]
    refine wpAnyH_take (i := 8) (oi := { dst := some 27, op := Go.Op.move (Go.Operand.tmp 4), type := 106, pos := "wire.go:226", after := #[{ on := 7, ground := Go.Ground.guard }, { on := 14, ground := Go.Ground.gcOnly Go.Departure.lateStores }], guard := some (7, true) }) (v := undef) rfl (by kernel_rfl) (by kernel_rfl) (by kernel_rfl) (fun _ _ _ h => h) (Or.inr ⟨by rfl, rfl⟩) (by assumption) ?_
    try simp only [Act.put, List.setIfInBounds_toArray, List.set_cons_zero, List.set_cons_succ]
    refine wpAnyH_take (i := 9) (oi := { dst := some 28, op := Go.Op.nilCheck (Go.Operand.tmp 27), type := 0, pos := "wire.go:226", after := #[{ on := 8, ground := Go.Ground.data }, { on := 7, ground := Go.Ground.guard }, { on := 14, ground := Go.Ground.gcOnly Go.Departure.lateStores }], guard := some (7, true) }) (v := undef) rfl (by kernel_rfl) (by kernel_rfl) (by kernel_rfl) (fun _ _ _ h => h) (Or.inr ⟨by rfl, rfl⟩) (by assumption) ?_
    try simp only [Act.put, List.setIfInBounds_toArray, List.set_cons_zero, List.set_cons_succ]
    refine wpAnyH_take (i := 10) (oi := { dst := some 29, op := Go.Op.fieldAddr 110 (Go.Operand.tmp 28) 1, type := 0, pos := "wire.go:226", after := #[{ on := 9, ground := Go.Ground.data }, { on := 7, ground := Go.Ground.guard }, { on := 14, ground := Go.Ground.gcOnly Go.Departure.lateStores }], guard := some (7, true) }) (v := undef) rfl (by kernel_rfl) (by kernel_rfl) (by kernel_rfl) (fun _ _ _ h => h) (Or.inr ⟨by rfl, rfl⟩) (by assumption) ?_
    try simp only [Act.put, List.setIfInBounds_toArray, List.set_cons_zero, List.set_cons_succ]
    refine wpAnyH_take (i := 11) (oi := { dst := some 30, op := Go.Op.load 4 (Go.Operand.tmp 29), type := 4, pos := "wire.go:226", after := #[{ on := 10, ground := Go.Ground.data }, { on := 7, ground := Go.Ground.guard }, { on := 14, ground := Go.Ground.gcOnly Go.Departure.lateStores }], guard := some (7, true) }) (v := undef) rfl (by kernel_rfl) (by kernel_rfl) (by kernel_rfl) (fun _ _ _ h => h) (Or.inr ⟨by rfl, rfl⟩) (by assumption) ?_
    try simp only [Act.put, List.setIfInBounds_toArray, List.set_cons_zero, List.set_cons_succ]
    refine wpAnyH_take (i := 12) (oi := { dst := some 31, op := Go.Op.unOp Go.UnOp.not 4 (Go.Operand.tmp 30), type := 4, pos := "wire.go:226", after := #[{ on := 11, ground := Go.Ground.data }, { on := 7, ground := Go.Ground.guard }, { on := 14, ground := Go.Ground.gcOnly Go.Departure.lateStores }], guard := some (7, true) }) (v := undef) rfl (by kernel_rfl) (by kernel_rfl) (by kernel_rfl) (fun _ _ _ h => h) (Or.inr ⟨by rfl, rfl⟩) (by assumption) ?_
    try simp only [Act.put, List.setIfInBounds_toArray, List.set_cons_zero, List.set_cons_succ]
    refine wpAnyH_take (i := 13) (oi := { dst := some 32, op := Go.Op.pick (Go.Operand.tmp 26) (Go.Operand.tmp 31) (Go.Operand.const (Go.Value.bool false)), type := 4, pos := "wire.go:226", after := #[{ on := 7, ground := Go.Ground.data }, { on := 12, ground := Go.Ground.data }, { on := 14, ground := Go.Ground.gcOnly Go.Departure.lateStores }], guard := none }) (v := ?_) rfl (by kernel_rfl) (by kernel_rfl) (by kernel_rfl) (fun _ _ _ h => h) (Or.inl ⟨by rfl, ?_⟩) (by assumption) ?_
    rotate_left 1
    · (intro W hSW; obtain ⟨hS1, hS2, hS3⟩ := hSW; go_simp; (try with_reducible rfl))
    try simp only [Act.put, List.setIfInBounds_toArray, List.set_cons_zero, List.set_cons_succ]
    refine wpAnyH_ready (rs := [14]) (by kernel_rfl) (by simp) ?_
    refine AllReadyH.cons (o := { dst := none, op := Go.Op.store 35 (Go.Operand.tmp 2) (Go.Operand.tmp 19), type := 0, pos := "wire.go:226", after := #[{ on := 0, ground := Go.Ground.data }, { on := 7, ground := Go.Ground.chain }, { on := 0, ground := Go.Ground.phase }, { on := 1, ground := Go.Ground.textOnly Go.Departure.lateStores }, { on := 2, ground := Go.Ground.textOnly Go.Departure.lateStores }, { on := 3, ground := Go.Ground.textOnly Go.Departure.lateStores }, { on := 4, ground := Go.Ground.textOnly Go.Departure.lateStores }, { on := 5, ground := Go.Ground.textOnly Go.Departure.lateStoresUnsure }, { on := 6, ground := Go.Ground.textOnly Go.Departure.lateStores }, { on := 7, ground := Go.Ground.textOnly Go.Departure.lateStores }, { on := 8, ground := Go.Ground.textOnly Go.Departure.lateStores }, { on := 9, ground := Go.Ground.textOnly Go.Departure.lateStores }, { on := 10, ground := Go.Ground.textOnly Go.Departure.lateStores }, { on := 11, ground := Go.Ground.textOnly Go.Departure.lateStores }, { on := 12, ground := Go.Ground.textOnly Go.Departure.lateStores }, { on := 13, ground := Go.Ground.textOnly Go.Departure.lateStores }], guard := none }) rfl (fun K hK => ?_) AllReadyH.nil
    rw [if_pos (by rfl)]
    refine wp_store_row 35 (.tmp 2) (.tmp 19) rfl g2 rfl (msgC (rdM xs).c sv) _ rfl _ HXR.out rfl info_msg HOA.out (fun w13 hX13 hO13 => ?_)
    have HX13 := Aside0.mk hX13
    have HO13 := Aside0.mk hO13
    clear hX13 hO13
    refine hK.out _ _ ⟨HO13.out.blk HX12.out HNE.out.1, HO13.out.cell HI0.out HNE.out.2, HO13.out.cell HI1.out HNE.out.2⟩ (fun hHeld' => ?_)
    clear hK K hHeld
    try simp only [Act.put, List.setIfInBounds_toArray, List.set_cons_zero, List.set_cons_succ]
    refine wpAnyH_take (i := 15) (oi := { dst := some 3, op := Go.Op.assign (Go.Operand.tmp 32), type := 4, pos := "wire.go:226", after := #[{ on := 13, ground := Go.Ground.data }, { on := 14, ground := Go.Ground.chain }, { on := 0, ground := Go.Ground.phase }, { on := 1, ground := Go.Ground.phase }, { on := 2, ground := Go.Ground.phase }, { on := 3, ground := Go.Ground.phase }, { on := 4, ground := Go.Ground.phase }, { on := 5, ground := Go.Ground.phase }, { on := 6, ground := Go.Ground.phase }, { on := 7, ground := Go.Ground.phase }, { on := 8, ground := Go.Ground.phase }, { on := 9, ground := Go.Ground.phase }, { on := 10, ground := Go.Ground.phase }, { on := 11, ground := Go.Ground.phase }, { on := 12, ground := Go.Ground.phase }, { on := 13, ground := Go.Ground.phase }, { on := 14, ground := Go.Ground.phase }], guard := none }) (v := ?_) rfl (by kernel_rfl) (by kernel_rfl) (by kernel_rfl) (fun _ _ _ h => h) (Or.inl ⟨by rfl, ?_⟩) (by assumption) ?_
    rotate_left 1
    · (intro W hSW; obtain ⟨hS1, hS2, hS3⟩ := hSW; go_simp; (try with_reducible rfl))
    try simp only [Act.put, List.setIfInBounds_toArray, List.set_cons_zero, List.set_cons_succ]
    refine wpAnyH_done (by kernel_rfl) ?_ _
    go_wp2
    refine bodyPost_ret (results_ct (P := Try.prog) (fn := Try.f25) rfl _ _ g2 _ (msgC (rdM xs).c sv) (0, 0) _ rfl HX13.out Try.underlying35 rfl info_msg) rfl ?_
    obtain ⟨k1, k2⟩ := HFIN.out w13 HO13.out
    exact ⟨k1, _, _, rfl, HOKE.out.symm, sv, k2, HFR.out⟩
end Go.Proofs.Ytcbehfbfaonanaa.Wr
end


section
/-! ### 58. A guarded operation whose guard is known to want it: the same goal without the guard -/
namespace Go.Proofs.YtcbehfbfaonanaaW.PrintWords
open Go.RowKit
section
variable {P : Program} {ops : Array Oper} {rest : List Oper} {o : Oper} {a : Act} {Q : Exit → Act → World → Prop} {W : World}
/-- The gate takes the guard off (hw: 'by rfl', 'by kernel_rfl': the guard's slot holds what is wanted). -/
theorem gate_guard (hw : Region.wanted o (yielded ops a.tmps) = true) (h : wpList P ops Q ({ o with guard := none } :: rest) a W) : wpList P ops Q (o :: rest) a W := by
  have h1 : Region.wanted { o with guard := none } (yielded ops a.tmps) = true := rfl
  unfold wpList at h ⊢
  rw [if_pos h1] at h
  rw [if_pos hw]
  exact h
/-- Its guard doesn't want it: it isn't carried out. -/
theorem skip_guard (hw : Region.wanted o (yielded ops a.tmps) = false) (h : wpList P ops Q rest (a.put o.dst undef) W) : wpList P ops Q (o :: rest) a W := by
  unfold wpList
  rw [hw]
  exact h
end
end Go.Proofs.YtcbehfbfaonanaaW.PrintWords
end


section
/-! ### 53. '==' of structs as_ one Bool -/
namespace Go.Proofs.YtcbehfbfaonanaaW.PrintWords
open Go.RowKit
section
variable {P : Program} {d : Nat} {xs ys : Array Value} {f : Field} {fs : List Field} {a b : Value} {r s : Bool} {w : World}
/-- The last field that counts. -/
theorem eqf_last (hn : (f.name == "_") = false) (ha : (part f.type xs f.offset).run P w = .ok a w) (hb : (part f.type ys f.offset).run P w = .ok b w) (he : (Op.equalIn d f.type a b).run P w = .ok r w) : (Op.eqFields d xs ys [f]).run P w = .ok r w := by
  have hn' : f.name ≠ "_" := by simpa using hn
  simp only [Op.eqFields, if_pos hn', Sem.run_bind, ha, hb, he, Result.andThen_ok]
  cases r <;> simp
theorem eqf_cons (hn : (f.name == "_") = false) (ha : (part f.type xs f.offset).run P w = .ok a w) (hb : (part f.type ys f.offset).run P w = .ok b w) (he : (Op.equalIn d f.type a b).run P w = .ok r w) (hr : (Op.eqFields d xs ys fs).run P w = .ok s w) : (Op.eqFields d xs ys (f :: fs)).run P w = .ok (r && s) w := by
  have hn' : f.name ≠ "_" := by simpa using hn
  rw [Op.eqFields]
  simp only [if_pos hn', Sem.run_bind, ha, hb, he, Result.andThen_ok]
  cases r
  · simp
  · simpa using hr
theorem eqA_of {t : TypeId} {fs : Array Field} (hu : P.underlying t = some (.struct fs)) (hp : P.stoodInHeld t = false) (h : (Op.eqFields d xs ys fs.toList).run P w = .ok r w) : (Op.equalIn (d + 1) t (.agg xs) (.agg ys)).run P w = .ok r w := by
  have hf : P.fieldsOf t = fs := by simp [Program.fieldsOf, hu]
  rw [run_equalIn_struct (P := P) w d t xs ys (by rw [hf]; exact hu) hp, hf]
  exact h
end
end Go.Proofs.YtcbehfbfaonanaaW.PrintWords
end

/- Two lists of rows compared, as wire.Same and the references do. -/
section
namespace Go.Proofs.Ytcbehfbfaonanaa.Wr
open Go.RowKit Go.Proofs.YtcbehfbfaonanaaW.PrintWords Go.Proofs.YtcbehfbfaonanaaW.PrintLast Go.Proofs.YtcbehfbfaonanaaW.PrintMore Go.Proofs.Ytcbehfbfaonanaa.Pk
set_option linter.unusedVariables false
set_option linter.unusedSimpArgs false

theorem eqA_Pos (d : Nat) (w : World) (x0 y0 : Int) (x1 y1 : Int) :
    (Op.equalIn (d + 2) 24 (.agg #[.int .i64 x0, .int .i64 x1]) (.agg #[.int .i64 y0, .int .i64 y1])).run Try.prog w = .ok (x0 == y0 && (x1 == y1)) w := by
  refine eqA_of Try.underlying24 (by kernel_rfl) ?_
  refine eqf_cons (by rfl) (by go_simp; rfl) (by go_simp; rfl) (by go_simp) ?_
  exact eqf_last (by rfl) (by go_simp; rfl) (by go_simp; rfl) (by go_simp)
theorem eqA_Value (d : Nat) (w : World) (x0 y0 : Int) (x1 y1 : Int) (x2 y2 : Bool) (x3 y3 : ByteArray) :
    (Op.equalIn (d + 3) 30 (.agg #[.int .i64 x0, .int .i64 x1, .bool x2, .string x3]) (.agg #[.int .i64 y0, .int .i64 y1, .bool y2, .string y3])).run Try.prog w = .ok ((x0 == y0 && (x1 == y1)) && (x2 == y2 && (x3.toList == y3.toList))) w := by
  refine eqA_of Try.underlying30 (by kernel_rfl) ?_
  refine eqf_cons (by rfl) (by go_simp) (by go_simp) (eqA_Pos (d + 0) w _ _ _ _) ?_
  refine eqf_cons (by rfl) (by go_simp; rfl) (by go_simp; rfl) (by go_simp) ?_
  exact eqf_last (by rfl) (by go_simp; rfl) (by go_simp; rfl) (by go_simp)
theorem eqA_Pair (d : Nat) (w : World) (x0 y0 : ByteArray) (x1 y1 : Int) (x2 y2 : Int) (x3 y3 : Bool) (x4 y4 : ByteArray) :
    (Op.equalIn (d + 4) 68 (.agg #[.string x0, .int .i64 x1, .int .i64 x2, .bool x3, .string x4]) (.agg #[.string y0, .int .i64 y1, .int .i64 y2, .bool y3, .string y4])).run Try.prog w = .ok (x0.toList == y0.toList && (((x1 == y1 && (x2 == y2)) && (x3 == y3 && (x4.toList == y4.toList))))) w := by
  refine eqA_of Try.underlying68 (by kernel_rfl) ?_
  refine eqf_cons (by rfl) (by go_simp; rfl) (by go_simp; rfl) (by go_simp) ?_
  exact eqf_last (by rfl) (by go_simp) (by go_simp) (eqA_Value (d + 0) w _ _ _ _ _ _ _ _)
theorem eqA_Seen (d : Nat) (w : World) (x0 y0 : Int) (x1 y1 : Int) (x2 y2 : Int) (x3 y3 : Int) :
    (Op.equalIn (d + 3) 70 (.agg #[.int .i64 x0, .int .i64 x1, .int .i64 x2, .int .i64 x3]) (.agg #[.int .i64 y0, .int .i64 y1, .int .i64 y2, .int .i64 y3])).run Try.prog w = .ok (x0 == y0 && (x1 == y1 && ((x2 == y2 && (x3 == y3))))) w := by
  refine eqA_of Try.underlying70 (by kernel_rfl) ?_
  refine eqf_cons (by rfl) (by go_simp; rfl) (by go_simp; rfl) (by go_simp) ?_
  refine eqf_cons (by rfl) (by go_simp; rfl) (by go_simp; rfl) (by go_simp) ?_
  exact eqf_last (by rfl) (by go_simp) (by go_simp) (eqA_Pos (d + 0) w _ _ _ _)
theorem eqA_Epoch (d : Nat) (w : World) (x0 y0 : Int) (x1 y1 : Int) (x2 y2 : Bool) :
    (Op.equalIn (d + 2) 72 (.agg #[.int .i64 x0, .int .i64 x1, .bool x2]) (.agg #[.int .i64 y0, .int .i64 y1, .bool y2])).run Try.prog w = .ok (x0 == y0 && (x1 == y1 && (x2 == y2))) w := by
  refine eqA_of Try.underlying72 (by kernel_rfl) ?_
  refine eqf_cons (by rfl) (by go_simp; rfl) (by go_simp; rfl) (by go_simp) ?_
  refine eqf_cons (by rfl) (by go_simp; rfl) (by go_simp; rfl) (by go_simp) ?_
  exact eqf_last (by rfl) (by go_simp; rfl) (by go_simp; rfl) (by go_simp)
theorem eqA_Entry (d : Nat) (w : World) (x0 y0 : Int) (x1 y1 : Int) (x2 y2 : Int) (x3 y3 : Int) (x4 y4 : ByteArray) (x5 y5 : Bool) (x6 y6 : ByteArray) :
    (Op.equalIn (d + 3) 66 (.agg #[.int .i64 x0, .int .i64 x1, .int .i64 x2, .int .i64 x3, .string x4, .bool x5, .string x6]) (.agg #[.int .i64 y0, .int .i64 y1, .int .i64 y2, .int .i64 y3, .string y4, .bool y5, .string y6])).run Try.prog w = .ok ((x0 == y0 && (x1 == y1)) && (x2 == y2 && (x3 == y3 && (x4.toList == y4.toList && (x5 == y5 && (x6.toList == y6.toList)))))) w := by
  refine eqA_of Try.underlying66 (by kernel_rfl) ?_
  refine eqf_cons (by rfl) (by go_simp) (by go_simp) (eqA_Pos (d + 0) w _ _ _ _) ?_
  refine eqf_cons (by rfl) (by go_simp; rfl) (by go_simp; rfl) (by go_simp) ?_
  refine eqf_cons (by rfl) (by go_simp; rfl) (by go_simp; rfl) (by go_simp) ?_
  refine eqf_cons (by rfl) (by go_simp; rfl) (by go_simp; rfl) (by go_simp) ?_
  refine eqf_cons (by rfl) (by go_simp; rfl) (by go_simp; rfl) (by go_simp) ?_
  exact eqf_last (by rfl) (by go_simp; rfl) (by go_simp; rfl) (by go_simp)

theorem baToList_inj {a b : ByteArray} (h : a.toList = b.toList) : a = b := by
  rw [ByteArray.toList_eq, ByteArray.toList_eq] at h
  exact ByteArray.ext (Array.ext' h)
/-- Two values were found the same, or not: nothing was turned. -/
def IsEq (p : Prop) (w : World) (e : Ending) (w' : World) : Prop := ∃ r, e = .returned (.bool r) ∧ (r = true ↔ p) ∧ Drawn0 w w'
theorem rd_row {w : World} {A : Option Addr} {n c st : Nat} {R : List (List Value)} {fs : List Fld} (h : ListRd w (.slice A n c) st R) (hl : R.length = n) {k : Nat} (hk : k < n) : ∃ ad r, A = some ad ∧ R[k]? = some r ∧ ∀ j v, r[j]? = some v → w.cell? (ad.add (k * st + j)) = some v := by
  obtain ⟨a, c', e, h0, h3⟩ := h
  injection e with e1 e2 e3
  subst e1
  obtain ⟨ad, rfl, h4⟩ := h3 (fun e => by subst e; simp at hl; omega)
  have hkl : k < R.length := by omega
  exact ⟨ad, R[k], rfl, List.getElem?_eq_getElem hkl, fun j v hj => h4 k _ (List.getElem?_eq_getElem hkl) j v hj⟩
theorem take_eq_succ {α : Type} {R S : List α} {k : Nat} {r : α} (h : R.take k = S.take k) (h1 : R[k]? = some r) (h2 : S[k]? = some r) : R.take (k + 1) = S.take (k + 1) := by
  rw [List.take_add_one, List.take_add_one, h, h1, h2]
theorem take_ne {α : Type} {R S : List α} {k : Nat} {r s : α} (h1 : R[k]? = some r) (h2 : S[k]? = some s) (hn : r ≠ s) : R ≠ S := fun e => by
  subst e
  rw [h1] at h2
  injection h2 with h2
  exact hn h2
theorem entry_vals {r : List Value} (h : fits entryF r) : ∃ (x0 : Int) (x1 : Int) (x2 : Int) (x3 : Int) (x4 : ByteArray) (x5 : Bool) (x6 : ByteArray), r = [.int .i64 x0, .int .i64 x1, .int .i64 x2, .int .i64 x3, .string x4, .bool x5, .string x6] := by
  obtain ⟨v0, r, rfl⟩ : ∃ v0 q, r = v0 :: q := by cases r with | nil => exact h.elim | cons a r => exact ⟨_, _, rfl⟩
  obtain ⟨⟨x0, rfl⟩, h⟩ := h
  obtain ⟨v1, r, rfl⟩ : ∃ v0 q, r = v0 :: q := by cases r with | nil => exact h.elim | cons a r => exact ⟨_, _, rfl⟩
  obtain ⟨⟨x1, rfl⟩, h⟩ := h
  obtain ⟨v2, r, rfl⟩ : ∃ v0 q, r = v0 :: q := by cases r with | nil => exact h.elim | cons a r => exact ⟨_, _, rfl⟩
  obtain ⟨⟨x2, rfl⟩, h⟩ := h
  obtain ⟨v3, r, rfl⟩ : ∃ v0 q, r = v0 :: q := by cases r with | nil => exact h.elim | cons a r => exact ⟨_, _, rfl⟩
  obtain ⟨⟨x3, rfl⟩, h⟩ := h
  obtain ⟨v4, r, rfl⟩ : ∃ v0 q, r = v0 :: q := by cases r with | nil => exact h.elim | cons a r => exact ⟨_, _, rfl⟩
  obtain ⟨⟨x4, rfl⟩, h⟩ := h
  obtain ⟨v5, r, rfl⟩ : ∃ v0 q, r = v0 :: q := by cases r with | nil => exact h.elim | cons a r => exact ⟨_, _, rfl⟩
  obtain ⟨⟨x5, rfl⟩, h⟩ := h
  obtain ⟨v6, r, rfl⟩ : ∃ v0 q, r = v0 :: q := by cases r with | nil => exact h.elim | cons a r => exact ⟨_, _, rfl⟩
  obtain ⟨⟨x6, rfl⟩, h⟩ := h
  obtain rfl : r = [] := by cases r with | nil => rfl | cons a r => exact h.elim
  exact ⟨x0, x1, x2, x3, x4, x5, x6, rfl⟩
theorem pair_vals {r : List Value} (h : fits pairF r) : ∃ (x0 : ByteArray) (x1 : Int) (x2 : Int) (x3 : Bool) (x4 : ByteArray), r = [.string x0, .int .i64 x1, .int .i64 x2, .bool x3, .string x4] := by
  obtain ⟨v0, r, rfl⟩ : ∃ v0 q, r = v0 :: q := by cases r with | nil => exact h.elim | cons a r => exact ⟨_, _, rfl⟩
  obtain ⟨⟨x0, rfl⟩, h⟩ := h
  obtain ⟨v1, r, rfl⟩ : ∃ v0 q, r = v0 :: q := by cases r with | nil => exact h.elim | cons a r => exact ⟨_, _, rfl⟩
  obtain ⟨⟨x1, rfl⟩, h⟩ := h
  obtain ⟨v2, r, rfl⟩ : ∃ v0 q, r = v0 :: q := by cases r with | nil => exact h.elim | cons a r => exact ⟨_, _, rfl⟩
  obtain ⟨⟨x2, rfl⟩, h⟩ := h
  obtain ⟨v3, r, rfl⟩ : ∃ v0 q, r = v0 :: q := by cases r with | nil => exact h.elim | cons a r => exact ⟨_, _, rfl⟩
  obtain ⟨⟨x3, rfl⟩, h⟩ := h
  obtain ⟨v4, r, rfl⟩ : ∃ v0 q, r = v0 :: q := by cases r with | nil => exact h.elim | cons a r => exact ⟨_, _, rfl⟩
  obtain ⟨⟨x4, rfl⟩, h⟩ := h
  obtain rfl : r = [] := by cases r with | nil => rfl | cons a r => exact h.elim
  exact ⟨x0, x1, x2, x3, x4, rfl⟩
theorem seen_vals {r : List Value} (h : fits seenF r) : ∃ (x0 : Int) (x1 : Int) (x2 : Int) (x3 : Int), r = [.int .i64 x0, .int .i64 x1, .int .i64 x2, .int .i64 x3] := by
  obtain ⟨v0, r, rfl⟩ : ∃ v0 q, r = v0 :: q := by cases r with | nil => exact h.elim | cons a r => exact ⟨_, _, rfl⟩
  obtain ⟨⟨x0, rfl⟩, h⟩ := h
  obtain ⟨v1, r, rfl⟩ : ∃ v0 q, r = v0 :: q := by cases r with | nil => exact h.elim | cons a r => exact ⟨_, _, rfl⟩
  obtain ⟨⟨x1, rfl⟩, h⟩ := h
  obtain ⟨v2, r, rfl⟩ : ∃ v0 q, r = v0 :: q := by cases r with | nil => exact h.elim | cons a r => exact ⟨_, _, rfl⟩
  obtain ⟨⟨x2, rfl⟩, h⟩ := h
  obtain ⟨v3, r, rfl⟩ : ∃ v0 q, r = v0 :: q := by cases r with | nil => exact h.elim | cons a r => exact ⟨_, _, rfl⟩
  obtain ⟨⟨x3, rfl⟩, h⟩ := h
  obtain rfl : r = [] := by cases r with | nil => rfl | cons a r => exact h.elim
  exact ⟨x0, x1, x2, x3, rfl⟩
theorem epoch_vals {r : List Value} (h : fits epochF r) : ∃ (x0 : Int) (x1 : Int) (x2 : Bool), r = [.int .i64 x0, .int .i64 x1, .bool x2] := by
  obtain ⟨v0, r, rfl⟩ : ∃ v0 q, r = v0 :: q := by cases r with | nil => exact h.elim | cons a r => exact ⟨_, _, rfl⟩
  obtain ⟨⟨x0, rfl⟩, h⟩ := h
  obtain ⟨v1, r, rfl⟩ : ∃ v0 q, r = v0 :: q := by cases r with | nil => exact h.elim | cons a r => exact ⟨_, _, rfl⟩
  obtain ⟨⟨x1, rfl⟩, h⟩ := h
  obtain ⟨v2, r, rfl⟩ : ∃ v0 q, r = v0 :: q := by cases r with | nil => exact h.elim | cons a r => exact ⟨_, _, rfl⟩
  obtain ⟨⟨x2, rfl⟩, h⟩ := h
  obtain rfl : r = [] := by cases r with | nil => rfl | cons a r => exact h.elim
  exact ⟨x0, x1, x2, rfl⟩

attribute [local go_sem high] eqA_Entry in
set_option maxRecDepth 100000 in
set_option maxHeartbeats 4000000 in
theorem equalEntry_c (w : World) (A B : Option Addr) (c d : Nat) (R S : List (List Value)) (h1 : ListRd w (.slice A R.length c) 7 R) (h2 : ListRd w (.slice B S.length d) 7 S) (hf : ∀ r, r ∈ R → fits entryF r) (hg : ∀ r, r ∈ S → fits entryF r) (hn : R.length ≤ 1048576) (hn2 : S.length ≤ 1048576) :
    Calls Try.prog 30 #[.slice A R.length c, .slice B S.length d] w (IsEq (R = S) w) := by
  have hu := Try.underlying66
  have H1 := Aside0.mk h1
  have H2 := Aside0.mk h2
  have HF := Aside0.mk hf
  have HG := Aside0.mk hg
  clear h1 h2 hf hg
  by_cases hl : R.length = S.length
  · obtain ⟨n, e1⟩ : ∃ n, R.length = n := ⟨_, rfl⟩
    have e2 : S.length = n := by omega
    rw [e1] at H1 hn hl
    rw [e2] at H2 hn2 hl
    rw [e1, e2]
    have E1 := Aside0.mk e1
    have E2 := Aside0.mk e2
    clear e1 e2 hl hn2
    go_enter Try.func30, Try.ntmps30
    go_wp2
    go_loopg [13] n (fun g v w' => ∃ k : Nat, v = .int .i64 (k : Int) ∧ k + g = n ∧ Aside0 (R.take k = S.take k) ∧ Drawn0 w w')
    case atStart => exact ⟨0, rfl, by omega, ⟨rfl⟩, Drawn0.refl _⟩
    case round =>
      obtain ⟨k, rfl, hk, HT, ⟨m1, rfl⟩⟩ := hrel
      cases gk with
      | zero =>
        obtain rfl : k = n := by omega
        go_wp2
        go_ret
        refine ⟨true, rfl, ⟨fun _ => ?_, fun _ => rfl⟩, by repeat (first | exact Drawn0.refl _ | apply Drawn0.step)⟩
        have := HT.out
        rwa [List.take_of_length_le (by rw [E1.out]; omega), List.take_of_length_le (by rw [E2.out]; omega)] at this
      | succ g =>
        have hkn : k < n := by omega
        obtain ⟨ad, r, rfl, hr, hcx⟩ := rd_row (fs := entryF) H1.out E1.out hkn
        obtain ⟨bd, s, rfl, hs, hcy⟩ := rd_row (fs := entryF) H2.out E2.out hkn
        obtain ⟨x0, x1, x2, x3, x4, x5, x6, rfl⟩ := entry_vals (HF.out r (List.mem_of_getElem? hr))
        obtain ⟨y0, y1, y2, y3, y4, y5, y6, rfl⟩ := entry_vals (HG.out s (List.mem_of_getElem? hs))
        have cx0 : w.cell? (ad.add (k * 7)) = some (.int .i64 x0) := hcx 0 _ rfl
        have cx1 : w.cell? ⟨(ad.add (k * 7)).block, (ad.add (k * 7)).off + 1, none⟩ = some (.int .i64 x1) := by rw [← add_field _ _ _ (by omega)]; exact hcx 1 _ rfl
        have cx2 : w.cell? ⟨(ad.add (k * 7)).block, (ad.add (k * 7)).off + 2, none⟩ = some (.int .i64 x2) := by rw [← add_field _ _ _ (by omega)]; exact hcx 2 _ rfl
        have cx3 : w.cell? ⟨(ad.add (k * 7)).block, (ad.add (k * 7)).off + 3, none⟩ = some (.int .i64 x3) := by rw [← add_field _ _ _ (by omega)]; exact hcx 3 _ rfl
        have cx4 : w.cell? ⟨(ad.add (k * 7)).block, (ad.add (k * 7)).off + 4, none⟩ = some (.string x4) := by rw [← add_field _ _ _ (by omega)]; exact hcx 4 _ rfl
        have cx5 : w.cell? ⟨(ad.add (k * 7)).block, (ad.add (k * 7)).off + 5, none⟩ = some (.bool x5) := by rw [← add_field _ _ _ (by omega)]; exact hcx 5 _ rfl
        have cx6 : w.cell? ⟨(ad.add (k * 7)).block, (ad.add (k * 7)).off + 6, none⟩ = some (.string x6) := by rw [← add_field _ _ _ (by omega)]; exact hcx 6 _ rfl
        have cy0 : w.cell? (bd.add (k * 7)) = some (.int .i64 y0) := hcy 0 _ rfl
        have cy1 : w.cell? ⟨(bd.add (k * 7)).block, (bd.add (k * 7)).off + 1, none⟩ = some (.int .i64 y1) := by rw [← add_field _ _ _ (by omega)]; exact hcy 1 _ rfl
        have cy2 : w.cell? ⟨(bd.add (k * 7)).block, (bd.add (k * 7)).off + 2, none⟩ = some (.int .i64 y2) := by rw [← add_field _ _ _ (by omega)]; exact hcy 2 _ rfl
        have cy3 : w.cell? ⟨(bd.add (k * 7)).block, (bd.add (k * 7)).off + 3, none⟩ = some (.int .i64 y3) := by rw [← add_field _ _ _ (by omega)]; exact hcy 3 _ rfl
        have cy4 : w.cell? ⟨(bd.add (k * 7)).block, (bd.add (k * 7)).off + 4, none⟩ = some (.string y4) := by rw [← add_field _ _ _ (by omega)]; exact hcy 4 _ rfl
        have cy5 : w.cell? ⟨(bd.add (k * 7)).block, (bd.add (k * 7)).off + 5, none⟩ = some (.bool y5) := by rw [← add_field _ _ _ (by omega)]; exact hcy 5 _ rfl
        have cy6 : w.cell? ⟨(bd.add (k * 7)).block, (bd.add (k * 7)).off + 6, none⟩ = some (.string y6) := by rw [← add_field _ _ _ (by omega)]; exact hcy 6 _ rfl
        have HR := Aside0.mk hr
        have HS := Aside0.mk hs
        have HK := Aside0.mk hk
        clear hcx hcy hr hs hk
        cases hb : (((!(x0 == y0)) || ((!(x1 == y1)))) || ((!(x2 == y2)) || ((!(x3 == y3)) || ((!(x4.toList == y4.toList)) || ((!(x5 == y5)) || ((!(x6.toList == y6.toList))))))))
        · have HE := Aside0.mk hb
          go_wp2
          repeat (go_quiet (fail); try go_wp2)
          go_roundg g
          case measure => omega
          case rel =>
            refine ⟨k + 1, by go_num, by have := HK.out; omega, ⟨?_⟩, by repeat (first | exact Drawn0.refl _ | apply Drawn0.step)⟩
            have he := HE.out
            simp only [Bool.or_eq_false_iff, Bool.not_eq_false', beq_iff_eq] at he
            obtain ⟨q0, q1, q2, q3, q4, q5, q6⟩ : x0 = y0 ∧ x1 = y1 ∧ x2 = y2 ∧ x3 = y3 ∧ x4.toList = y4.toList ∧ x5 = y5 ∧ x6.toList = y6.toList := by simpa [and_assoc] using he
            subst q0
            subst q1
            subst q2
            subst q3
            obtain rfl := baToList_inj q4
            subst q5
            obtain rfl := baToList_inj q6
            exact take_eq_succ HT.out HR.out HS.out
        · have HE := Aside0.mk hb
          go_wp2
          repeat (go_quiet (fail); try go_wp2)
          go_ret
          refine ⟨false, rfl, ⟨(fun h => by cases h), fun h => absurd h (take_ne HR.out HS.out (fun e => ?_))⟩, by repeat (first | exact Drawn0.refl _ | apply Drawn0.step)⟩
          have he := HE.out
          simp only [List.cons.injEq, Value.int.injEq, Value.string.injEq, Value.bool.injEq, true_and, and_true] at e
          obtain ⟨rfl, rfl, rfl, rfl, rfl, rfl, rfl⟩ := e
          simp at he
  · have b0 : ((R.length : Int) == (S.length : Int)) = false := by rw [beq_eq_false_iff_ne]; omega
    have b1 : ((R.length : Int) != (S.length : Int)) = true := by rw [bne_iff_ne]; omega
    have b2 : (R.length == S.length) = false := by simpa using hl
    have HN := Aside0.mk hl
    clear hl
    go_enter Try.func30, Try.ntmps30
    go_wp2
    go_ret
    exact ⟨false, rfl, ⟨(fun h => by cases h), fun h => absurd (congrArg List.length h) HN.out⟩, Drawn0.refl _⟩

attribute [local go_sem high] eqA_Pair in
set_option maxRecDepth 100000 in
set_option maxHeartbeats 4000000 in
theorem equalPair_c (w : World) (A B : Option Addr) (c d : Nat) (R S : List (List Value)) (h1 : ListRd w (.slice A R.length c) 5 R) (h2 : ListRd w (.slice B S.length d) 5 S) (hf : ∀ r, r ∈ R → fits pairF r) (hg : ∀ r, r ∈ S → fits pairF r) (hn : R.length ≤ 1048576) (hn2 : S.length ≤ 1048576) :
    Calls Try.prog 31 #[.slice A R.length c, .slice B S.length d] w (IsEq (R = S) w) := by
  have hu := Try.underlying68
  have H1 := Aside0.mk h1
  have H2 := Aside0.mk h2
  have HF := Aside0.mk hf
  have HG := Aside0.mk hg
  clear h1 h2 hf hg
  by_cases hl : R.length = S.length
  · obtain ⟨n, e1⟩ : ∃ n, R.length = n := ⟨_, rfl⟩
    have e2 : S.length = n := by omega
    rw [e1] at H1 hn hl
    rw [e2] at H2 hn2 hl
    rw [e1, e2]
    have E1 := Aside0.mk e1
    have E2 := Aside0.mk e2
    clear e1 e2 hl hn2
    go_enter Try.func31, Try.ntmps31
    go_wp2
    go_loopg [13] n (fun g v w' => ∃ k : Nat, v = .int .i64 (k : Int) ∧ k + g = n ∧ Aside0 (R.take k = S.take k) ∧ Drawn0 w w')
    case atStart => exact ⟨0, rfl, by omega, ⟨rfl⟩, Drawn0.refl _⟩
    case round =>
      obtain ⟨k, rfl, hk, HT, ⟨m1, rfl⟩⟩ := hrel
      cases gk with
      | zero =>
        obtain rfl : k = n := by omega
        go_wp2
        go_ret
        refine ⟨true, rfl, ⟨fun _ => ?_, fun _ => rfl⟩, by repeat (first | exact Drawn0.refl _ | apply Drawn0.step)⟩
        have := HT.out
        rwa [List.take_of_length_le (by rw [E1.out]; omega), List.take_of_length_le (by rw [E2.out]; omega)] at this
      | succ g =>
        have hkn : k < n := by omega
        obtain ⟨ad, r, rfl, hr, hcx⟩ := rd_row (fs := pairF) H1.out E1.out hkn
        obtain ⟨bd, s, rfl, hs, hcy⟩ := rd_row (fs := pairF) H2.out E2.out hkn
        obtain ⟨x0, x1, x2, x3, x4, rfl⟩ := pair_vals (HF.out r (List.mem_of_getElem? hr))
        obtain ⟨y0, y1, y2, y3, y4, rfl⟩ := pair_vals (HG.out s (List.mem_of_getElem? hs))
        have cx0 : w.cell? (ad.add (k * 5)) = some (.string x0) := hcx 0 _ rfl
        have cx1 : w.cell? ⟨(ad.add (k * 5)).block, (ad.add (k * 5)).off + 1, none⟩ = some (.int .i64 x1) := by rw [← add_field _ _ _ (by omega)]; exact hcx 1 _ rfl
        have cx2 : w.cell? ⟨(ad.add (k * 5)).block, (ad.add (k * 5)).off + 2, none⟩ = some (.int .i64 x2) := by rw [← add_field _ _ _ (by omega)]; exact hcx 2 _ rfl
        have cx3 : w.cell? ⟨(ad.add (k * 5)).block, (ad.add (k * 5)).off + 3, none⟩ = some (.bool x3) := by rw [← add_field _ _ _ (by omega)]; exact hcx 3 _ rfl
        have cx4 : w.cell? ⟨(ad.add (k * 5)).block, (ad.add (k * 5)).off + 4, none⟩ = some (.string x4) := by rw [← add_field _ _ _ (by omega)]; exact hcx 4 _ rfl
        have cy0 : w.cell? (bd.add (k * 5)) = some (.string y0) := hcy 0 _ rfl
        have cy1 : w.cell? ⟨(bd.add (k * 5)).block, (bd.add (k * 5)).off + 1, none⟩ = some (.int .i64 y1) := by rw [← add_field _ _ _ (by omega)]; exact hcy 1 _ rfl
        have cy2 : w.cell? ⟨(bd.add (k * 5)).block, (bd.add (k * 5)).off + 2, none⟩ = some (.int .i64 y2) := by rw [← add_field _ _ _ (by omega)]; exact hcy 2 _ rfl
        have cy3 : w.cell? ⟨(bd.add (k * 5)).block, (bd.add (k * 5)).off + 3, none⟩ = some (.bool y3) := by rw [← add_field _ _ _ (by omega)]; exact hcy 3 _ rfl
        have cy4 : w.cell? ⟨(bd.add (k * 5)).block, (bd.add (k * 5)).off + 4, none⟩ = some (.string y4) := by rw [← add_field _ _ _ (by omega)]; exact hcy 4 _ rfl
        have HR := Aside0.mk hr
        have HS := Aside0.mk hs
        have HK := Aside0.mk hk
        clear hcx hcy hr hs hk
        cases hb : ((!(x0.toList == y0.toList)) || ((((!(x1 == y1)) || ((!(x2 == y2)))) || ((!(x3 == y3)) || ((!(x4.toList == y4.toList)))))))
        · have HE := Aside0.mk hb
          go_wp2
          repeat (go_quiet (fail); try go_wp2)
          go_roundg g
          case measure => omega
          case rel =>
            refine ⟨k + 1, by go_num, by have := HK.out; omega, ⟨?_⟩, by repeat (first | exact Drawn0.refl _ | apply Drawn0.step)⟩
            have he := HE.out
            simp only [Bool.or_eq_false_iff, Bool.not_eq_false', beq_iff_eq] at he
            obtain ⟨q0, q1, q2, q3, q4⟩ : x0.toList = y0.toList ∧ x1 = y1 ∧ x2 = y2 ∧ x3 = y3 ∧ x4.toList = y4.toList := by simpa [and_assoc] using he
            obtain rfl := baToList_inj q0
            subst q1
            subst q2
            subst q3
            obtain rfl := baToList_inj q4
            exact take_eq_succ HT.out HR.out HS.out
        · have HE := Aside0.mk hb
          go_wp2
          repeat (go_quiet (fail); try go_wp2)
          go_ret
          refine ⟨false, rfl, ⟨(fun h => by cases h), fun h => absurd h (take_ne HR.out HS.out (fun e => ?_))⟩, by repeat (first | exact Drawn0.refl _ | apply Drawn0.step)⟩
          have he := HE.out
          simp only [List.cons.injEq, Value.int.injEq, Value.string.injEq, Value.bool.injEq, true_and, and_true] at e
          obtain ⟨rfl, rfl, rfl, rfl, rfl⟩ := e
          simp at he
  · have b0 : ((R.length : Int) == (S.length : Int)) = false := by rw [beq_eq_false_iff_ne]; omega
    have b1 : ((R.length : Int) != (S.length : Int)) = true := by rw [bne_iff_ne]; omega
    have b2 : (R.length == S.length) = false := by simpa using hl
    have HN := Aside0.mk hl
    clear hl
    go_enter Try.func31, Try.ntmps31
    go_wp2
    go_ret
    exact ⟨false, rfl, ⟨(fun h => by cases h), fun h => absurd (congrArg List.length h) HN.out⟩, Drawn0.refl _⟩

attribute [local go_sem high] eqA_Seen in
set_option maxRecDepth 100000 in
set_option maxHeartbeats 4000000 in
theorem equalSeen_c (w : World) (A B : Option Addr) (c d : Nat) (R S : List (List Value)) (h1 : ListRd w (.slice A R.length c) 4 R) (h2 : ListRd w (.slice B S.length d) 4 S) (hf : ∀ r, r ∈ R → fits seenF r) (hg : ∀ r, r ∈ S → fits seenF r) (hn : R.length ≤ 1048576) (hn2 : S.length ≤ 1048576) :
    Calls Try.prog 32 #[.slice A R.length c, .slice B S.length d] w (IsEq (R = S) w) := by
  have hu := Try.underlying70
  have H1 := Aside0.mk h1
  have H2 := Aside0.mk h2
  have HF := Aside0.mk hf
  have HG := Aside0.mk hg
  clear h1 h2 hf hg
  by_cases hl : R.length = S.length
  · obtain ⟨n, e1⟩ : ∃ n, R.length = n := ⟨_, rfl⟩
    have e2 : S.length = n := by omega
    rw [e1] at H1 hn hl
    rw [e2] at H2 hn2 hl
    rw [e1, e2]
    have E1 := Aside0.mk e1
    have E2 := Aside0.mk e2
    clear e1 e2 hl hn2
    go_enter Try.func32, Try.ntmps32
    go_wp2
    go_loopg [13] n (fun g v w' => ∃ k : Nat, v = .int .i64 (k : Int) ∧ k + g = n ∧ Aside0 (R.take k = S.take k) ∧ Drawn0 w w')
    case atStart => exact ⟨0, rfl, by omega, ⟨rfl⟩, Drawn0.refl _⟩
    case round =>
      obtain ⟨k, rfl, hk, HT, ⟨m1, rfl⟩⟩ := hrel
      cases gk with
      | zero =>
        obtain rfl : k = n := by omega
        go_wp2
        go_ret
        refine ⟨true, rfl, ⟨fun _ => ?_, fun _ => rfl⟩, by repeat (first | exact Drawn0.refl _ | apply Drawn0.step)⟩
        have := HT.out
        rwa [List.take_of_length_le (by rw [E1.out]; omega), List.take_of_length_le (by rw [E2.out]; omega)] at this
      | succ g =>
        have hkn : k < n := by omega
        obtain ⟨ad, r, rfl, hr, hcx⟩ := rd_row (fs := seenF) H1.out E1.out hkn
        obtain ⟨bd, s, rfl, hs, hcy⟩ := rd_row (fs := seenF) H2.out E2.out hkn
        obtain ⟨x0, x1, x2, x3, rfl⟩ := seen_vals (HF.out r (List.mem_of_getElem? hr))
        obtain ⟨y0, y1, y2, y3, rfl⟩ := seen_vals (HG.out s (List.mem_of_getElem? hs))
        have cx0 : w.cell? (ad.add (k * 4)) = some (.int .i64 x0) := hcx 0 _ rfl
        have cx1 : w.cell? ⟨(ad.add (k * 4)).block, (ad.add (k * 4)).off + 1, none⟩ = some (.int .i64 x1) := by rw [← add_field _ _ _ (by omega)]; exact hcx 1 _ rfl
        have cx2 : w.cell? ⟨(ad.add (k * 4)).block, (ad.add (k * 4)).off + 2, none⟩ = some (.int .i64 x2) := by rw [← add_field _ _ _ (by omega)]; exact hcx 2 _ rfl
        have cx3 : w.cell? ⟨(ad.add (k * 4)).block, (ad.add (k * 4)).off + 3, none⟩ = some (.int .i64 x3) := by rw [← add_field _ _ _ (by omega)]; exact hcx 3 _ rfl
        have cy0 : w.cell? (bd.add (k * 4)) = some (.int .i64 y0) := hcy 0 _ rfl
        have cy1 : w.cell? ⟨(bd.add (k * 4)).block, (bd.add (k * 4)).off + 1, none⟩ = some (.int .i64 y1) := by rw [← add_field _ _ _ (by omega)]; exact hcy 1 _ rfl
        have cy2 : w.cell? ⟨(bd.add (k * 4)).block, (bd.add (k * 4)).off + 2, none⟩ = some (.int .i64 y2) := by rw [← add_field _ _ _ (by omega)]; exact hcy 2 _ rfl
        have cy3 : w.cell? ⟨(bd.add (k * 4)).block, (bd.add (k * 4)).off + 3, none⟩ = some (.int .i64 y3) := by rw [← add_field _ _ _ (by omega)]; exact hcy 3 _ rfl
        have HR := Aside0.mk hr
        have HS := Aside0.mk hs
        have HK := Aside0.mk hk
        clear hcx hcy hr hs hk
        cases hb : ((!(x0 == y0)) || ((!(x1 == y1)) || (((!(x2 == y2)) || ((!(x3 == y3)))))))
        · have HE := Aside0.mk hb
          go_wp2
          repeat (go_quiet (fail); try go_wp2)
          go_roundg g
          case measure => omega
          case rel =>
            refine ⟨k + 1, by go_num, by have := HK.out; omega, ⟨?_⟩, by repeat (first | exact Drawn0.refl _ | apply Drawn0.step)⟩
            have he := HE.out
            simp only [Bool.or_eq_false_iff, Bool.not_eq_false', beq_iff_eq] at he
            obtain ⟨q0, q1, q2, q3⟩ : x0 = y0 ∧ x1 = y1 ∧ x2 = y2 ∧ x3 = y3 := by simpa [and_assoc] using he
            subst q0
            subst q1
            subst q2
            subst q3
            exact take_eq_succ HT.out HR.out HS.out
        · have HE := Aside0.mk hb
          go_wp2
          repeat (go_quiet (fail); try go_wp2)
          go_ret
          refine ⟨false, rfl, ⟨(fun h => by cases h), fun h => absurd h (take_ne HR.out HS.out (fun e => ?_))⟩, by repeat (first | exact Drawn0.refl _ | apply Drawn0.step)⟩
          have he := HE.out
          simp only [List.cons.injEq, Value.int.injEq, Value.string.injEq, Value.bool.injEq, true_and, and_true] at e
          obtain ⟨rfl, rfl, rfl, rfl⟩ := e
          simp at he
  · have b0 : ((R.length : Int) == (S.length : Int)) = false := by rw [beq_eq_false_iff_ne]; omega
    have b1 : ((R.length : Int) != (S.length : Int)) = true := by rw [bne_iff_ne]; omega
    have b2 : (R.length == S.length) = false := by simpa using hl
    have HN := Aside0.mk hl
    clear hl
    go_enter Try.func32, Try.ntmps32
    go_wp2
    go_ret
    exact ⟨false, rfl, ⟨(fun h => by cases h), fun h => absurd (congrArg List.length h) HN.out⟩, Drawn0.refl _⟩

attribute [local go_sem high] eqA_Epoch in
set_option maxRecDepth 100000 in
set_option maxHeartbeats 4000000 in
theorem equalEpoch_c (w : World) (A B : Option Addr) (c d : Nat) (R S : List (List Value)) (h1 : ListRd w (.slice A R.length c) 3 R) (h2 : ListRd w (.slice B S.length d) 3 S) (hf : ∀ r, r ∈ R → fits epochF r) (hg : ∀ r, r ∈ S → fits epochF r) (hn : R.length ≤ 1048576) (hn2 : S.length ≤ 1048576) :
    Calls Try.prog 33 #[.slice A R.length c, .slice B S.length d] w (IsEq (R = S) w) := by
  have hu := Try.underlying72
  have H1 := Aside0.mk h1
  have H2 := Aside0.mk h2
  have HF := Aside0.mk hf
  have HG := Aside0.mk hg
  clear h1 h2 hf hg
  by_cases hl : R.length = S.length
  · obtain ⟨n, e1⟩ : ∃ n, R.length = n := ⟨_, rfl⟩
    have e2 : S.length = n := by omega
    rw [e1] at H1 hn hl
    rw [e2] at H2 hn2 hl
    rw [e1, e2]
    have E1 := Aside0.mk e1
    have E2 := Aside0.mk e2
    clear e1 e2 hl hn2
    go_enter Try.func33, Try.ntmps33
    go_wp2
    go_loopg [13] n (fun g v w' => ∃ k : Nat, v = .int .i64 (k : Int) ∧ k + g = n ∧ Aside0 (R.take k = S.take k) ∧ Drawn0 w w')
    case atStart => exact ⟨0, rfl, by omega, ⟨rfl⟩, Drawn0.refl _⟩
    case round =>
      obtain ⟨k, rfl, hk, HT, ⟨m1, rfl⟩⟩ := hrel
      cases gk with
      | zero =>
        obtain rfl : k = n := by omega
        go_wp2
        go_ret
        refine ⟨true, rfl, ⟨fun _ => ?_, fun _ => rfl⟩, by repeat (first | exact Drawn0.refl _ | apply Drawn0.step)⟩
        have := HT.out
        rwa [List.take_of_length_le (by rw [E1.out]; omega), List.take_of_length_le (by rw [E2.out]; omega)] at this
      | succ g =>
        have hkn : k < n := by omega
        obtain ⟨ad, r, rfl, hr, hcx⟩ := rd_row (fs := epochF) H1.out E1.out hkn
        obtain ⟨bd, s, rfl, hs, hcy⟩ := rd_row (fs := epochF) H2.out E2.out hkn
        obtain ⟨x0, x1, x2, rfl⟩ := epoch_vals (HF.out r (List.mem_of_getElem? hr))
        obtain ⟨y0, y1, y2, rfl⟩ := epoch_vals (HG.out s (List.mem_of_getElem? hs))
        have cx0 : w.cell? (ad.add (k * 3)) = some (.int .i64 x0) := hcx 0 _ rfl
        have cx1 : w.cell? ⟨(ad.add (k * 3)).block, (ad.add (k * 3)).off + 1, none⟩ = some (.int .i64 x1) := by rw [← add_field _ _ _ (by omega)]; exact hcx 1 _ rfl
        have cx2 : w.cell? ⟨(ad.add (k * 3)).block, (ad.add (k * 3)).off + 2, none⟩ = some (.bool x2) := by rw [← add_field _ _ _ (by omega)]; exact hcx 2 _ rfl
        have cy0 : w.cell? (bd.add (k * 3)) = some (.int .i64 y0) := hcy 0 _ rfl
        have cy1 : w.cell? ⟨(bd.add (k * 3)).block, (bd.add (k * 3)).off + 1, none⟩ = some (.int .i64 y1) := by rw [← add_field _ _ _ (by omega)]; exact hcy 1 _ rfl
        have cy2 : w.cell? ⟨(bd.add (k * 3)).block, (bd.add (k * 3)).off + 2, none⟩ = some (.bool y2) := by rw [← add_field _ _ _ (by omega)]; exact hcy 2 _ rfl
        have HR := Aside0.mk hr
        have HS := Aside0.mk hs
        have HK := Aside0.mk hk
        clear hcx hcy hr hs hk
        cases hb : ((!(x0 == y0)) || ((!(x1 == y1)) || ((!(x2 == y2)))))
        · have HE := Aside0.mk hb
          go_wp2
          repeat (go_quiet (fail); try go_wp2)
          go_roundg g
          case measure => omega
          case rel =>
            refine ⟨k + 1, by go_num, by have := HK.out; omega, ⟨?_⟩, by repeat (first | exact Drawn0.refl _ | apply Drawn0.step)⟩
            have he := HE.out
            simp only [Bool.or_eq_false_iff, Bool.not_eq_false', beq_iff_eq] at he
            obtain ⟨q0, q1, q2⟩ : x0 = y0 ∧ x1 = y1 ∧ x2 = y2 := by simpa [and_assoc] using he
            subst q0
            subst q1
            subst q2
            exact take_eq_succ HT.out HR.out HS.out
        · have HE := Aside0.mk hb
          go_wp2
          repeat (go_quiet (fail); try go_wp2)
          go_ret
          refine ⟨false, rfl, ⟨(fun h => by cases h), fun h => absurd h (take_ne HR.out HS.out (fun e => ?_))⟩, by repeat (first | exact Drawn0.refl _ | apply Drawn0.step)⟩
          have he := HE.out
          simp only [List.cons.injEq, Value.int.injEq, Value.string.injEq, Value.bool.injEq, true_and, and_true] at e
          obtain ⟨rfl, rfl, rfl⟩ := e
          simp at he
  · have b0 : ((R.length : Int) == (S.length : Int)) = false := by rw [beq_eq_false_iff_ne]; omega
    have b1 : ((R.length : Int) != (S.length : Int)) = true := by rw [bne_iff_ne]; omega
    have b2 : (R.length == S.length) = false := by simpa using hl
    have HN := Aside0.mk hl
    clear hl
    go_enter Try.func33, Try.ntmps33
    go_wp2
    go_ret
    exact ⟨false, rfl, ⟨(fun h => by cases h), fun h => absurd (congrArg List.length h) HN.out⟩, Drawn0.refl _⟩

end Go.Proofs.Ytcbehfbfaonanaa.Wr
end

/- Guarded operations (a chain of '&&' or of '||'), carried out in blocks, over a frame that is known at some slots alone. -/
section
namespace Go.Proofs.Ytcbehfbfaonanaa.Wr
open Go.RowKit Go.Proofs.YtcbehfbfaonanaaW.PrintWords Go.Proofs.YtcbehfbfaonanaaW.PrintLast Go.Proofs.YtcbehfbfaonanaaW.PrintMore Go.Proofs.Ytcbehfbfaonanaa.Pk
set_option linter.unusedVariables false
set_option linter.unusedSimpArgs false

theorem dblk {w w' : World} {g : Nat} {o : Obj} (h : Drawn0 w w') (hb : w.heap[g]? = some o) : w'.heap[g]? = some o := by
  obtain ⟨n, rfl⟩ := h.out
  exact hb
/-- Slot i holds v. -/
def Has (a : Act) (i : Nat) (v : Value) : Prop := a.tmps[i]? = some v
theorem Has.eval {a : Act} {i : Nat} {v : Value} (h : Has a i v) : a.eval (.tmp i) = v := by
  unfold Has at h
  have hl := (Array.getElem?_eq_some_iff.1 h).1
  show a.tmps.getD i undef = v
  rw [Array.getD_eq_getD_getElem?, h]; rfl
theorem Has.same {a : Act} {i : Nat} {v : Value} (h : i < a.tmps.size) : Has (a.put (some i) v) i v := by
  unfold Has
  show (a.tmps.setIfInBounds i v)[i]? = some v
  rw [Array.getElem?_setIfInBounds_self_of_lt h]
theorem Has.far {a : Act} {i d : Nat} {v u : Value} (h : Has a i v) (hn : d ≠ i) : Has (a.put (some d) u) i v := by
  unfold Has at h ⊢
  show (a.tmps.setIfInBounds d u)[i]? = some v
  rw [Array.getElem?_setIfInBounds_ne hn, h]
theorem size_put (a : Act) (d : Option Nat) (u : Value) : (a.put d u).tmps.size = a.tmps.size := by
  cases d with
  | none => rfl
  | some d => show (a.tmps.setIfInBounds d u).size = _; simp
theorem defers_put (a : Act) (d : Option Nat) (u : Value) : (a.put d u).defers = a.defers := by cases d <;> rfl
theorem run_assign {P : Program} {W : World} {o : Oper} {ρ : Operand → Value} {x : Operand} {v : Value} (ho : o.op = .assign x) (h : ρ x = v) : (execOp ρ o).run P W = .ok (.value v) W := by
  unfold execOp
  simp only [ho, h]
  rfl
theorem results_one {fn : Func} {t : Tmp} {a : Act} {v : Value} {P : Program} {w : World} (hf : fn.results = #[.tmp t]) (h : Has a t v) : (results fn a.tmps).run P w = .ok v w := by
  rw [results_tmp hf]
  have : a.tmps.getD t undef = v := h.eval
  rw [this]
/-- What a block of operations leaves oas it was. -/
structure Fr (n lo : Nat) (a a' : Act) : Prop where
  size : a'.tmps.size = n
  old : ∀ i v, i < lo → Has a i v → Has a' i v
  defers : a'.defers = a.defers
theorem Fr.refl {n lo : Nat} {a : Act} (h : a.tmps.size = n) : Fr n lo a a := ⟨h, fun _ _ _ h => h, rfl⟩
theorem Fr.put {n lo : Nat} {a a' : Act} (h : Fr n lo a a') {d : Nat} (hd : lo ≤ d) (v : Value) : Fr n lo a (a'.put (some d) v) :=
  ⟨(size_put _ _ _).trans h.size, fun i u hi hu => (h.old i u hi hu).far (by omega), (defers_put _ _ _).trans h.defers⟩
theorem Fr.trans {n lo lo' : Nat} {a b c : Act} (h : Fr n lo a b) (k : Fr n lo' b c) (hl : lo ≤ lo') : Fr n lo a c :=
  ⟨k.size, fun i v hi hv => k.old i v (by omega) (h.old i v hi hv), k.defers.trans h.defers⟩
section
variable {P : Program} {ops : Array Oper} {rest : List Oper} {Q : Exit → Act → World → Prop} {W : World} {a : Act} {o : Oper}
/-- An operation that yields. -/
theorem step_val {v : Value} {w1 : World} (hg : o.guard = none) (hrun : (execOp a.eval o).run P W = .ok (.value v) w1) (h : wpList P ops Q rest (a.put o.dst v) w1) : wpList P ops Q (o :: rest) a W := Kd.event_run hg hrun h
/-- The same, behind a guard that wants it. -/
theorem step_in {v : Value} {w1 : World} {j m : Nat} {b : Bool} (hg : o.guard = some (j, b)) (hj : (ops[j]?.bind (·.dst)) = some m) (hm : Has a m (.bool b)) (hrun : (execOp a.eval o).run P W = .ok (.value v) w1) (h : wpList P ops Q rest (a.put o.dst v) w1) : wpList P ops Q (o :: rest) a W := by
  refine gate_guard ?_ (step_val rfl ?_ h)
  · unfold Region.wanted yielded
    rw [hg]
    simp only [hj, Option.bind_some]
    rw [hm]
    simp
  · exact hrun
/-- Behind a guard that doesn't. -/
theorem step_out {j m : Nat} {b : Bool} (hg : o.guard = some (j, b)) (hj : (ops[j]?.bind (·.dst)) = some m) (hm : Has a m (.bool (!b))) (h : wpList P ops Q rest (a.put o.dst undef) W) : wpList P ops Q (o :: rest) a W := by
  refine skip_guard ?_ h
  unfold Region.wanted yielded
  rw [hg]
  simp only [hj, Option.bind_some]
  rw [hm]
  cases b <;> rfl
variable {n d p j : Nat} {b r e : Bool} {o1 o2 o3 o4 o5 o6 o7 : Oper} {A1 A2 v1 v2 : Value}
/-- One link of a chain: two fields compared, if what stands ahead wants it. -/
theorem cmp_block (hd : d + 6 < n) (hn : a.tmps.size = n) (hp : Has a p (.bool r)) {P1 P2 : Value} (h2 : Has a 2 P1) (h3 : Has a 3 P2) (hp2 : 3 < d) (hpd : p < d)
    (q1 : o1.op = .move (.tmp p) ∧ o1.dst = some d ∧ o1.guard = none) (q2 : o2.dst = some (d + 1) ∧ o2.guard = some (j, b)) (q3 : o3.dst = some (d + 2) ∧ o3.guard = some (j, b)) (q4 : o4.dst = some (d + 3) ∧ o4.guard = some (j, b)) (q5 : o5.dst = some (d + 4) ∧ o5.guard = some (j, b)) (q6 : o6.dst = some (d + 5) ∧ o6.guard = some (j, b)) (q7 : o7.dst = some (d + 6) ∧ o7.guard = none) (hj : (ops[j]?.bind (·.dst)) = some d)
    (x2 : ∀ ρ : Operand → Value, ρ (.tmp 2) = P1 → (execOp ρ o2).run P W = .ok (.value A1) W) (x3 : ∀ ρ : Operand → Value, ρ (.tmp (d + 1)) = A1 → (execOp ρ o3).run P W = .ok (.value v1) W)
    (x4 : ∀ ρ : Operand → Value, ρ (.tmp 3) = P2 → (execOp ρ o4).run P W = .ok (.value A2) W) (x5 : ∀ ρ : Operand → Value, ρ (.tmp (d + 3)) = A2 → (execOp ρ o5).run P W = .ok (.value v2) W)
    (x6 : ∀ ρ : Operand → Value, ρ (.tmp (d + 2)) = v1 → ρ (.tmp (d + 4)) = v2 → (execOp ρ o6).run P W = .ok (.value (.bool e)) W)
    (x7 : ∀ ρ : Operand → Value, (∀ v, ρ (.const v) = v) → (ρ (.tmp d) = .bool b → ρ (.tmp (d + 5)) = .bool e → (execOp ρ o7).run P W = .ok (.value (.bool e)) W) ∧ (ρ (.tmp d) = .bool (!b) → (execOp ρ o7).run P W = .ok (.value (.bool (!b))) W))
    (h : ∀ a' r', Fr n d a a' → Has a' (d + 6) (.bool r') → (r' = b ↔ r = b ∧ e = b) → wpList P ops Q rest a' W) : wpList P ops Q (o1 :: o2 :: o3 :: o4 :: o5 :: o6 :: o7 :: rest) a W := by
  refine step_val q1.2.2 (v := .bool r) (w1 := W) ?_ ?_
  · unfold execOp; simp only [q1.1, hp.eval]; rfl
  rw [q1.2.1]
  have f1 : Fr n d a (a.put (some d) (.bool r)) := (Fr.refl hn).put (Nat.le_refl _) _
  have m1 : Has (a.put (some d) (.bool r)) d (.bool r) := Has.same (by omega)
  generalize a.put (some d) (.bool r) = a1 at *
  by_cases hr : r = b
  · subst hr
    refine step_in q2.2 hj m1 (x2 _ (f1.old 2 _ (by omega) h2).eval) ?_
    rw [q2.1]
    have f2 := f1.put (d := d + 1) (by omega) A1
    have m2 : Has (a1.put (some (d + 1)) A1) (d + 1) A1 := Has.same (by rw [f1.size]; omega)
    have g2 : Has (a1.put (some (d + 1)) A1) d (.bool r) := m1.far (by omega)
    generalize a1.put (some (d + 1)) A1 = a2 at *
    refine step_in q3.2 hj g2 (x3 _ m2.eval) ?_
    rw [q3.1]
    have f3 := f2.put (d := d + 2) (by omega) v1
    have m3 : Has (a2.put (some (d + 2)) v1) (d + 2) v1 := Has.same (by rw [f2.size]; omega)
    have g3 : Has (a2.put (some (d + 2)) v1) d (.bool r) := g2.far (by omega)
    generalize a2.put (some (d + 2)) v1 = a3 at *
    refine step_in q4.2 hj g3 (x4 _ (f3.old 3 _ (by omega) h3).eval) ?_
    rw [q4.1]
    have f4 := f3.put (d := d + 3) (by omega) A2
    have m4 : Has (a3.put (some (d + 3)) A2) (d + 3) A2 := Has.same (by rw [f3.size]; omega)
    have g4 : Has (a3.put (some (d + 3)) A2) d (.bool r) := g3.far (by omega)
    have k4 : Has (a3.put (some (d + 3)) A2) (d + 2) v1 := m3.far (by omega)
    generalize a3.put (some (d + 3)) A2 = a4 at *
    refine step_in q5.2 hj g4 (x5 _ m4.eval) ?_
    rw [q5.1]
    have f5 := f4.put (d := d + 4) (by omega) v2
    have m5 : Has (a4.put (some (d + 4)) v2) (d + 4) v2 := Has.same (by rw [f4.size]; omega)
    have g5 : Has (a4.put (some (d + 4)) v2) d (.bool r) := g4.far (by omega)
    have k5 : Has (a4.put (some (d + 4)) v2) (d + 2) v1 := k4.far (by omega)
    generalize a4.put (some (d + 4)) v2 = a5 at *
    refine step_in q6.2 hj g5 (x6 _ k5.eval m5.eval) ?_
    rw [q6.1]
    have f6 := f5.put (d := d + 5) (by omega) (.bool e)
    have m6 : Has (a5.put (some (d + 5)) (.bool e)) (d + 5) (.bool e) := Has.same (by rw [f5.size]; omega)
    have g6 : Has (a5.put (some (d + 5)) (.bool e)) d (.bool r) := g5.far (by omega)
    generalize a5.put (some (d + 5)) (.bool e) = a6 at *
    refine step_val q7.2 ((x7 _ (fun _ => rfl)).1 g6.eval m6.eval) ?_
    rw [q7.1]
    exact h _ e (f6.put (by omega) _) (Has.same (by rw [f6.size]; omega)) (by simp)
  · have hrb : r = !b := by cases r <;> cases b <;> simp_all
    subst hrb
    refine step_out q2.2 hj m1 ?_
    rw [q2.1]
    have f2 := f1.put (d := d + 1) (by omega) undef
    have g2 : Has (a1.put (some (d + 1)) undef) d (.bool (!b)) := m1.far (by omega)
    generalize a1.put (some (d + 1)) undef = a2 at *
    refine step_out q3.2 hj g2 ?_
    rw [q3.1]
    have f3 := f2.put (d := d + 2) (by omega) undef
    have g3 : Has (a2.put (some (d + 2)) undef) d (.bool (!b)) := g2.far (by omega)
    generalize a2.put (some (d + 2)) undef = a3 at *
    refine step_out q4.2 hj g3 ?_
    rw [q4.1]
    have f4 := f3.put (d := d + 3) (by omega) undef
    have g4 : Has (a3.put (some (d + 3)) undef) d (.bool (!b)) := g3.far (by omega)
    generalize a3.put (some (d + 3)) undef = a4 at *
    refine step_out q5.2 hj g4 ?_
    rw [q5.1]
    have f5 := f4.put (d := d + 4) (by omega) undef
    have g5 : Has (a4.put (some (d + 4)) undef) d (.bool (!b)) := g4.far (by omega)
    generalize a4.put (some (d + 4)) undef = a5 at *
    refine step_out q6.2 hj g5 ?_
    rw [q6.1]
    have f6 := f5.put (d := d + 5) (by omega) undef
    have g6 : Has (a5.put (some (d + 5)) undef) d (.bool (!b)) := g5.far (by omega)
    generalize a5.put (some (d + 5)) undef = a6 at *
    refine step_val q7.2 ((x7 _ (fun _ => rfl)).2 g6.eval) ?_
    rw [q7.1]
    exact h _ (!b) (f6.put (by omega) _) (Has.same (by rw [f6.size]; omega)) (by simp)
/-- The first link. -/
theorem cmp_first (hd : d + 4 < n) (hn : a.tmps.size = n) {P1 P2 : Value} (h2 : Has a 2 P1) (h3 : Has a 3 P2) (hp2 : 3 < d)
    (q2 : o2.dst = some d ∧ o2.guard = none) (q3 : o3.dst = some (d + 1) ∧ o3.guard = none) (q4 : o4.dst = some (d + 2) ∧ o4.guard = none) (q5 : o5.dst = some (d + 3) ∧ o5.guard = none) (q6 : o6.dst = some (d + 4) ∧ o6.guard = none)
    (x2 : ∀ ρ : Operand → Value, ρ (.tmp 2) = P1 → (execOp ρ o2).run P W = .ok (.value A1) W) (x3 : ∀ ρ : Operand → Value, ρ (.tmp d) = A1 → (execOp ρ o3).run P W = .ok (.value v1) W)
    (x4 : ∀ ρ : Operand → Value, ρ (.tmp 3) = P2 → (execOp ρ o4).run P W = .ok (.value A2) W) (x5 : ∀ ρ : Operand → Value, ρ (.tmp (d + 2)) = A2 → (execOp ρ o5).run P W = .ok (.value v2) W)
    (x6 : ∀ ρ : Operand → Value, ρ (.tmp (d + 1)) = v1 → ρ (.tmp (d + 3)) = v2 → (execOp ρ o6).run P W = .ok (.value (.bool e)) W)
    (h : ∀ a', Fr n d a a' → Has a' (d + 4) (.bool e) → wpList P ops Q rest a' W) : wpList P ops Q (o2 :: o3 :: o4 :: o5 :: o6 :: rest) a W := by
  have f1 : Fr n d a a := Fr.refl hn
  refine step_val q2.2 (x2 _ h2.eval) ?_
  rw [q2.1]
  have f2 := f1.put (d := d) (by omega) A1
  have m2 : Has (a.put (some d) A1) d A1 := Has.same (by omega)
  generalize a.put (some d) A1 = a2 at *
  refine step_val q3.2 (x3 _ m2.eval) ?_
  rw [q3.1]
  have f3 := f2.put (d := d + 1) (by omega) v1
  have m3 : Has (a2.put (some (d + 1)) v1) (d + 1) v1 := Has.same (by rw [f2.size]; omega)
  generalize a2.put (some (d + 1)) v1 = a3 at *
  refine step_val q4.2 (x4 _ (f3.old 3 _ (by omega) h3).eval) ?_
  rw [q4.1]
  have f4 := f3.put (d := d + 2) (by omega) A2
  have m4 : Has (a3.put (some (d + 2)) A2) (d + 2) A2 := Has.same (by rw [f3.size]; omega)
  have k4 : Has (a3.put (some (d + 2)) A2) (d + 1) v1 := m3.far (by omega)
  generalize a3.put (some (d + 2)) A2 = a4 at *
  refine step_val q5.2 (x5 _ m4.eval) ?_
  rw [q5.1]
  have f5 := f4.put (d := d + 3) (by omega) v2
  have m5 : Has (a4.put (some (d + 3)) v2) (d + 3) v2 := Has.same (by rw [f4.size]; omega)
  have k5 : Has (a4.put (some (d + 3)) v2) (d + 1) v1 := k4.far (by omega)
  generalize a4.put (some (d + 3)) v2 = a5 at *
  refine step_val q6.2 (x6 _ k5.eval m5.eval) ?_
  rw [q6.1]
  exact h _ (f5.put (by omega) _) (Has.same (by rw [f5.size]; omega))
/-- A link that calls: two lists compared, if what stands ahead wants it. -/
theorem call_block {f : FuncId} {fn : Func} {ts : Array TypeId} {p' : Prop} (hf : P.funcs[f]? = some fn) (hname : (fn.name == "runtime.NumGoroutine") = false) (hb : fn.body.isSome = true) (hd : d + 6 < n) (hn : a.tmps.size = n) (hp : Has a p (.bool r)) {P1 P2 : Value} (h2 : Has a 2 P1) (h3 : Has a 3 P2) (hp2 : 3 < d) (hpd : p < d)
    (q1 : o1.op = .move (.tmp p) ∧ o1.dst = some d ∧ o1.guard = none) (q2 : o2.dst = some (d + 1) ∧ o2.guard = some (j, true)) (q3 : o3.dst = some (d + 2) ∧ o3.guard = some (j, true)) (q4 : o4.dst = some (d + 3) ∧ o4.guard = some (j, true)) (q5 : o5.dst = some (d + 4) ∧ o5.guard = some (j, true)) (q6 : o6.dst = some (d + 5) ∧ o6.guard = some (j, true)) (q7 : o7.dst = some (d + 6) ∧ o7.guard = none) (hj : (ops[j]?.bind (·.dst)) = some d)
    (x2 : ∀ ρ : Operand → Value, ρ (.tmp 2) = P1 → (execOp ρ o2).run P W = .ok (.value A1) W) (x3 : ∀ ρ : Operand → Value, ρ (.tmp (d + 1)) = A1 → (execOp ρ o3).run P W = .ok (.value v1) W)
    (x4 : ∀ ρ : Operand → Value, ρ (.tmp 3) = P2 → (execOp ρ o4).run P W = .ok (.value A2) W) (x5 : ∀ ρ : Operand → Value, ρ (.tmp (d + 3)) = A2 → (execOp ρ o5).run P W = .ok (.value v2) W)
    (x6 : o6.op = .call { callee := .value (.func f), args := #[.tmp (d + 2), .tmp (d + 4)], argTypes := ts }) (hC : Calls P f #[v1, v2] W (IsEq p' W))
    (x7 : ∀ (ρ : Operand → Value) (e : Bool) (W : World), (∀ v, ρ (.const v) = v) → (ρ (.tmp d) = .bool true → ρ (.tmp (d + 5)) = .bool e → (execOp ρ o7).run P W = .ok (.value (.bool e)) W) ∧ (ρ (.tmp d) = .bool false → (execOp ρ o7).run P W = .ok (.value (.bool false)) W))
    (h : ∀ a' r' W', Fr n d a a' → Has a' (d + 6) (.bool r') → (r' = true ↔ r = true ∧ p') → Drawn0 W W' → wpList P ops Q rest a' W') : wpList P ops Q (o1 :: o2 :: o3 :: o4 :: o5 :: o6 :: o7 :: rest) a W := by
  refine step_val q1.2.2 (v := .bool r) (w1 := W) ?_ ?_
  · unfold execOp; simp only [q1.1, hp.eval]; rfl
  rw [q1.2.1]
  have f1 : Fr n d a (a.put (some d) (.bool r)) := (Fr.refl hn).put (Nat.le_refl _) _
  have m1 : Has (a.put (some d) (.bool r)) d (.bool r) := Has.same (by omega)
  generalize a.put (some d) (.bool r) = a1 at *
  cases r
  · refine step_out q2.2 hj m1 ?_
    rw [q2.1]
    have f2 := f1.put (d := d + 1) (by omega) undef
    have g2 : Has (a1.put (some (d + 1)) undef) d (.bool false) := m1.far (by omega)
    generalize a1.put (some (d + 1)) undef = a2 at *
    refine step_out q3.2 hj g2 ?_
    rw [q3.1]
    have f3 := f2.put (d := d + 2) (by omega) undef
    have g3 : Has (a2.put (some (d + 2)) undef) d (.bool false) := g2.far (by omega)
    generalize a2.put (some (d + 2)) undef = a3 at *
    refine step_out q4.2 hj g3 ?_
    rw [q4.1]
    have f4 := f3.put (d := d + 3) (by omega) undef
    have g4 : Has (a3.put (some (d + 3)) undef) d (.bool false) := g3.far (by omega)
    generalize a3.put (some (d + 3)) undef = a4 at *
    refine step_out q5.2 hj g4 ?_
    rw [q5.1]
    have f5 := f4.put (d := d + 4) (by omega) undef
    have g5 : Has (a4.put (some (d + 4)) undef) d (.bool false) := g4.far (by omega)
    generalize a4.put (some (d + 4)) undef = a5 at *
    refine step_out q6.2 hj g5 ?_
    rw [q6.1]
    have f6 := f5.put (d := d + 5) (by omega) undef
    have g6 : Has (a5.put (some (d + 5)) undef) d (.bool false) := g5.far (by omega)
    generalize a5.put (some (d + 5)) undef = a6 at *
    refine step_val q7.2 ((x7 _ false W (fun _ => rfl)).2 g6.eval) ?_
    rw [q7.1]
    exact h _ false W (f6.put (by omega) _) (Has.same (by rw [f6.size]; omega)) (by simp) (Drawn0.refl _)
  · refine step_in q2.2 hj m1 (x2 _ (f1.old 2 _ (by omega) h2).eval) ?_
    rw [q2.1]
    have f2 := f1.put (d := d + 1) (by omega) A1
    have m2 : Has (a1.put (some (d + 1)) A1) (d + 1) A1 := Has.same (by rw [f1.size]; omega)
    have g2 : Has (a1.put (some (d + 1)) A1) d (.bool true) := m1.far (by omega)
    generalize a1.put (some (d + 1)) A1 = a2 at *
    refine step_in q3.2 hj g2 (x3 _ m2.eval) ?_
    rw [q3.1]
    have f3 := f2.put (d := d + 2) (by omega) v1
    have m3 : Has (a2.put (some (d + 2)) v1) (d + 2) v1 := Has.same (by rw [f2.size]; omega)
    have g3 : Has (a2.put (some (d + 2)) v1) d (.bool true) := g2.far (by omega)
    generalize a2.put (some (d + 2)) v1 = a3 at *
    refine step_in q4.2 hj g3 (x4 _ (f3.old 3 _ (by omega) h3).eval) ?_
    rw [q4.1]
    have f4 := f3.put (d := d + 3) (by omega) A2
    have m4 : Has (a3.put (some (d + 3)) A2) (d + 3) A2 := Has.same (by rw [f3.size]; omega)
    have g4 : Has (a3.put (some (d + 3)) A2) d (.bool true) := g3.far (by omega)
    have k4 : Has (a3.put (some (d + 3)) A2) (d + 2) v1 := m3.far (by omega)
    generalize a3.put (some (d + 3)) A2 = a4 at *
    refine step_in q5.2 hj g4 (x5 _ m4.eval) ?_
    rw [q5.1]
    have f5 := f4.put (d := d + 4) (by omega) v2
    have m5 : Has (a4.put (some (d + 4)) v2) (d + 4) v2 := Has.same (by rw [f4.size]; omega)
    have g5 : Has (a4.put (some (d + 4)) v2) d (.bool true) := g4.far (by omega)
    have k5 : Has (a4.put (some (d + 4)) v2) (d + 2) v1 := k4.far (by omega)
    generalize a4.put (some (d + 4)) v2 = a5 at *
    refine gate_guard ?_ ?_
    · unfold Region.wanted yielded
      rw [q6.2]
      simp only [hj, Option.bind_some]
      rw [show a5.tmps[d]? = _ from g5]
      rfl
    refine goesL_ (some (d + 5)) q6.1 rfl hf hname hb #[v1, v2] x6 (by simp [k5.eval, m5.eval]) (hC.mono ?_)
    rintro e w' ⟨r', rfl, hr', hD⟩
    refine ⟨_, rfl, ?_⟩
    have f6 := f5.put (d := d + 5) (by omega) (.bool r')
    have m6 : Has (a5.put (some (d + 5)) (.bool r')) (d + 5) (.bool r') := Has.same (by rw [f5.size]; omega)
    have g6 : Has (a5.put (some (d + 5)) (.bool r')) d (.bool true) := g5.far (by omega)
    generalize a5.put (some (d + 5)) (.bool r') = a6 at *
    refine step_val q7.2 ((x7 _ r' w' (fun _ => rfl)).1 g6.eval m6.eval) ?_
    rw [q7.1]
    exact h _ r' w' (f6.put (by omega) _) (Has.same (by rw [f6.size]; omega)) (by simp [hr']) hD
end
end Go.Proofs.Ytcbehfbfaonanaa.Wr
end

/- Two messages compared: meridian/wire.Same. -/
section
namespace Go.Proofs.Ytcbehfbfaonanaa.Wr
open Go.RowKit Go.Proofs.YtcbehfbfaonanaaW.PrintWords Go.Proofs.YtcbehfbfaonanaaW.PrintLast Go.Proofs.YtcbehfbfaonanaaW.PrintMore Go.Proofs.Ytcbehfbfaonanaa.Pk
set_option linter.unusedVariables false
set_option linter.unusedSimpArgs false

/-- Two messages are the same. -/
def MEq (a b : M) : Prop := (∀ i, scalar i = true → a.c i = b.c i) ∧ ∀ j fs, (j, fs) ∈ lists → a.L j = b.L j
def IsEqB (p : Prop) (w : World) (e : Ending) (w' : World) : Prop := ∃ r, e = .returned (.bool r) ∧ (r = true ↔ p) ∧ Below w.heap.size w w'
/-- The frame while two boxed messages are compared. -/
structure St (n : Nat) (a : Act) (g1 g2 : Nat) : Prop where
  size : a.tmps.size = n
  h2 : Has a 2 (.pointer (some ⟨g1, 0, none⟩))
  h3 : Has a 3 (.pointer (some ⟨g2, 0, none⟩))
  defers : a.defers = []
theorem St.step {n d g1 g2 : Nat} {a a' : Act} (h : St n a g1 g2) (hf : Fr n d a a') (hd : 3 < d) : St n a' g1 g2 := ⟨hf.size, hf.old 2 _ (by omega) h.h2, hf.old 3 _ hd h.h3, hf.defers.trans h.defers⟩
theorem wp_frame {P : Program} {ops : Array Oper} {Q : Exit → Act → World → Prop} {l : List Oper} {a : Act} {W : World} {n g1 g2 : Nat} (h0 : St n a g1 g2) (h : ∀ a, St n a g1 g2 → wpList P ops Q l a W) : wpList P ops Q l a W := h a h0
theorem meq_scalar {c d : Nat → Value} {i : Nat} (hi : scalar i = true) (h : c 0 = d 0 ∧ c 1 = d 1 ∧ c 2 = d 2 ∧ c 4 = d 4 ∧ c 5 = d 5 ∧ c 6 = d 6 ∧ c 7 = d 7 ∧ c 11 = d 11 ∧ c 12 = d 12 ∧ c 13 = d 13 ∧ c 14 = d 14 ∧ c 15 = d 15 ∧ c 16 = d 16 ∧ c 17 = d 17 ∧ c 18 = d 18 ∧ c 19 = d 19 ∧ c 20 = d 20 ∧ c 21 = d 21 ∧ c 22 = d 22 ∧ c 23 = d 23 ∧ c 24 = d 24 ∧ c 25 = d 25) : c i = d i := by
  obtain ⟨h0, h1, h2, h4, h5, h6, h7, h11, h12, h13, h14, h15, h16, h17, h18, h19, h20, h21, h22, h23, h24, h25⟩ := h
  have hlt : i < 26 := by unfold scalar at hi; simp only [Bool.and_eq_true, decide_eq_true_eq] at hi; exact hi.1
  have n3 : i ≠ 3 := fun e => by subst e; cases hi
  have n8 : i ≠ 8 := fun e => by subst e; cases hi
  have n9 : i ≠ 9 := fun e => by subst e; cases hi
  have n10 : i ≠ 10 := fun e => by subst e; cases hi
  have : i = 0 ∨ i = 1 ∨ i = 2 ∨ i = 4 ∨ i = 5 ∨ i = 6 ∨ i = 7 ∨ i = 11 ∨ i = 12 ∨ i = 13 ∨ i = 14 ∨ i = 15 ∨ i = 16 ∨ i = 17 ∨ i = 18 ∨ i = 19 ∨ i = 20 ∨ i = 21 ∨ i = 22 ∨ i = 23 ∨ i = 24 ∨ i = 25 := by omega
  rcases this with rfl | rfl | rfl | rfl | rfl | rfl | rfl | rfl | rfl | rfl | rfl | rfl | rfl | rfl | rfl | rfl | rfl | rfl | rfl | rfl | rfl | rfl <;> assumption

attribute [local go_sem high] eqA_Pos eqA_Value in
set_option maxRecDepth 100000 in
set_option maxHeartbeats 8000000 in
theorem wireSame_c (w : World) (va vb : Value) (a b : M) (sa sb : Nat → Value) (ha : MsgRd w va a sa) (hb : MsgRd w vb b sb) (hsa : ∀ j, (a.L j).length ≤ 1048576) (hsb : ∀ j, (b.L j).length ≤ 1048576) :
    Calls Try.prog 17 #[va, vb] w (IsEqB (MEq a b) w) := by
  obtain ⟨ea, ta, fa, ra⟩ := ha
  obtain ⟨eb, tb, fb, rb⟩ := hb
  obtain ⟨x0, e0⟩ := ta 0 rfl
  obtain ⟨y0, g0⟩ := tb 0 rfl
  obtain ⟨x1, e1⟩ := ta 1 rfl
  obtain ⟨y1, g1⟩ := tb 1 rfl
  obtain ⟨x2, e2⟩ := ta 2 rfl
  obtain ⟨y2, g2⟩ := tb 2 rfl
  obtain ⟨x4, e4⟩ := ta 4 rfl
  obtain ⟨y4, g4⟩ := tb 4 rfl
  obtain ⟨x5, e5⟩ := ta 5 rfl
  obtain ⟨y5, g5⟩ := tb 5 rfl
  obtain ⟨x6, e6⟩ := ta 6 rfl
  obtain ⟨y6, g6⟩ := tb 6 rfl
  obtain ⟨x7, e7⟩ := ta 7 rfl
  obtain ⟨y7, g7⟩ := tb 7 rfl
  obtain ⟨x11, e11⟩ := ta 11 rfl
  obtain ⟨y11, g11⟩ := tb 11 rfl
  obtain ⟨x12, e12⟩ := ta 12 rfl
  obtain ⟨y12, g12⟩ := tb 12 rfl
  obtain ⟨x13, e13⟩ := ta 13 rfl
  obtain ⟨y13, g13⟩ := tb 13 rfl
  obtain ⟨x14, e14⟩ := ta 14 rfl
  obtain ⟨y14, g14⟩ := tb 14 rfl
  obtain ⟨x15, e15⟩ := ta 15 rfl
  obtain ⟨y15, g15⟩ := tb 15 rfl
  obtain ⟨x16, e16⟩ := ta 16 rfl
  obtain ⟨y16, g16⟩ := tb 16 rfl
  obtain ⟨x17, e17⟩ := ta 17 rfl
  obtain ⟨y17, g17⟩ := tb 17 rfl
  obtain ⟨x18, e18⟩ := ta 18 rfl
  obtain ⟨y18, g18⟩ := tb 18 rfl
  obtain ⟨x19, e19⟩ := ta 19 rfl
  obtain ⟨y19, g19⟩ := tb 19 rfl
  obtain ⟨x20, e20⟩ := ta 20 rfl
  obtain ⟨y20, g20⟩ := tb 20 rfl
  obtain ⟨x21, e21⟩ := ta 21 rfl
  obtain ⟨y21, g21⟩ := tb 21 rfl
  obtain ⟨x22, e22⟩ := ta 22 rfl
  obtain ⟨y22, g22⟩ := tb 22 rfl
  obtain ⟨x23, e23⟩ := ta 23 rfl
  obtain ⟨y23, g23⟩ := tb 23 rfl
  obtain ⟨x24, e24⟩ := ta 24 rfl
  obtain ⟨y24, g24⟩ := tb 24 rfl
  obtain ⟨x25, e25⟩ := ta 25 rfl
  obtain ⟨y25, g25⟩ := tb 25 rfl
  have p3 := ra 3 entryF (by simp [lists])
  have q3 := rb 3 entryF (by simp [lists])
  have P3 := Aside0.mk p3
  have Q3 := Aside0.mk q3
  obtain ⟨A3, c3, s3, _⟩ := p3
  obtain ⟨B3, d3, t3, _⟩ := q3
  rw [s3] at P3
  rw [t3] at Q3
  have HC3 := Aside0.mk (fun (W : World) (hB : Below w.heap.size w W) => equalEntry_c W A3 B3 c3 d3 (a.L 3) (b.L 3) (P3.out.below (by simp [entryF]) (fitl fa (by simp [lists])) hB) (Q3.out.below (by simp [entryF]) (fitl fb (by simp [lists])) hB) (fa 3 entryF (by simp [lists])) (fb 3 entryF (by simp [lists])) (hsa 3) (hsb 3))
  have p8 := ra 8 pairF (by simp [lists])
  have q8 := rb 8 pairF (by simp [lists])
  have P8 := Aside0.mk p8
  have Q8 := Aside0.mk q8
  obtain ⟨A8, c8, s8, _⟩ := p8
  obtain ⟨B8, d8, t8, _⟩ := q8
  rw [s8] at P8
  rw [t8] at Q8
  have HC8 := Aside0.mk (fun (W : World) (hB : Below w.heap.size w W) => equalPair_c W A8 B8 c8 d8 (a.L 8) (b.L 8) (P8.out.below (by simp [pairF]) (fitl fa (by simp [lists])) hB) (Q8.out.below (by simp [pairF]) (fitl fb (by simp [lists])) hB) (fa 8 pairF (by simp [lists])) (fb 8 pairF (by simp [lists])) (hsa 8) (hsb 8))
  have p9 := ra 9 seenF (by simp [lists])
  have q9 := rb 9 seenF (by simp [lists])
  have P9 := Aside0.mk p9
  have Q9 := Aside0.mk q9
  obtain ⟨A9, c9, s9, _⟩ := p9
  obtain ⟨B9, d9, t9, _⟩ := q9
  rw [s9] at P9
  rw [t9] at Q9
  have HC9 := Aside0.mk (fun (W : World) (hB : Below w.heap.size w W) => equalSeen_c W A9 B9 c9 d9 (a.L 9) (b.L 9) (P9.out.below (by simp [seenF]) (fitl fa (by simp [lists])) hB) (Q9.out.below (by simp [seenF]) (fitl fb (by simp [lists])) hB) (fa 9 seenF (by simp [lists])) (fb 9 seenF (by simp [lists])) (hsa 9) (hsb 9))
  have p10 := ra 10 epochF (by simp [lists])
  have q10 := rb 10 epochF (by simp [lists])
  have P10 := Aside0.mk p10
  have Q10 := Aside0.mk q10
  obtain ⟨A10, c10, s10, _⟩ := p10
  obtain ⟨B10, d10, t10, _⟩ := q10
  rw [s10] at P10
  rw [t10] at Q10
  have HC10 := Aside0.mk (fun (W : World) (hB : Below w.heap.size w W) => equalEpoch_c W A10 B10 c10 d10 (a.L 10) (b.L 10) (P10.out.below (by simp [epochF]) (fitl fa (by simp [lists])) hB) (Q10.out.below (by simp [epochF]) (fitl fb (by simp [lists])) hB) (fa 10 epochF (by simp [lists])) (fb 10 epochF (by simp [lists])) (hsa 10) (hsb 10))
  have HEQ := Aside0.mk (show MEq a b ↔ ((x0 == y0) = true ∧ (x1 == y1) = true ∧ (x2 == y2) = true ∧ (x4 == y4 && (x5 == y5)) = true ∧ (x6 == y6) = true ∧ (x7 == y7) = true ∧ (x11 == y11 && (x12 == y12)) = true ∧ (x13 == y13) = true ∧ (x14 == y14) = true ∧ (x15 == y15) = true ∧ (x16.toList == y16.toList) = true ∧ (x17 == y17) = true ∧ (x18.toList == y18.toList) = true ∧ (x19 == y19 && (x20 == y20)) = true ∧ (x21 == y21) = true ∧ ((x22 == y22 && (x23 == y23)) && (x24 == y24 && (x25.toList == y25.toList))) = true) ∧ a.L 3 = b.L 3 ∧ a.L 8 = b.L 8 ∧ a.L 9 = b.L 9 ∧ a.L 10 = b.L 10 from by
    constructor
    · intro h
      have k0 := h.1 0 rfl
      rw [e0, g0] at k0
      simp only [Value.int.injEq, Value.string.injEq, Value.bool.injEq, true_and] at k0
      have k1 := h.1 1 rfl
      rw [e1, g1] at k1
      simp only [Value.int.injEq, Value.string.injEq, Value.bool.injEq, true_and] at k1
      have k2 := h.1 2 rfl
      rw [e2, g2] at k2
      simp only [Value.int.injEq, Value.string.injEq, Value.bool.injEq, true_and] at k2
      have k4 := h.1 4 rfl
      rw [e4, g4] at k4
      simp only [Value.int.injEq, Value.string.injEq, Value.bool.injEq, true_and] at k4
      have k5 := h.1 5 rfl
      rw [e5, g5] at k5
      simp only [Value.int.injEq, Value.string.injEq, Value.bool.injEq, true_and] at k5
      have k6 := h.1 6 rfl
      rw [e6, g6] at k6
      simp only [Value.int.injEq, Value.string.injEq, Value.bool.injEq, true_and] at k6
      have k7 := h.1 7 rfl
      rw [e7, g7] at k7
      simp only [Value.int.injEq, Value.string.injEq, Value.bool.injEq, true_and] at k7
      have k11 := h.1 11 rfl
      rw [e11, g11] at k11
      simp only [Value.int.injEq, Value.string.injEq, Value.bool.injEq, true_and] at k11
      have k12 := h.1 12 rfl
      rw [e12, g12] at k12
      simp only [Value.int.injEq, Value.string.injEq, Value.bool.injEq, true_and] at k12
      have k13 := h.1 13 rfl
      rw [e13, g13] at k13
      simp only [Value.int.injEq, Value.string.injEq, Value.bool.injEq, true_and] at k13
      have k14 := h.1 14 rfl
      rw [e14, g14] at k14
      simp only [Value.int.injEq, Value.string.injEq, Value.bool.injEq, true_and] at k14
      have k15 := h.1 15 rfl
      rw [e15, g15] at k15
      simp only [Value.int.injEq, Value.string.injEq, Value.bool.injEq, true_and] at k15
      have k16 := h.1 16 rfl
      rw [e16, g16] at k16
      simp only [Value.int.injEq, Value.string.injEq, Value.bool.injEq, true_and] at k16
      have k17 := h.1 17 rfl
      rw [e17, g17] at k17
      simp only [Value.int.injEq, Value.string.injEq, Value.bool.injEq, true_and] at k17
      have k18 := h.1 18 rfl
      rw [e18, g18] at k18
      simp only [Value.int.injEq, Value.string.injEq, Value.bool.injEq, true_and] at k18
      have k19 := h.1 19 rfl
      rw [e19, g19] at k19
      simp only [Value.int.injEq, Value.string.injEq, Value.bool.injEq, true_and] at k19
      have k20 := h.1 20 rfl
      rw [e20, g20] at k20
      simp only [Value.int.injEq, Value.string.injEq, Value.bool.injEq, true_and] at k20
      have k21 := h.1 21 rfl
      rw [e21, g21] at k21
      simp only [Value.int.injEq, Value.string.injEq, Value.bool.injEq, true_and] at k21
      have k22 := h.1 22 rfl
      rw [e22, g22] at k22
      simp only [Value.int.injEq, Value.string.injEq, Value.bool.injEq, true_and] at k22
      have k23 := h.1 23 rfl
      rw [e23, g23] at k23
      simp only [Value.int.injEq, Value.string.injEq, Value.bool.injEq, true_and] at k23
      have k24 := h.1 24 rfl
      rw [e24, g24] at k24
      simp only [Value.int.injEq, Value.string.injEq, Value.bool.injEq, true_and] at k24
      have k25 := h.1 25 rfl
      rw [e25, g25] at k25
      simp only [Value.int.injEq, Value.string.injEq, Value.bool.injEq, true_and] at k25
      refine ⟨⟨by simp [k0], by simp [k1], by simp [k2], by simp [k4, k5], by simp [k6], by simp [k7], by simp [k11, k12], by simp [k13], by simp [k14], by simp [k15], by simp [k16], by simp [k17], by simp [k18], by simp [k19, k20], by simp [k21], by simp [k22, k23, k24, k25]⟩, h.2 3 entryF (by simp [lists]), h.2 8 pairF (by simp [lists]), h.2 9 seenF (by simp [lists]), h.2 10 epochF (by simp [lists])⟩
    · rintro ⟨⟨k0, k1, k2, k3, k4, k5, k6, k7, k8, k9, k10, k11, k12, k13, k14, k15⟩, h3, h8, h9, h10⟩
      have z0 : x0 = y0 := by simpa using k0
      have z1 : x1 = y1 := by simpa using k1
      have z2 : x2 = y2 := by simpa using k2
      obtain ⟨z4, z5⟩ : x4 = y4 ∧ x5 = y5 := by simpa [and_assoc] using k3
      have z6 : x6 = y6 := by simpa using k4
      have z7 : x7 = y7 := by simpa using k5
      obtain ⟨z11, z12⟩ : x11 = y11 ∧ x12 = y12 := by simpa [and_assoc] using k6
      have z13 : x13 = y13 := by simpa using k7
      have z14 : x14 = y14 := by simpa using k8
      have z15 : x15 = y15 := by simpa using k9
      have z16 : x16.toList = y16.toList := by simpa using k10
      have z17 : x17 = y17 := by simpa using k11
      have z18 : x18.toList = y18.toList := by simpa using k12
      obtain ⟨z19, z20⟩ : x19 = y19 ∧ x20 = y20 := by simpa [and_assoc] using k13
      have z21 : x21 = y21 := by simpa using k14
      obtain ⟨z22, z23, z24, z25⟩ : x22 = y22 ∧ x23 = y23 ∧ x24 = y24 ∧ x25.toList = y25.toList := by simpa [and_assoc] using k15
      refine ⟨fun i hi => meq_scalar hi ⟨by rw [e0, g0, z0], by rw [e1, g1, z1], by rw [e2, g2, z2], by rw [e4, g4, z4], by rw [e5, g5, z5], by rw [e6, g6, z6], by rw [e7, g7, z7], by rw [e11, g11, z11], by rw [e12, g12, z12], by rw [e13, g13, z13], by rw [e14, g14, z14], by rw [e15, g15, z15], by rw [e16, g16, baToList_inj z16], by rw [e17, g17, z17], by rw [e18, g18, baToList_inj z18], by rw [e19, g19, z19], by rw [e20, g20, z20], by rw [e21, g21, z21], by rw [e22, g22, z22], by rw [e23, g23, z23], by rw [e24, g24, z24], by rw [e25, g25, baToList_inj z25]⟩, fun j fs hj => ?_⟩
      simp only [lists, List.mem_cons, Prod.mk.injEq, List.not_mem_nil, or_false] at hj
      rcases hj with ⟨rfl, _⟩ | ⟨rfl, _⟩ | ⟨rfl, _⟩ | ⟨rfl, _⟩
      · exact h3
      · exact h8
      · exact h9
      · exact h10)
  have ea' : va = .agg #[.int .i64 x0, .int .i64 x1, .int .i64 x2, .slice A3 (a.L 3).length c3, .int .i64 x4, .int .i64 x5, .int .i64 x6, .int .i64 x7, .slice A8 (a.L 8).length c8, .slice A9 (a.L 9).length c9, .slice A10 (a.L 10).length c10, .int .i64 x11, .int .i64 x12, .bool x13, .int .i64 x14, .int .i64 x15, .string x16, .bool x17, .string x18, .int .i64 x19, .int .i64 x20, .int .i64 x21, .int .i64 x22, .int .i64 x23, .bool x24, .string x25] := by rw [ea]; simp only [msgV, msgC, e0, e1, e2, e4, e5, e6, e7, e11, e12, e13, e14, e15, e16, e17, e18, e19, e20, e21, e22, e23, e24, e25, s3, s8, s9, s10]
  have eb' : vb = .agg #[.int .i64 y0, .int .i64 y1, .int .i64 y2, .slice B3 (b.L 3).length d3, .int .i64 y4, .int .i64 y5, .int .i64 y6, .int .i64 y7, .slice B8 (b.L 8).length d8, .slice B9 (b.L 9).length d9, .slice B10 (b.L 10).length d10, .int .i64 y11, .int .i64 y12, .bool y13, .int .i64 y14, .int .i64 y15, .string y16, .bool y17, .string y18, .int .i64 y19, .int .i64 y20, .int .i64 y21, .int .i64 y22, .int .i64 y23, .bool y24, .string y25] := by rw [eb]; simp only [msgV, msgC, g0, g1, g2, g4, g5, g6, g7, g11, g12, g13, g14, g15, g16, g17, g18, g19, g20, g21, g22, g23, g24, g25, t3, t8, t9, t10]
  rw [ea', eb']
  clear ea eb ea' eb' ta tb fa fb ra rb hsa hsb e0 g0 e1 g1 e2 g2 e4 g4 e5 g5 e6 g6 e7 g7 e11 g11 e12 g12 e13 g13 e14 g14 e15 g15 e16 g16 e17 g17 e18 g18 e19 g19 e20 g20 e21 g21 e22 g22 e23 g23 e24 g24 e25 g25 s3 t3 P3 Q3 s8 t8 P8 Q8 s9 t9 P9 Q9 s10 t10 P10 Q10
  go_enter Try.func17, Try.ntmps17
  go_upto_region 1 with (first | ((with_reducible refine gate_dst (N := 2) rfl ?_); refine box_row rfl 35 (.tmp 0) rfl #[.int .i64 x0, .int .i64 x1, .int .i64 x2, .slice A3 (a.L 3).length c3, .int .i64 x4, .int .i64 x5, .int .i64 x6, .int .i64 x7, .slice A8 (a.L 8).length c8, .slice A9 (a.L 9).length c9, .slice A10 (a.L 10).length c10, .int .i64 x11, .int .i64 x12, .bool x13, .int .i64 x14, .int .i64 x15, .string x16, .bool x17, .string x18, .int .i64 x19, .int .i64 x20, .int .i64 x21, .int .i64 x22, .int .i64 x23, .bool x24, .string x25] rfl ?_; intro g1 w1 hg hbox hb1; have HB1 := Aside0.mk hb1; have HX0 := Aside0.mk hbox; clear hb1 hg hbox) | ((with_reducible refine gate_dst (N := 3) rfl ?_); refine box_row rfl 35 (.tmp 1) rfl #[.int .i64 y0, .int .i64 y1, .int .i64 y2, .slice B3 (b.L 3).length d3, .int .i64 y4, .int .i64 y5, .int .i64 y6, .int .i64 y7, .slice B8 (b.L 8).length d8, .slice B9 (b.L 9).length d9, .slice B10 (b.L 10).length d10, .int .i64 y11, .int .i64 y12, .bool y13, .int .i64 y14, .int .i64 y15, .string y16, .bool y17, .string y18, .int .i64 y19, .int .i64 y20, .int .i64 y21, .int .i64 y22, .int .i64 y23, .bool y24, .string y25] rfl ?_; intro g2 w2 hg hbox hb1; have HX1 := Aside0.mk ((hb1.block g1 (blk_lt HX0.out)).trans HX0.out); have HX2 := Aside0.mk hbox; have HBW := Aside0.mk (HB1.out.trans (hb1.mono HB1.out.size)); clear hb1 hg hbox HX0 HB1))
  refine wp_region_lit ?_
  refine wp_frame (n := 143) (g1 := g1) (g2 := g2) ⟨rfl, rfl, rfl, rfl⟩ ?_
  intro a0 S0
  have q0 := blk_cell HX1.out 0
  simp only [List.getElem?_toArray, List.getElem?_cons_zero, List.getElem?_cons_succ] at q0
  have r0 := blk_cell HX2.out 0
  simp only [List.getElem?_toArray, List.getElem?_cons_zero, List.getElem?_cons_succ] at r0
  refine cmp_first (n := 143) (d := 5) (A1 := (.pointer (some ⟨g1, 0, none⟩))) (A2 := (.pointer (some ⟨g2, 0, none⟩))) (v1 := (.int .i64 x0)) (v2 := (.int .i64 y0)) (e := (x0 == y0)) (by omega) S0.size S0.h2 S0.h3 (by omega) ?_ ?_ ?_ ?_ ?_ ?_ ?_ ?_ ?_ ?_ ?_
  · exact ⟨rfl, rfl⟩
  · exact ⟨rfl, rfl⟩
  · exact ⟨rfl, rfl⟩
  · exact ⟨rfl, rfl⟩
  · exact ⟨rfl, rfl⟩
  · (intro ρ h; go_simp; (try with_reducible rfl))
  · (intro ρ h; go_simp; (try with_reducible rfl))
  · (intro ρ h; go_simp; (try with_reducible rfl))
  · (intro ρ h; go_simp; (try with_reducible rfl))
  · (intro ρ h h'; go_simp; (try with_reducible rfl))
  intro a1 F1 R1
  have S1 := St.step S0 F1 (by omega)
  clear q0 r0
  have q1 := blk_cell HX1.out 1
  simp only [List.getElem?_toArray, List.getElem?_cons_zero, List.getElem?_cons_succ] at q1
  have r1 := blk_cell HX2.out 1
  simp only [List.getElem?_toArray, List.getElem?_cons_zero, List.getElem?_cons_succ] at r1
  refine cmp_block (n := 143) (d := 10) (j := 5) (p := 9) (b := true) (A1 := (.pointer (some ⟨g1, 1, none⟩))) (A2 := (.pointer (some ⟨g2, 1, none⟩))) (v1 := (.int .i64 x1)) (v2 := (.int .i64 y1)) (e := (x1 == y1)) (by omega) S1.size R1 S1.h2 S1.h3 (by omega) (by omega) ?_ ?_ ?_ ?_ ?_ ?_ ?_ ?_ ?_ ?_ ?_ ?_ ?_ ?_ ?_
  · exact ⟨rfl, rfl, rfl⟩
  · exact ⟨rfl, rfl⟩
  · exact ⟨rfl, rfl⟩
  · exact ⟨rfl, rfl⟩
  · exact ⟨rfl, rfl⟩
  · exact ⟨rfl, rfl⟩
  · exact ⟨rfl, rfl⟩
  · rfl
  · (intro ρ h; go_simp; (try with_reducible rfl))
  · (intro ρ h; go_simp; (try with_reducible rfl))
  · (intro ρ h; go_simp; (try with_reducible rfl))
  · (intro ρ h; go_simp; (try with_reducible rfl))
  · (intro ρ h h'; go_simp; (try with_reducible rfl))
  · (intro ρ hc; exact ⟨(by intro h h'; go_simp), (by intro h; (try simp only [Bool.not_true, Bool.not_false] at h); go_simp)⟩)
  intro a2 r2_ F2 R2 K2
  have S2 := St.step S1 F2 (by omega)
  clear q1 r1
  have q2 := blk_cell HX1.out 2
  simp only [List.getElem?_toArray, List.getElem?_cons_zero, List.getElem?_cons_succ] at q2
  have r2 := blk_cell HX2.out 2
  simp only [List.getElem?_toArray, List.getElem?_cons_zero, List.getElem?_cons_succ] at r2
  refine cmp_block (n := 143) (d := 17) (j := 12) (p := 16) (b := true) (A1 := (.pointer (some ⟨g1, 2, none⟩))) (A2 := (.pointer (some ⟨g2, 2, none⟩))) (v1 := (.int .i64 x2)) (v2 := (.int .i64 y2)) (e := (x2 == y2)) (by omega) S2.size R2 S2.h2 S2.h3 (by omega) (by omega) ?_ ?_ ?_ ?_ ?_ ?_ ?_ ?_ ?_ ?_ ?_ ?_ ?_ ?_ ?_
  · exact ⟨rfl, rfl, rfl⟩
  · exact ⟨rfl, rfl⟩
  · exact ⟨rfl, rfl⟩
  · exact ⟨rfl, rfl⟩
  · exact ⟨rfl, rfl⟩
  · exact ⟨rfl, rfl⟩
  · exact ⟨rfl, rfl⟩
  · rfl
  · (intro ρ h; go_simp; (try with_reducible rfl))
  · (intro ρ h; go_simp; (try with_reducible rfl))
  · (intro ρ h; go_simp; (try with_reducible rfl))
  · (intro ρ h; go_simp; (try with_reducible rfl))
  · (intro ρ h h'; go_simp; (try with_reducible rfl))
  · (intro ρ hc; exact ⟨(by intro h h'; go_simp), (by intro h; (try simp only [Bool.not_true, Bool.not_false] at h); go_simp)⟩)
  intro a3 r3_ F3 R3 K3
  have S3 := St.step S2 F3 (by omega)
  clear q2 r2
  have q4 := blk_cell HX1.out 4
  simp only [List.getElem?_toArray, List.getElem?_cons_zero, List.getElem?_cons_succ] at q4
  have q5 := blk_cell HX1.out 5
  simp only [List.getElem?_toArray, List.getElem?_cons_zero, List.getElem?_cons_succ] at q5
  have r4 := blk_cell HX2.out 4
  simp only [List.getElem?_toArray, List.getElem?_cons_zero, List.getElem?_cons_succ] at r4
  have r5 := blk_cell HX2.out 5
  simp only [List.getElem?_toArray, List.getElem?_cons_zero, List.getElem?_cons_succ] at r5
  refine cmp_block (n := 143) (d := 24) (j := 19) (p := 23) (b := true) (A1 := (.pointer (some ⟨g1, 4, none⟩))) (A2 := (.pointer (some ⟨g2, 4, none⟩))) (v1 := (.agg #[.int .i64 x4, .int .i64 x5])) (v2 := (.agg #[.int .i64 y4, .int .i64 y5])) (e := (x4 == y4 && (x5 == y5))) (by omega) S3.size R3 S3.h2 S3.h3 (by omega) (by omega) ?_ ?_ ?_ ?_ ?_ ?_ ?_ ?_ ?_ ?_ ?_ ?_ ?_ ?_ ?_
  · exact ⟨rfl, rfl, rfl⟩
  · exact ⟨rfl, rfl⟩
  · exact ⟨rfl, rfl⟩
  · exact ⟨rfl, rfl⟩
  · exact ⟨rfl, rfl⟩
  · exact ⟨rfl, rfl⟩
  · exact ⟨rfl, rfl⟩
  · rfl
  · (intro ρ h; go_simp; (try with_reducible rfl))
  · (intro ρ h; go_simp; (try with_reducible rfl))
  · (intro ρ h; go_simp; (try with_reducible rfl))
  · (intro ρ h; go_simp; (try with_reducible rfl))
  · (intro ρ h h'; go_simp; (try with_reducible rfl))
  · (intro ρ hc; exact ⟨(by intro h h'; go_simp), (by intro h; (try simp only [Bool.not_true, Bool.not_false] at h); go_simp)⟩)
  intro a4 r4_ F4 R4 K4
  have S4 := St.step S3 F4 (by omega)
  clear q4 r4 q5 r5
  have q6 := blk_cell HX1.out 6
  simp only [List.getElem?_toArray, List.getElem?_cons_zero, List.getElem?_cons_succ] at q6
  have r6 := blk_cell HX2.out 6
  simp only [List.getElem?_toArray, List.getElem?_cons_zero, List.getElem?_cons_succ] at r6
  refine cmp_block (n := 143) (d := 31) (j := 26) (p := 30) (b := true) (A1 := (.pointer (some ⟨g1, 6, none⟩))) (A2 := (.pointer (some ⟨g2, 6, none⟩))) (v1 := (.int .i64 x6)) (v2 := (.int .i64 y6)) (e := (x6 == y6)) (by omega) S4.size R4 S4.h2 S4.h3 (by omega) (by omega) ?_ ?_ ?_ ?_ ?_ ?_ ?_ ?_ ?_ ?_ ?_ ?_ ?_ ?_ ?_
  · exact ⟨rfl, rfl, rfl⟩
  · exact ⟨rfl, rfl⟩
  · exact ⟨rfl, rfl⟩
  · exact ⟨rfl, rfl⟩
  · exact ⟨rfl, rfl⟩
  · exact ⟨rfl, rfl⟩
  · exact ⟨rfl, rfl⟩
  · rfl
  · (intro ρ h; go_simp; (try with_reducible rfl))
  · (intro ρ h; go_simp; (try with_reducible rfl))
  · (intro ρ h; go_simp; (try with_reducible rfl))
  · (intro ρ h; go_simp; (try with_reducible rfl))
  · (intro ρ h h'; go_simp; (try with_reducible rfl))
  · (intro ρ hc; exact ⟨(by intro h h'; go_simp), (by intro h; (try simp only [Bool.not_true, Bool.not_false] at h); go_simp)⟩)
  intro a5 r5_ F5 R5 K5
  have S5 := St.step S4 F5 (by omega)
  clear q6 r6
  have q7 := blk_cell HX1.out 7
  simp only [List.getElem?_toArray, List.getElem?_cons_zero, List.getElem?_cons_succ] at q7
  have r7 := blk_cell HX2.out 7
  simp only [List.getElem?_toArray, List.getElem?_cons_zero, List.getElem?_cons_succ] at r7
  refine cmp_block (n := 143) (d := 38) (j := 33) (p := 37) (b := true) (A1 := (.pointer (some ⟨g1, 7, none⟩))) (A2 := (.pointer (some ⟨g2, 7, none⟩))) (v1 := (.int .i64 x7)) (v2 := (.int .i64 y7)) (e := (x7 == y7)) (by omega) S5.size R5 S5.h2 S5.h3 (by omega) (by omega) ?_ ?_ ?_ ?_ ?_ ?_ ?_ ?_ ?_ ?_ ?_ ?_ ?_ ?_ ?_
  · exact ⟨rfl, rfl, rfl⟩
  · exact ⟨rfl, rfl⟩
  · exact ⟨rfl, rfl⟩
  · exact ⟨rfl, rfl⟩
  · exact ⟨rfl, rfl⟩
  · exact ⟨rfl, rfl⟩
  · exact ⟨rfl, rfl⟩
  · rfl
  · (intro ρ h; go_simp; (try with_reducible rfl))
  · (intro ρ h; go_simp; (try with_reducible rfl))
  · (intro ρ h; go_simp; (try with_reducible rfl))
  · (intro ρ h; go_simp; (try with_reducible rfl))
  · (intro ρ h h'; go_simp; (try with_reducible rfl))
  · (intro ρ hc; exact ⟨(by intro h h'; go_simp), (by intro h; (try simp only [Bool.not_true, Bool.not_false] at h); go_simp)⟩)
  intro a6 r6_ F6 R6 K6
  have S6 := St.step S5 F6 (by omega)
  clear q7 r7
  have q11 := blk_cell HX1.out 11
  simp only [List.getElem?_toArray, List.getElem?_cons_zero, List.getElem?_cons_succ] at q11
  have q12 := blk_cell HX1.out 12
  simp only [List.getElem?_toArray, List.getElem?_cons_zero, List.getElem?_cons_succ] at q12
  have r11 := blk_cell HX2.out 11
  simp only [List.getElem?_toArray, List.getElem?_cons_zero, List.getElem?_cons_succ] at r11
  have r12 := blk_cell HX2.out 12
  simp only [List.getElem?_toArray, List.getElem?_cons_zero, List.getElem?_cons_succ] at r12
  refine cmp_block (n := 143) (d := 45) (j := 40) (p := 44) (b := true) (A1 := (.pointer (some ⟨g1, 11, none⟩))) (A2 := (.pointer (some ⟨g2, 11, none⟩))) (v1 := (.agg #[.int .i64 x11, .int .i64 x12])) (v2 := (.agg #[.int .i64 y11, .int .i64 y12])) (e := (x11 == y11 && (x12 == y12))) (by omega) S6.size R6 S6.h2 S6.h3 (by omega) (by omega) ?_ ?_ ?_ ?_ ?_ ?_ ?_ ?_ ?_ ?_ ?_ ?_ ?_ ?_ ?_
  · exact ⟨rfl, rfl, rfl⟩
  · exact ⟨rfl, rfl⟩
  · exact ⟨rfl, rfl⟩
  · exact ⟨rfl, rfl⟩
  · exact ⟨rfl, rfl⟩
  · exact ⟨rfl, rfl⟩
  · exact ⟨rfl, rfl⟩
  · rfl
  · (intro ρ h; go_simp; (try with_reducible rfl))
  · (intro ρ h; go_simp; (try with_reducible rfl))
  · (intro ρ h; go_simp; (try with_reducible rfl))
  · (intro ρ h; go_simp; (try with_reducible rfl))
  · (intro ρ h h'; go_simp; (try with_reducible rfl))
  · (intro ρ hc; exact ⟨(by intro h h'; go_simp), (by intro h; (try simp only [Bool.not_true, Bool.not_false] at h); go_simp)⟩)
  intro a7 r7_ F7 R7 K7
  have S7 := St.step S6 F7 (by omega)
  clear q11 r11 q12 r12
  have q13 := blk_cell HX1.out 13
  simp only [List.getElem?_toArray, List.getElem?_cons_zero, List.getElem?_cons_succ] at q13
  have r13 := blk_cell HX2.out 13
  simp only [List.getElem?_toArray, List.getElem?_cons_zero, List.getElem?_cons_succ] at r13
  refine cmp_block (n := 143) (d := 52) (j := 47) (p := 51) (b := true) (A1 := (.pointer (some ⟨g1, 13, none⟩))) (A2 := (.pointer (some ⟨g2, 13, none⟩))) (v1 := (.bool x13)) (v2 := (.bool y13)) (e := (x13 == y13)) (by omega) S7.size R7 S7.h2 S7.h3 (by omega) (by omega) ?_ ?_ ?_ ?_ ?_ ?_ ?_ ?_ ?_ ?_ ?_ ?_ ?_ ?_ ?_
  · exact ⟨rfl, rfl, rfl⟩
  · exact ⟨rfl, rfl⟩
  · exact ⟨rfl, rfl⟩
  · exact ⟨rfl, rfl⟩
  · exact ⟨rfl, rfl⟩
  · exact ⟨rfl, rfl⟩
  · exact ⟨rfl, rfl⟩
  · rfl
  · (intro ρ h; go_simp; (try with_reducible rfl))
  · (intro ρ h; go_simp; (try with_reducible rfl))
  · (intro ρ h; go_simp; (try with_reducible rfl))
  · (intro ρ h; go_simp; (try with_reducible rfl))
  · (intro ρ h h'; go_simp; (try with_reducible rfl))
  · (intro ρ hc; exact ⟨(by intro h h'; go_simp), (by intro h; (try simp only [Bool.not_true, Bool.not_false] at h); go_simp)⟩)
  intro a8 r8_ F8 R8 K8
  have S8 := St.step S7 F8 (by omega)
  clear q13 r13
  have q14 := blk_cell HX1.out 14
  simp only [List.getElem?_toArray, List.getElem?_cons_zero, List.getElem?_cons_succ] at q14
  have r14 := blk_cell HX2.out 14
  simp only [List.getElem?_toArray, List.getElem?_cons_zero, List.getElem?_cons_succ] at r14
  refine cmp_block (n := 143) (d := 59) (j := 54) (p := 58) (b := true) (A1 := (.pointer (some ⟨g1, 14, none⟩))) (A2 := (.pointer (some ⟨g2, 14, none⟩))) (v1 := (.int .i64 x14)) (v2 := (.int .i64 y14)) (e := (x14 == y14)) (by omega) S8.size R8 S8.h2 S8.h3 (by omega) (by omega) ?_ ?_ ?_ ?_ ?_ ?_ ?_ ?_ ?_ ?_ ?_ ?_ ?_ ?_ ?_
  · exact ⟨rfl, rfl, rfl⟩
  · exact ⟨rfl, rfl⟩
  · exact ⟨rfl, rfl⟩
  · exact ⟨rfl, rfl⟩
  · exact ⟨rfl, rfl⟩
  · exact ⟨rfl, rfl⟩
  · exact ⟨rfl, rfl⟩
  · rfl
  · (intro ρ h; go_simp; (try with_reducible rfl))
  · (intro ρ h; go_simp; (try with_reducible rfl))
  · (intro ρ h; go_simp; (try with_reducible rfl))
  · (intro ρ h; go_simp; (try with_reducible rfl))
  · (intro ρ h h'; go_simp; (try with_reducible rfl))
  · (intro ρ hc; exact ⟨(by intro h h'; go_simp), (by intro h; (try simp only [Bool.not_true, Bool.not_false] at h); go_simp)⟩)
  intro a9 r9_ F9 R9 K9
  have S9 := St.step S8 F9 (by omega)
  clear q14 r14
  have q15 := blk_cell HX1.out 15
  simp only [List.getElem?_toArray, List.getElem?_cons_zero, List.getElem?_cons_succ] at q15
  have r15 := blk_cell HX2.out 15
  simp only [List.getElem?_toArray, List.getElem?_cons_zero, List.getElem?_cons_succ] at r15
  refine cmp_block (n := 143) (d := 66) (j := 61) (p := 65) (b := true) (A1 := (.pointer (some ⟨g1, 15, none⟩))) (A2 := (.pointer (some ⟨g2, 15, none⟩))) (v1 := (.int .i64 x15)) (v2 := (.int .i64 y15)) (e := (x15 == y15)) (by omega) S9.size R9 S9.h2 S9.h3 (by omega) (by omega) ?_ ?_ ?_ ?_ ?_ ?_ ?_ ?_ ?_ ?_ ?_ ?_ ?_ ?_ ?_
  · exact ⟨rfl, rfl, rfl⟩
  · exact ⟨rfl, rfl⟩
  · exact ⟨rfl, rfl⟩
  · exact ⟨rfl, rfl⟩
  · exact ⟨rfl, rfl⟩
  · exact ⟨rfl, rfl⟩
  · exact ⟨rfl, rfl⟩
  · rfl
  · (intro ρ h; go_simp; (try with_reducible rfl))
  · (intro ρ h; go_simp; (try with_reducible rfl))
  · (intro ρ h; go_simp; (try with_reducible rfl))
  · (intro ρ h; go_simp; (try with_reducible rfl))
  · (intro ρ h h'; go_simp; (try with_reducible rfl))
  · (intro ρ hc; exact ⟨(by intro h h'; go_simp), (by intro h; (try simp only [Bool.not_true, Bool.not_false] at h); go_simp)⟩)
  intro a10 r10_ F10 R10 K10
  have S10 := St.step S9 F10 (by omega)
  clear q15 r15
  have q16 := blk_cell HX1.out 16
  simp only [List.getElem?_toArray, List.getElem?_cons_zero, List.getElem?_cons_succ] at q16
  have r16 := blk_cell HX2.out 16
  simp only [List.getElem?_toArray, List.getElem?_cons_zero, List.getElem?_cons_succ] at r16
  refine cmp_block (n := 143) (d := 73) (j := 68) (p := 72) (b := true) (A1 := (.pointer (some ⟨g1, 16, none⟩))) (A2 := (.pointer (some ⟨g2, 16, none⟩))) (v1 := (.string x16)) (v2 := (.string y16)) (e := (x16.toList == y16.toList)) (by omega) S10.size R10 S10.h2 S10.h3 (by omega) (by omega) ?_ ?_ ?_ ?_ ?_ ?_ ?_ ?_ ?_ ?_ ?_ ?_ ?_ ?_ ?_
  · exact ⟨rfl, rfl, rfl⟩
  · exact ⟨rfl, rfl⟩
  · exact ⟨rfl, rfl⟩
  · exact ⟨rfl, rfl⟩
  · exact ⟨rfl, rfl⟩
  · exact ⟨rfl, rfl⟩
  · exact ⟨rfl, rfl⟩
  · rfl
  · (intro ρ h; go_simp; (try with_reducible rfl))
  · (intro ρ h; go_simp; (try with_reducible rfl))
  · (intro ρ h; go_simp; (try with_reducible rfl))
  · (intro ρ h; go_simp; (try with_reducible rfl))
  · (intro ρ h h'; go_simp; (try with_reducible rfl))
  · (intro ρ hc; exact ⟨(by intro h h'; go_simp), (by intro h; (try simp only [Bool.not_true, Bool.not_false] at h); go_simp)⟩)
  intro a11 r11_ F11 R11 K11
  have S11 := St.step S10 F11 (by omega)
  clear q16 r16
  have q17 := blk_cell HX1.out 17
  simp only [List.getElem?_toArray, List.getElem?_cons_zero, List.getElem?_cons_succ] at q17
  have r17 := blk_cell HX2.out 17
  simp only [List.getElem?_toArray, List.getElem?_cons_zero, List.getElem?_cons_succ] at r17
  refine cmp_block (n := 143) (d := 80) (j := 75) (p := 79) (b := true) (A1 := (.pointer (some ⟨g1, 17, none⟩))) (A2 := (.pointer (some ⟨g2, 17, none⟩))) (v1 := (.bool x17)) (v2 := (.bool y17)) (e := (x17 == y17)) (by omega) S11.size R11 S11.h2 S11.h3 (by omega) (by omega) ?_ ?_ ?_ ?_ ?_ ?_ ?_ ?_ ?_ ?_ ?_ ?_ ?_ ?_ ?_
  · exact ⟨rfl, rfl, rfl⟩
  · exact ⟨rfl, rfl⟩
  · exact ⟨rfl, rfl⟩
  · exact ⟨rfl, rfl⟩
  · exact ⟨rfl, rfl⟩
  · exact ⟨rfl, rfl⟩
  · exact ⟨rfl, rfl⟩
  · rfl
  · (intro ρ h; go_simp; (try with_reducible rfl))
  · (intro ρ h; go_simp; (try with_reducible rfl))
  · (intro ρ h; go_simp; (try with_reducible rfl))
  · (intro ρ h; go_simp; (try with_reducible rfl))
  · (intro ρ h h'; go_simp; (try with_reducible rfl))
  · (intro ρ hc; exact ⟨(by intro h h'; go_simp), (by intro h; (try simp only [Bool.not_true, Bool.not_false] at h); go_simp)⟩)
  intro a12 r12_ F12 R12 K12
  have S12 := St.step S11 F12 (by omega)
  clear q17 r17
  have q18 := blk_cell HX1.out 18
  simp only [List.getElem?_toArray, List.getElem?_cons_zero, List.getElem?_cons_succ] at q18
  have r18 := blk_cell HX2.out 18
  simp only [List.getElem?_toArray, List.getElem?_cons_zero, List.getElem?_cons_succ] at r18
  refine cmp_block (n := 143) (d := 87) (j := 82) (p := 86) (b := true) (A1 := (.pointer (some ⟨g1, 18, none⟩))) (A2 := (.pointer (some ⟨g2, 18, none⟩))) (v1 := (.string x18)) (v2 := (.string y18)) (e := (x18.toList == y18.toList)) (by omega) S12.size R12 S12.h2 S12.h3 (by omega) (by omega) ?_ ?_ ?_ ?_ ?_ ?_ ?_ ?_ ?_ ?_ ?_ ?_ ?_ ?_ ?_
  · exact ⟨rfl, rfl, rfl⟩
  · exact ⟨rfl, rfl⟩
  · exact ⟨rfl, rfl⟩
  · exact ⟨rfl, rfl⟩
  · exact ⟨rfl, rfl⟩
  · exact ⟨rfl, rfl⟩
  · exact ⟨rfl, rfl⟩
  · rfl
  · (intro ρ h; go_simp; (try with_reducible rfl))
  · (intro ρ h; go_simp; (try with_reducible rfl))
  · (intro ρ h; go_simp; (try with_reducible rfl))
  · (intro ρ h; go_simp; (try with_reducible rfl))
  · (intro ρ h h'; go_simp; (try with_reducible rfl))
  · (intro ρ hc; exact ⟨(by intro h h'; go_simp), (by intro h; (try simp only [Bool.not_true, Bool.not_false] at h); go_simp)⟩)
  intro a13 r13_ F13 R13 K13
  have S13 := St.step S12 F13 (by omega)
  clear q18 r18
  have q19 := blk_cell HX1.out 19
  simp only [List.getElem?_toArray, List.getElem?_cons_zero, List.getElem?_cons_succ] at q19
  have q20 := blk_cell HX1.out 20
  simp only [List.getElem?_toArray, List.getElem?_cons_zero, List.getElem?_cons_succ] at q20
  have r19 := blk_cell HX2.out 19
  simp only [List.getElem?_toArray, List.getElem?_cons_zero, List.getElem?_cons_succ] at r19
  have r20 := blk_cell HX2.out 20
  simp only [List.getElem?_toArray, List.getElem?_cons_zero, List.getElem?_cons_succ] at r20
  refine cmp_block (n := 143) (d := 94) (j := 89) (p := 93) (b := true) (A1 := (.pointer (some ⟨g1, 19, none⟩))) (A2 := (.pointer (some ⟨g2, 19, none⟩))) (v1 := (.agg #[.int .i64 x19, .int .i64 x20])) (v2 := (.agg #[.int .i64 y19, .int .i64 y20])) (e := (x19 == y19 && (x20 == y20))) (by omega) S13.size R13 S13.h2 S13.h3 (by omega) (by omega) ?_ ?_ ?_ ?_ ?_ ?_ ?_ ?_ ?_ ?_ ?_ ?_ ?_ ?_ ?_
  · exact ⟨rfl, rfl, rfl⟩
  · exact ⟨rfl, rfl⟩
  · exact ⟨rfl, rfl⟩
  · exact ⟨rfl, rfl⟩
  · exact ⟨rfl, rfl⟩
  · exact ⟨rfl, rfl⟩
  · exact ⟨rfl, rfl⟩
  · rfl
  · (intro ρ h; go_simp; (try with_reducible rfl))
  · (intro ρ h; go_simp; (try with_reducible rfl))
  · (intro ρ h; go_simp; (try with_reducible rfl))
  · (intro ρ h; go_simp; (try with_reducible rfl))
  · (intro ρ h h'; go_simp; (try with_reducible rfl))
  · (intro ρ hc; exact ⟨(by intro h h'; go_simp), (by intro h; (try simp only [Bool.not_true, Bool.not_false] at h); go_simp)⟩)
  intro a14 r14_ F14 R14 K14
  have S14 := St.step S13 F14 (by omega)
  clear q19 r19 q20 r20
  have q21 := blk_cell HX1.out 21
  simp only [List.getElem?_toArray, List.getElem?_cons_zero, List.getElem?_cons_succ] at q21
  have r21 := blk_cell HX2.out 21
  simp only [List.getElem?_toArray, List.getElem?_cons_zero, List.getElem?_cons_succ] at r21
  refine cmp_block (n := 143) (d := 101) (j := 96) (p := 100) (b := true) (A1 := (.pointer (some ⟨g1, 21, none⟩))) (A2 := (.pointer (some ⟨g2, 21, none⟩))) (v1 := (.int .i64 x21)) (v2 := (.int .i64 y21)) (e := (x21 == y21)) (by omega) S14.size R14 S14.h2 S14.h3 (by omega) (by omega) ?_ ?_ ?_ ?_ ?_ ?_ ?_ ?_ ?_ ?_ ?_ ?_ ?_ ?_ ?_
  · exact ⟨rfl, rfl, rfl⟩
  · exact ⟨rfl, rfl⟩
  · exact ⟨rfl, rfl⟩
  · exact ⟨rfl, rfl⟩
  · exact ⟨rfl, rfl⟩
  · exact ⟨rfl, rfl⟩
  · exact ⟨rfl, rfl⟩
  · rfl
  · (intro ρ h; go_simp; (try with_reducible rfl))
  · (intro ρ h; go_simp; (try with_reducible rfl))
  · (intro ρ h; go_simp; (try with_reducible rfl))
  · (intro ρ h; go_simp; (try with_reducible rfl))
  · (intro ρ h h'; go_simp; (try with_reducible rfl))
  · (intro ρ hc; exact ⟨(by intro h h'; go_simp), (by intro h; (try simp only [Bool.not_true, Bool.not_false] at h); go_simp)⟩)
  intro a15 r15_ F15 R15 K15
  have S15 := St.step S14 F15 (by omega)
  clear q21 r21
  have q22 := blk_cell HX1.out 22
  simp only [List.getElem?_toArray, List.getElem?_cons_zero, List.getElem?_cons_succ] at q22
  have q23 := blk_cell HX1.out 23
  simp only [List.getElem?_toArray, List.getElem?_cons_zero, List.getElem?_cons_succ] at q23
  have q24 := blk_cell HX1.out 24
  simp only [List.getElem?_toArray, List.getElem?_cons_zero, List.getElem?_cons_succ] at q24
  have q25 := blk_cell HX1.out 25
  simp only [List.getElem?_toArray, List.getElem?_cons_zero, List.getElem?_cons_succ] at q25
  have r22 := blk_cell HX2.out 22
  simp only [List.getElem?_toArray, List.getElem?_cons_zero, List.getElem?_cons_succ] at r22
  have r23 := blk_cell HX2.out 23
  simp only [List.getElem?_toArray, List.getElem?_cons_zero, List.getElem?_cons_succ] at r23
  have r24 := blk_cell HX2.out 24
  simp only [List.getElem?_toArray, List.getElem?_cons_zero, List.getElem?_cons_succ] at r24
  have r25 := blk_cell HX2.out 25
  simp only [List.getElem?_toArray, List.getElem?_cons_zero, List.getElem?_cons_succ] at r25
  refine cmp_block (n := 143) (d := 108) (j := 103) (p := 107) (b := true) (A1 := (.pointer (some ⟨g1, 22, none⟩))) (A2 := (.pointer (some ⟨g2, 22, none⟩))) (v1 := (.agg #[.int .i64 x22, .int .i64 x23, .bool x24, .string x25])) (v2 := (.agg #[.int .i64 y22, .int .i64 y23, .bool y24, .string y25])) (e := ((x22 == y22 && (x23 == y23)) && (x24 == y24 && (x25.toList == y25.toList)))) (by omega) S15.size R15 S15.h2 S15.h3 (by omega) (by omega) ?_ ?_ ?_ ?_ ?_ ?_ ?_ ?_ ?_ ?_ ?_ ?_ ?_ ?_ ?_
  · exact ⟨rfl, rfl, rfl⟩
  · exact ⟨rfl, rfl⟩
  · exact ⟨rfl, rfl⟩
  · exact ⟨rfl, rfl⟩
  · exact ⟨rfl, rfl⟩
  · exact ⟨rfl, rfl⟩
  · exact ⟨rfl, rfl⟩
  · rfl
  · (intro ρ h; go_simp; (try with_reducible rfl))
  · (intro ρ h; go_simp; (try with_reducible rfl))
  · (intro ρ h; go_simp; (try with_reducible rfl))
  · (intro ρ h; go_simp; (try with_reducible rfl))
  · (intro ρ h h'; go_simp; (try with_reducible rfl))
  · (intro ρ hc; exact ⟨(by intro h h'; go_simp), (by intro h; (try simp only [Bool.not_true, Bool.not_false] at h); go_simp)⟩)
  intro a16 r16_ F16 R16 K16
  have S16 := St.step S15 F16 (by omega)
  clear q22 r22 q23 r23 q24 r24 q25 r25
  have HX1_17 := HX1
  have HX2_17 := HX2
  have HBW17 := Aside0.mk HBW.out
  have q3 := blk_cell HX1_17.out 3
  simp only [List.getElem?_toArray, List.getElem?_cons_zero, List.getElem?_cons_succ] at q3
  have r3 := blk_cell HX2_17.out 3
  simp only [List.getElem?_toArray, List.getElem?_cons_zero, List.getElem?_cons_succ] at r3
  refine call_block (ts := #[22, 22]) (n := 143) (d := 115) (j := 110) (p := 114) (p' := a.L 3 = b.L 3) (A1 := (.pointer (some ⟨g1, 3, none⟩))) (A2 := (.pointer (some ⟨g2, 3, none⟩))) (v1 := .slice A3 (a.L 3).length c3) (v2 := .slice B3 (b.L 3).length d3) Try.func30 rfl rfl (by omega) S16.size R16 S16.h2 S16.h3 (by omega) (by omega) ?_ ?_ ?_ ?_ ?_ ?_ ?_ ?_ ?_ ?_ ?_ ?_ ?_ (HC3.out _ HBW17.out) ?_ ?_
  · exact ⟨rfl, rfl, rfl⟩
  · exact ⟨rfl, rfl⟩
  · exact ⟨rfl, rfl⟩
  · exact ⟨rfl, rfl⟩
  · exact ⟨rfl, rfl⟩
  · exact ⟨rfl, rfl⟩
  · exact ⟨rfl, rfl⟩
  · rfl
  · (intro ρ h; go_simp; (try with_reducible rfl))
  · (intro ρ h; go_simp; (try with_reducible rfl))
  · (intro ρ h; go_simp; (try with_reducible rfl))
  · (intro ρ h; go_simp; (try with_reducible rfl))
  · rfl
  · (intro ρ e W hc; exact ⟨(by intro h h'; go_simp), (by intro h; (try simp only [Bool.not_true, Bool.not_false] at h); go_simp)⟩)
  intro a17 r17_ w17_ F17 R17 K17 D17
  have S17 := St.step S16 F17 (by omega)
  clear q3 r3
  have HX1_18 := Aside0.mk (dblk D17 HX1_17.out)
  have HX2_18 := Aside0.mk (dblk D17 HX2_17.out)
  have HBW18 := Aside0.mk (HBW17.out.trans (D17.below.mono HBW17.out.size))
  have q8 := blk_cell HX1_18.out 8
  simp only [List.getElem?_toArray, List.getElem?_cons_zero, List.getElem?_cons_succ] at q8
  have r8 := blk_cell HX2_18.out 8
  simp only [List.getElem?_toArray, List.getElem?_cons_zero, List.getElem?_cons_succ] at r8
  refine call_block (ts := #[25, 25]) (n := 143) (d := 122) (j := 117) (p := 121) (p' := a.L 8 = b.L 8) (A1 := (.pointer (some ⟨g1, 8, none⟩))) (A2 := (.pointer (some ⟨g2, 8, none⟩))) (v1 := .slice A8 (a.L 8).length c8) (v2 := .slice B8 (b.L 8).length d8) Try.func31 rfl rfl (by omega) S17.size R17 S17.h2 S17.h3 (by omega) (by omega) ?_ ?_ ?_ ?_ ?_ ?_ ?_ ?_ ?_ ?_ ?_ ?_ ?_ (HC8.out _ HBW18.out) ?_ ?_
  · exact ⟨rfl, rfl, rfl⟩
  · exact ⟨rfl, rfl⟩
  · exact ⟨rfl, rfl⟩
  · exact ⟨rfl, rfl⟩
  · exact ⟨rfl, rfl⟩
  · exact ⟨rfl, rfl⟩
  · exact ⟨rfl, rfl⟩
  · rfl
  · (intro ρ h; go_simp; (try with_reducible rfl))
  · (intro ρ h; go_simp; (try with_reducible rfl))
  · (intro ρ h; go_simp; (try with_reducible rfl))
  · (intro ρ h; go_simp; (try with_reducible rfl))
  · rfl
  · (intro ρ e W hc; exact ⟨(by intro h h'; go_simp), (by intro h; (try simp only [Bool.not_true, Bool.not_false] at h); go_simp)⟩)
  intro a18 r18_ w18_ F18 R18 K18 D18
  have S18 := St.step S17 F18 (by omega)
  clear q8 r8
  have HX1_19 := Aside0.mk (dblk D18 HX1_18.out)
  have HX2_19 := Aside0.mk (dblk D18 HX2_18.out)
  have HBW19 := Aside0.mk (HBW18.out.trans (D18.below.mono HBW18.out.size))
  have q9 := blk_cell HX1_19.out 9
  simp only [List.getElem?_toArray, List.getElem?_cons_zero, List.getElem?_cons_succ] at q9
  have r9 := blk_cell HX2_19.out 9
  simp only [List.getElem?_toArray, List.getElem?_cons_zero, List.getElem?_cons_succ] at r9
  refine call_block (ts := #[26, 26]) (n := 143) (d := 129) (j := 124) (p := 128) (p' := a.L 9 = b.L 9) (A1 := (.pointer (some ⟨g1, 9, none⟩))) (A2 := (.pointer (some ⟨g2, 9, none⟩))) (v1 := .slice A9 (a.L 9).length c9) (v2 := .slice B9 (b.L 9).length d9) Try.func32 rfl rfl (by omega) S18.size R18 S18.h2 S18.h3 (by omega) (by omega) ?_ ?_ ?_ ?_ ?_ ?_ ?_ ?_ ?_ ?_ ?_ ?_ ?_ (HC9.out _ HBW19.out) ?_ ?_
  · exact ⟨rfl, rfl, rfl⟩
  · exact ⟨rfl, rfl⟩
  · exact ⟨rfl, rfl⟩
  · exact ⟨rfl, rfl⟩
  · exact ⟨rfl, rfl⟩
  · exact ⟨rfl, rfl⟩
  · exact ⟨rfl, rfl⟩
  · rfl
  · (intro ρ h; go_simp; (try with_reducible rfl))
  · (intro ρ h; go_simp; (try with_reducible rfl))
  · (intro ρ h; go_simp; (try with_reducible rfl))
  · (intro ρ h; go_simp; (try with_reducible rfl))
  · rfl
  · (intro ρ e W hc; exact ⟨(by intro h h'; go_simp), (by intro h; (try simp only [Bool.not_true, Bool.not_false] at h); go_simp)⟩)
  intro a19 r19_ w19_ F19 R19 K19 D19
  have S19 := St.step S18 F19 (by omega)
  clear q9 r9
  have HX1_20 := Aside0.mk (dblk D19 HX1_19.out)
  have HX2_20 := Aside0.mk (dblk D19 HX2_19.out)
  have HBW20 := Aside0.mk (HBW19.out.trans (D19.below.mono HBW19.out.size))
  have q10 := blk_cell HX1_20.out 10
  simp only [List.getElem?_toArray, List.getElem?_cons_zero, List.getElem?_cons_succ] at q10
  have r10 := blk_cell HX2_20.out 10
  simp only [List.getElem?_toArray, List.getElem?_cons_zero, List.getElem?_cons_succ] at r10
  refine call_block (ts := #[27, 27]) (n := 143) (d := 136) (j := 131) (p := 135) (p' := a.L 10 = b.L 10) (A1 := (.pointer (some ⟨g1, 10, none⟩))) (A2 := (.pointer (some ⟨g2, 10, none⟩))) (v1 := .slice A10 (a.L 10).length c10) (v2 := .slice B10 (b.L 10).length d10) Try.func33 rfl rfl (by omega) S19.size R19 S19.h2 S19.h3 (by omega) (by omega) ?_ ?_ ?_ ?_ ?_ ?_ ?_ ?_ ?_ ?_ ?_ ?_ ?_ (HC10.out _ HBW20.out) ?_ ?_
  · exact ⟨rfl, rfl, rfl⟩
  · exact ⟨rfl, rfl⟩
  · exact ⟨rfl, rfl⟩
  · exact ⟨rfl, rfl⟩
  · exact ⟨rfl, rfl⟩
  · exact ⟨rfl, rfl⟩
  · exact ⟨rfl, rfl⟩
  · rfl
  · (intro ρ h; go_simp; (try with_reducible rfl))
  · (intro ρ h; go_simp; (try with_reducible rfl))
  · (intro ρ h; go_simp; (try with_reducible rfl))
  · (intro ρ h; go_simp; (try with_reducible rfl))
  · rfl
  · (intro ρ e W hc; exact ⟨(by intro h h'; go_simp), (by intro h; (try simp only [Bool.not_true, Bool.not_false] at h); go_simp)⟩)
  intro a20 r20_ w20_ F20 R20 K20 D20
  have S20 := St.step S19 F20 (by omega)
  clear q10 r10
  have HBF := HBW20.out.trans (D20.below.mono HBW20.out.size)
  refine step_val rfl (v := .bool r20_) (w1 := w20_) (run_assign rfl R20.eval) ?_
  have HP4 : Has (a20.put (some 4) (.bool r20_)) 4 (.bool r20_) := Has.same (by rw [S20.size]; omega)
  have HD4 : (a20.put (some 4) (.bool r20_)).defers = [] := (defers_put _ _ _).trans S20.defers
  generalize a20.put (some 4) (.bool r20_) = a' at *
  go_wp2
  refine bodyPost_ret (v := .bool r20_) (results_one rfl HP4) HD4 ?_
  refine ⟨r20_, rfl, ?_, HBF⟩
  rw [HEQ.out, K20, K19, K18, K17, K16, K15, K14, K13, K12, K11, K10, K9, K8, K7, K6, K5, K4, K3, K2]
  simp only [and_assoc]
end Go.Proofs.Ytcbehfbfaonanaa.Wr
end


section
/-! ### 50. A region's order in a table, made once a region: each step asks the table (numbers alone), not the operations -/
namespace Go.Proofs.YtcbehfbfaonanaaW.PrintLast
open Go.Proofs.YtcbehfbfaonanaaW.PrintWords (Aside0)
def needsOf (md : Region.Mode) (o : Oper) : List Nat := (o.after.toList.filter (fun e => Region.binds md e)).map (fun e => e.on)
def clashOf (md : Region.Mode) (ops : Array Oper) (i : Nat) (oi : Oper) : List Nat := (List.range ops.size).filter fun j => !(j == i) && match ops[j]? with
  | some oj => !(oj.after.any (fun e => Region.binds md e && e.on == i) || oi.apart ops oj)
  | none => false
/-- No select in it; for each operation: what must have come up before it, and what may not come up behind it if it is taken first. -/
def rtab (md : Region.Mode) (ops : Array Oper) : Bool × List (List Nat × List Nat) := (Region.noSelect ops, (List.range ops.size).map fun i => match ops[i]? with
  | some o => (needsOf md o, clashOf md ops i o)
  | none => ([], []))
def readyAt (T : List (List Nat × List Nat)) (l : List Bool) (i : Nat) : Bool := !l.getD i true && match T[i]? with
  | some r => r.1.all (fun j => l.getD j false)
  | none => false
def readyT (T : List (List Nat × List Nat)) (l : List Bool) : List Nat := (List.range T.length).filter (readyAt T l)
def freeT (T : List (List Nat × List Nat)) (l : List Bool) (i : Nat) : Bool := match T[i]? with
  | some r => r.2.all (fun j => l.getD j true)
  | none => false
section
variable {md : Region.Mode} {ops : Array Oper} {T : Bool × List (List Nat × List Nat)} {l l' li lj lk : Array Bool} {ds : List Nat} {i j k : Nat}
theorem gd (l : Array Bool) (j : Nat) (b : Bool) : l.getD j b = l.toList.getD j b := by simp [Array.getD_eq_getD_getElem?, List.getD_eq_getElem?_getD]
theorem needs_all (o : Oper) (p : Nat → Bool) : o.after.all (fun e => !Region.binds md e || p e.on) = (needsOf md o).all p := by
  unfold needsOf
  rw [← Array.all_toList]
  induction o.after.toList with
  | nil => rfl
  | cons e r ih =>
    rw [List.all_cons, ih, List.filter_cons]
    cases h : Region.binds md e <;> simp
theorem rtab_length : (rtab md ops).2.length = ops.size := by simp [rtab]
theorem rtab_some {o : Oper} (h : ops[i]? = some o) : (rtab md ops).2[i]? = some (needsOf md o, clashOf md ops i o) := by
  have hi := (Array.getElem?_eq_some_iff.1 h).1
  unfold rtab
  rw [List.getElem?_map, List.getElem?_range hi, Option.map_some, h]
theorem rtab_none (h : ops[i]? = none) : (rtab md ops).2[i]? = none := by
  have hi : ops.size ≤ i := Array.getElem?_eq_none_iff.1 h
  exact List.getElem?_eq_none (by rw [rtab_length]; exact hi)
theorem readyAt_eq : readyAt (rtab md ops).2 l.toList i = (!l.getD i true && ((ops[i]?).map (·.after.all fun e => !Region.binds md e || l.getD e.on false)).getD false) := by
  unfold readyAt
  rw [gd]
  cases h : ops[i]? with
  | none => rw [rtab_none h]; rfl
  | some o =>
    rw [rtab_some h]
    simp only [Option.map_some, Option.getD_some]
    rw [← needs_all]
    simp only [gd]
theorem ready_eq : Region.ready md ops l = readyT (rtab md ops).2 l.toList := by
  unfold Region.ready readyT
  rw [rtab_length]
  refine List.filter_congr (fun i _ => ?_)
  rw [readyAt_eq]
theorem free_eq : Region.free md ops l i = freeT (rtab md ops).2 l.toList i := by
  unfold Region.free freeT
  cases h : ops[i]? with
  | none => rw [rtab_none h]
  | some oi =>
    rw [rtab_some h]
    simp only [clashOf]
    rw [List.all_filter]
    congr 1
    funext j
    rw [gd]
    cases hj : ops[j]? with
    | none => cases (j == i) <;> cases (l.toList.getD j true) <;> simp
    | some oj =>
      cases (j == i) <;> cases (l.toList.getD j true) <;> cases (oj.after.any (fun e => Region.binds md e && e.on == i) || oi.apart ops oj) <;> simp_all
theorem readyAt_mem (h : readyAt T.2 l.toList i = true) (hT : rtab md ops = T) : (Region.ready md ops l).contains i = true := by
  subst hT
  rw [ready_eq]
  unfold readyT
  rw [List.contains_iff_mem, List.mem_filter, List.mem_range]
  refine ⟨?_, h⟩
  unfold readyAt at h
  rw [Bool.and_eq_true] at h
  cases hq : (rtab md ops).2[i]? with
  | none => rw [hq] at h; simp at h
  | some r => exact (List.getElem?_eq_some_iff.1 hq).1
theorem set_of (h : (l.toList.set i true == l'.toList) = true) : (l.setIfInBounds i true == l') = true := by
  rw [beq_iff_eq] at h ⊢
  apply Array.ext'
  rw [Array.toList_setIfInBounds]
  exact h
def anyT (T : Bool × List (List Nat × List Nat)) (l l' : List Bool) (i : Nat) : Bool := T.1 && freeT T.2 l i && readyAt T.2 l i && (l.set i true == l')
/-- pure_'s condition out of the table. -/
theorem any_of (hT : rtab md ops = T) (h : anyT T l.toList l'.toList i = true) : anyB md ops l l' i = true := by
  simp only [anyT, Bool.and_eq_true] at h
  obtain ⟨⟨⟨h1, h2⟩, h3⟩, h4⟩ := h
  have h5 := readyAt_mem h3 hT
  have h6 := set_of h4
  subst hT
  simp only [anyB, Bool.and_eq_true]
  exact ⟨⟨⟨h1, by rw [free_eq]; exact h2⟩, h5⟩, h6⟩
/-- one_'s and last_'s. -/
theorem one_of (hT : rtab md ops = T) (h : (readyT T.2 l.toList == [i] && l.toList.set i true == l'.toList) = true) : readyB md ops l l' i = true := by
  simp only [Bool.and_eq_true] at h
  obtain ⟨h1, h2⟩ := h
  subst hT
  simp only [readyB, Bool.and_eq_true]
  exact ⟨by rw [ready_eq]; exact h1, set_of h2⟩
/-- done_'s. -/
theorem done_of (hT : rtab md ops = T) (h : (readyT T.2 l.toList == []) = true) : (Region.ready md ops l == []) = true := by
  subst hT
  rw [ready_eq]
  exact h
/-- What d waits for, as_ bits: told in the table (B), checked in one pass: each bit is a need of d, or a bit of an earlier need's. -/
def upM (B : List Nat) (d : Nat) : List Nat → Nat
  | [] => 0
  | n :: r => (2 ^ n ||| (if n < d then B.getD n 0 else 0)) ||| upM B d r
def waitsOk (T : List (List Nat × List Nat)) (B : List Nat) : Bool := (List.range T.length).all fun d => match T[d]? with
  | some r => (B.getD d 0 ||| upM B d r.1) == upM B d r.1
  | none => false
theorem with_tabW {P : Program} {Q : Exit → Act → World → Prop} {S : World → Prop} {n : Nat} {a : Act} {w : World} {B : List Nat} (hT : rtab md ops = T) (hB : waitsOk T.2 B = true) (h : Aside0 (rtab md ops = T) → Aside0 (waitsOk T.2 B = true) → wpAnyLast P md ops Q S ds n l a w) : wpAnyLast P md ops Q S ds n l a w := h ⟨hT⟩ ⟨hB⟩
end
/-- The operations of a region, by its number. -/
def opsIn : Code → Nat → Option (Array Oper)
  | .region id ops _, k => if id == k then some ops else none
  | .seq a b, k => match opsIn a k with
    | some o => some o
    | none => opsIn b k
  | .cond _ a b, k => match opsIn a k with
    | some o => some o
    | none => opsIn b k
  | .block _ c, k => opsIn c k
  | .loop c, k => opsIn c k
  | .scope c, k => opsIn c k
  | .rangeFunc _ _ a b, k => match opsIn a k with
    | some o => some o
    | none => opsIn b k
  | _, _ => none
def opsOf (f : Func) (k : Nat) : Array Oper := ((f.body.bind fun c => opsIn c k)).getD #[]
end Go.Proofs.YtcbehfbfaonanaaW.PrintLast
end





section
/-! ### 55. Reps told from the front, no append: for rows of one-cell elements and of wider ones -/
namespace Go.Proofs.YtcbehfbfaonanaaW.PrintWords
/-- One cell an element. -/
theorem Reps.one {α : Type} {R : α → List Value → Prop} {ps : List α} {cs : List Value} {p : α} {v : Value} (hp : R p [v]) (h : Reps R 1 ps cs) : Reps R 1 (p :: ps) (v :: cs) := by
  refine ⟨by simp [h.1], fun j q hq => ?_⟩
  cases j with
  | zero =>
    simp only [List.getElem?_cons_zero, Option.some.injEq] at hq
    subst hq
    simpa using hp
  | succ j =>
    simp only [List.getElem?_cons_succ] at hq
    have h1 := h.2 j q hq
    simpa [Nat.mul_one] using h1
/-- More cells an element: told apart by the cells' list. -/
theorem Reps.front {α : Type} {R : α → List Value → Prop} {size : Nat} {ps : List α} {cs c all : List Value} {p : α} (hp : R p c) (hc : c.length = size) (h : Reps R size ps cs) (ha : c ++ cs = all) : Reps R size (p :: ps) all := by
  subst ha
  refine ⟨by rw [List.length_append, hc, h.1, List.length_cons, Nat.succ_mul, Nat.add_comm], fun j q hq => ?_⟩
  cases j with
  | zero =>
    simp only [List.getElem?_cons_zero, Option.some.injEq] at hq
    subst hq
    rw [Nat.zero_mul, List.drop_zero, List.take_append_of_le_length (by omega), List.take_of_length_le (by omega)]
    exact hp
  | succ j =>
    simp only [List.getElem?_cons_succ] at hq
    have h1 := h.2 j q hq
    rw [Nat.succ_mul, List.drop_append, List.drop_of_length_le (by rw [hc]; exact Nat.le_add_left _ _), List.nil_append, hc, Nat.add_sub_cancel]
    exact h1
theorem Reps.c2 {α : Type} {R : α → List Value → Prop} {ps : List α} {cs : List Value} {p : α} {va vb : Value} (hp : R p [va, vb]) (h : Reps R 2 ps cs) : Reps R 2 (p :: ps) (va :: vb :: cs) := Reps.front hp rfl h rfl
theorem Reps.c3 {α : Type} {R : α → List Value → Prop} {ps : List α} {cs : List Value} {p : α} {va vb vc : Value} (hp : R p [va, vb, vc]) (h : Reps R 3 ps cs) : Reps R 3 (p :: ps) (va :: vb :: vc :: cs) := Reps.front hp rfl h rfl
theorem Reps.c4 {α : Type} {R : α → List Value → Prop} {ps : List α} {cs : List Value} {p : α} {va vb vc vd : Value} (hp : R p [va, vb, vc, vd]) (h : Reps R 4 ps cs) : Reps R 4 (p :: ps) (va :: vb :: vc :: vd :: cs) := Reps.front hp rfl h rfl
theorem Reps.c5 {α : Type} {R : α → List Value → Prop} {ps : List α} {cs : List Value} {p : α} {va vb vc vd ve : Value} (hp : R p [va, vb, vc, vd, ve]) (h : Reps R 5 ps cs) : Reps R 5 (p :: ps) (va :: vb :: vc :: vd :: ve :: cs) := Reps.front hp rfl h rfl
theorem Reps.c6 {α : Type} {R : α → List Value → Prop} {ps : List α} {cs : List Value} {p : α} {va vb vc vd ve vf : Value} (hp : R p [va, vb, vc, vd, ve, vf]) (h : Reps R 6 ps cs) : Reps R 6 (p :: ps) (va :: vb :: vc :: vd :: ve :: vf :: cs) := Reps.front hp rfl h rfl
theorem Reps.c7 {α : Type} {R : α → List Value → Prop} {ps : List α} {cs : List Value} {p : α} {va vb vc vd ve vf vg : Value} (hp : R p [va, vb, vc, vd, ve, vf, vg]) (h : Reps R 7 ps cs) : Reps R 7 (p :: ps) (va :: vb :: vc :: vd :: ve :: vf :: vg :: cs) := Reps.front hp rfl h rfl
theorem Reps.c8 {α : Type} {R : α → List Value → Prop} {ps : List α} {cs : List Value} {p : α} {va vb vc vd ve vf vg vh : Value} (hp : R p [va, vb, vc, vd, ve, vf, vg, vh]) (h : Reps R 8 ps cs) : Reps R 8 (p :: ps) (va :: vb :: vc :: vd :: ve :: vf :: vg :: vh :: cs) := Reps.front hp rfl h rfl
theorem Reps.c9 {α : Type} {R : α → List Value → Prop} {ps : List α} {cs : List Value} {p : α} {va vb vc vd ve vf vg vh vi : Value} (hp : R p [va, vb, vc, vd, ve, vf, vg, vh, vi]) (h : Reps R 9 ps cs) : Reps R 9 (p :: ps) (va :: vb :: vc :: vd :: ve :: vf :: vg :: vh :: vi :: cs) := Reps.front hp rfl h rfl
theorem Reps.c10 {α : Type} {R : α → List Value → Prop} {ps : List α} {cs : List Value} {p : α} {va vb vc vd ve vf vg vh vi vj : Value} (hp : R p [va, vb, vc, vd, ve, vf, vg, vh, vi, vj]) (h : Reps R 10 ps cs) : Reps R 10 (p :: ps) (va :: vb :: vc :: vd :: ve :: vf :: vg :: vh :: vi :: vj :: cs) := Reps.front hp rfl h rfl
end Go.Proofs.YtcbehfbfaonanaaW.PrintWords
end


section
/-! ### 57. A region of open order by ONE relation over what is listed so far: each operation is shown once, whatever came up before it -/
namespace Go.Proofs.YtcbehfbfaonanaaW.PrintLast
/-- Number i is listed too. -/
def up (b : Nat → Bool) (i : Nat) : Nat → Bool := fun j => if j = i then true else b j
section
variable {P : Program} {ops : Array Oper} {Q : Exit → Act → World → Prop} {md : Region.Mode} {T : Bool × List (List Nat × List Nat)} {B : List Nat} {O : List Nat} {b : Nat → Bool} {i j n : Nat}
end
end Go.Proofs.YtcbehfbfaonanaaW.PrintLast
end



section
namespace Go.Proofs.Ytcbehfbfaonanaa.PFr
open Go.RowKit Go.Proofs.YtcbehfbfaonanaaW.PrintWords Go.Proofs.YtcbehfbfaonanaaW.PrintLast Go.Proofs.YtcbehfbfaonanaaW.PrintMore
attribute [local go_sem] max2_int min2_int max_two min_two max_three min_three max_four min_four   -- for this text's walks alone
set_option linter.unusedVariables false
set_option linter.unusedSimpArgs false



def errW : Option Int → Value
  | none => .nilIface
  | some c => .iface 0 (.int .i64 c)
theorem errW_none : errW none = .nilIface := rfl
theorem errW_some (c : Int) : errW (some c) = .iface 0 (.int .i64 c) := rfl

theorem info5 : (Try.prog.info? 5).map (fun i => (i.zero, i.size, i.bytes)) = some (some (.int .u8 0), 1, 1) := by kernel_rfl
structure S24 where
  f0 : Int
  f1 : Int
def z24 : S24 := ⟨(0 : Int), (0 : Int)⟩
def k24 : Kd S24 := Kd.iso (Kd.pair (Kd.int .i64) (Kd.int .i64)) (fun x : S24 => (x.f0, x.f1))
def rd_L10 (xs : List (List Int)) (i : Int) : (List Int) := xs.getD i.toNat ([] : List Int)
theorem at_L10 {w : World} {A : Option Addr} {n : Nat} {xs : List (List Int)} (h : Kd.C (Kd.slice 5 (Kd.int .u8)) w A n xs) (i : Int) (h0 : 0 ≤ i) (h1 : i < n) : ∃ ad A0 c0, A = some ad ∧ w.cell? (ad.add i.toNat) = some (.slice A0 (rd_L10 xs i).length c0) ∧ (rd_L10 xs i).length ≤ c0 ∧ (Kd.int .u8).C w A0 (rd_L10 xs i).length (rd_L10 xs i) := by
  obtain ⟨ad, c, e, _, hK, hc0⟩ := Kd.C_get h ([] : List Int) i h0 h1
  have hc : ∀ j u, c[j]? = some u → w.cell? (ad.add (i.toNat * 1 + j)) = some u := hc0
  obtain ⟨A0, c0, rfl, l0, g0⟩ := hK
  exact ⟨ad, A0, c0, e, by have hq := hc 0 _ rfl; rwa [Nat.mul_one, Nat.add_zero] at hq, l0, g0⟩

/-! #### struct type 98 -/
end Go.Proofs.Ytcbehfbfaonanaa.PFr
end
