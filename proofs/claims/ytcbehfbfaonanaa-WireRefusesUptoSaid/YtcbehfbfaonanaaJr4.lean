/- Part 5 of the texts that walk the program and tell its laws, joined in the order of their building. No conditions. -/
import Derived.Test.YtcbehfbfaonanaaJr3
import Derived.Test.YtcbehfbfaonanaaJr2
import Derived.Deep.Slices
import Derived.DataReads
import Derived.Deep.RegionHeld3
import Derived.ArgAppend
import Derived.Deep.WholeRow
import Derived.OrdersHeld
/- A message's value, opened: its cells, its lists. -/
section
namespace Go.Proofs.Ytcbehfbfaonanaa.Wr
open Go.RowKit Go.ChangeShapes Go.WideShapes Go.ChangeAt Go.Deep Go.Proofs.YtcbehfbfaonanaaW.PrintWords Go.Proofs.Ytcbehfbfaonanaa.Pk
set_option linter.unusedVariables false

theorem bulk_pos {H : Type} (d : DataW H) : 1 ≤ Rows.uptoBulk d := by
  cases d with
  | lit l => cases l <;> simp [Rows.uptoBulk]
  | nil => simp [Rows.uptoBulk]
  | ptr d => simp [Rows.uptoBulk]
  | slice a b => simp [Rows.uptoBulk]
  | agg a => simp [Rows.uptoBulk]
  | iface a d => simp [Rows.uptoBulk]
  | map a => simp [Rows.uptoBulk]
  | held a => simp [Rows.uptoBulk]
theorem bulk_len {H : Type} : ∀ ds : List (DataW H), ds.length ≤ Rows.uptoBulkAll ds
  | [] => Nat.zero_le _
  | d :: r => by
    have h1 := bulk_pos d
    have h2 := bulk_len r
    have e : Rows.uptoBulkAll (d :: r) = Rows.uptoBulk d + Rows.uptoBulkAll r := by simp [Rows.uptoBulkAll]
    rw [e, List.length_cons]
    omega
/-- A row oas a reading finds it. -/
def GoodR (N : Nat) (fs : List Fld) (r : List Value) : Prop := r.length = fs.length ∧ ∀ (i : Nat) f v, fs[i]? = some f → r[i]? = some v → GoodV N f v
def likeR : List Fld → List Fld → Bool
  | [], [] => true
  | f :: fs, g :: gs => f.like g && likeR fs gs
  | _, _ => false
theorem likeR_len : ∀ {a b : List Fld}, likeR a b = true → a.length = b.length
  | [], [], _ => rfl
  | f :: fs, g :: gs, h => by
    unfold likeR at h
    rw [Bool.and_eq_true] at h
    rw [List.length_cons, List.length_cons, likeR_len h.2]
theorem likeR_at : ∀ {a b : List Fld}, likeR a b = true → ∀ (i : Nat) f g, a[i]? = some f → b[i]? = some g → f.like g = true
  | [], [], _, i, f, g, h, _ => by simp at h
  | f :: fs, g :: gs, h, 0, f', g', h1, h2 => by
    unfold likeR at h
    rw [Bool.and_eq_true] at h
    simp only [List.getElem?_cons_zero, Option.some.injEq] at h1 h2
    subst h1 h2
    exact h.1
  | f :: fs, g :: gs, h, i + 1, f', g', h1, h2 => by
    unfold likeR at h
    rw [Bool.and_eq_true] at h
    exact likeR_at h.2 i f' g' (by simpa using h1) (by simpa using h2)
theorem GoodR.like {N : Nat} {a b : List Fld} {r : List Value} (h : GoodR N a r) (hl : likeR a b = true) : GoodR N b r := by
  refine ⟨h.1.trans (likeR_len hl), fun i g v hg hv => ?_⟩
  have hi : i < a.length := by rw [likeR_len hl]; exact (List.getElem?_eq_some_iff.1 hg).1
  have ha := List.getElem?_eq_getElem hi
  obtain ⟨h1, h2, h3⟩ := h.2 i _ v ha hv
  exact ⟨Fld.like_fits (likeR_at hl i _ g ha hg) h1, h2, h3⟩
theorem GoodR.fits {N : Nat} : ∀ {a : List Fld} {r : List Value}, GoodR N a r → Wr.fits a r
  | [], [], _ => trivial
  | [], _ :: _, h => by have := h.1; simp at this
  | _ :: _, [], h => by have := h.1; simp at this
  | f :: fs, v :: r, h => ⟨(h.2 0 f v rfl rfl).1, GoodR.fits (a := fs) (r := r) ⟨by have := h.1; simpa using this, fun i g u hg hu => h.2 (i + 1) g u (by simpa using hg) (by simpa using hu)⟩⟩
theorem GoodR.lites {N : Nat} {a : List Fld} {r : List Value} (h : GoodR N a r) : Lites N r := fun v hv => by
  obtain ⟨i, hi⟩ := List.mem_iff_getElem?.1 hv
  have hl : i < a.length := by rw [← h.1]; exact (List.getElem?_eq_some_iff.1 hi).1
  exact (h.2 i _ v (List.getElem?_eq_getElem hl) hi).2.1
theorem list_of {α : Type} {p : Nat → α → Prop} : ∀ n : Nat, (∀ i, i < n → ∃ e, p i e) → ∃ l : List α, l.length = n ∧ ∀ i e, l[i]? = some e → p i e
  | 0, _ => ⟨[], rfl, fun i e h => by simp at h⟩
  | n + 1, key => by
    obtain ⟨l, h1, h2⟩ := list_of n (fun i hi => key i (by omega))
    obtain ⟨e, he⟩ := key n (by omega)
    refine ⟨l ++ [e], by simp [h1], fun i e' h => ?_⟩
    rcases Nat.lt_or_ge i l.length with hlt | hge
    · rw [List.getElem?_append_left hlt] at h
      exact h2 i e' h
    · have hil : i = l.length := by
        have := (List.getElem?_eq_some_iff.1 h).1
        simp at this
        omega
      subst hil
      simp at h
      subst h
      rw [h1]
      exact he
theorem getD_some {cs : List Value} {i : Nat} (h : i < cs.length) : cs[i]? = some (cs.getD i undef) := by
  rw [List.getD_eq_getElem?_getD, List.getElem?_eq_getElem h]
  rfl
section
variable {H : Type} {enc : TypeId × Value → H} {P : Program} {W : World} {base : Nat} {spare : Nat → Bool} {held : Bool}
theorem open_list {N n : Nat} {t e : TypeId} {ks : List Fld} {fuel : Nat} {cs : List Value} {x : DataW H × List MemPlace} (ht : P.underlying t = some (.slice e)) (hk : flat P n e = some ks) (hC : P.cellsOf e = ks.length)
    (h : DataW.trod enc P W base spare held fuel t cs = some x) (hN : Rows.uptoBulk x.1 ≤ N) :
    ∃ sv rows, cs = [sv] ∧ ListRd W sv ks.length rows ∧ rows.length ≤ N ∧ ∀ r, r ∈ rows → GoodR N ks r := by
  rcases open_slice ht h with ⟨rfl, _⟩ | ⟨a, len, cap, m, n', D, Pl, rfl, hb, hl, hm, hmm, rfl, hx⟩
  · exact ⟨_, [], rfl, ⟨none, 0, rfl, fun _ => rfl, fun h => absurd rfl h⟩, Nat.zero_le _, fun r hr => nomatch hr⟩
  have hlm : len ≤ m := by rw [hmm]; split <;> omega
  have hB : Rows.uptoBulkAll ((List.range len).map D) + 1 ≤ N := by
    have e : Rows.uptoBulk (.slice ((List.range len).map D) ((List.range (m - len)).map fun j => D (len + j)) : DataW H) = Rows.uptoBulkAll ((List.range len).map D) + Rows.uptoBulkAll ((List.range (m - len)).map fun j => D (len + j)) + 1 := by simp [Rows.uptoBulk]
    have h2 : Rows.uptoBulk (.slice ((List.range len).map D) ((List.range (m - len)).map fun j => D (len + j)) : DataW H) ≤ N := hN
    rw [e] at h2
    omega
  have hlen : len ≤ N := by
    have := bulk_len ((List.range len).map D)
    rw [List.length_map, List.length_range] at this
    omega
  obtain ⟨rows, h1, h2⟩ := list_of (p := fun i r => (∀ (j : Nat) v, r[j]? = some v → W.cell? (a.add (i * ks.length + j)) = some v) ∧ GoodR N ks r) len (fun i hi => by
    obtain ⟨cs', hc, ht'⟩ := hx i (by omega)
    obtain ⟨_, hcl, hat⟩ := World.cells?_some hc
    have hD := bulk_mem (ds := (List.range len).map D) (d := D i) (List.mem_map.2 ⟨i, List.mem_range.2 hi, rfl⟩)
    obtain ⟨_, hg⟩ := trod_flat n e ks hk _ _ _ ht' (show Rows.uptoBulk (D i) ≤ N by omega)
    refine ⟨cs', fun j v hv => ?_, hcl.trans hC, hg⟩
    have hj := (List.getElem?_eq_some_iff.1 hv).1
    rw [← Go.Deep.add_add, ← hC, hat j (by omega), hv])
  subst h1
  refine ⟨_, rows, rfl, ⟨some a, cap, rfl, (fun h => nomatch h), fun _ => ⟨a, rfl, fun k r hr j v hv => (h2 k r hr).1 j v hv⟩⟩, hlen, fun r hr => ?_⟩
  obtain ⟨i, hi⟩ := List.mem_iff_getElem?.1 hr
  exact (h2 i r hi).2
/-- The cells of a message that is read. -/
structure Lying (W : World) (N : Nat) (cs : List Value) : Prop where
  len : cs.length = 26
  good : ∀ i, scalar i = true → ∀ v, cs[i]? = some v → GoodV N (kindOf i) v
  list : ∀ j fs, (j, fs) ∈ lists → ∃ sv rows, cs[j]? = some sv ∧ ListRd W sv fs.length rows ∧ rows.length ≤ N ∧ ∀ r, r ∈ rows → GoodR N fs r
set_option maxRecDepth 100000 in
theorem msg_lying {N : Nat} {fuel : Nat} {cs : List Value} {x : DataW H × List MemPlace} (h : DataW.trod enc Try.prog W base spare held fuel 32 cs = some x) (hN : Rows.uptoBulk x.1 ≤ N) : Lying W N cs := by
  obtain ⟨xs, n, rfl, rfl, hl, hxl, hf⟩ := DataW.trod_struct Try.underlying32 h
  have hlen : cs.length = 26 := hl.trans (by kernel_rfl)
  have hN' : Rows.uptoBulkAll (xs.map (·.1)) + 1 ≤ N := by rw [← bulk_agg]; exact hN
  have get : ∀ (j : Nat) (f : Field), DataW.trod enc Try.prog W base spare held n f.type ((cs.drop f.offset).take (Try.prog.cellsOf f.type)) = xs[j]? → j < xs.length → ∃ y, DataW.trod enc Try.prog W base spare held n f.type ((cs.drop f.offset).take (Try.prog.cellsOf f.type)) = some y ∧ Rows.uptoBulk y.1 ≤ N := by
    intro j f he hj
    rw [List.getElem?_eq_getElem hj] at he
    have := bulk_mem (List.mem_map_of_mem (f := (·.1)) (List.getElem_mem hj))
    exact ⟨_, he, by omega⟩
  have flatAt : ∀ (j : Nat) (f : Field) (ks : List Fld), DataW.trod enc Try.prog W base spare held n f.type ((cs.drop f.offset).take (Try.prog.cellsOf f.type)) = xs[j]? → j < xs.length → flat Try.prog 4 f.type = some ks → ∀ (i o : Nat) g v, ks[i]? = some g → f.offset + i = o → cs[o]? = some v → GoodV N g v := by
    intro j f ks he hj hk i o g v hi ho hv
    obtain ⟨y, hy, hb⟩ := get j f he hj
    obtain ⟨h1, h2⟩ := trod_flat 4 _ ks hk _ _ _ hy hb
    refine h2 i g v hi ?_
    have hil := (List.getElem?_eq_some_iff.1 hi).1
    rw [List.length_take] at h1
    rw [List.getElem?_take, if_pos (by omega), List.getElem?_drop, ho]
    exact hv
  have listAt : ∀ (j : Nat) (f : Field) (e : TypeId) (ks fs : List Fld), DataW.trod enc Try.prog W base spare held n f.type ((cs.drop f.offset).take (Try.prog.cellsOf f.type)) = xs[j]? → j < xs.length → Try.prog.underlying f.type = some (.slice e) → flat Try.prog 4 e = some ks → Try.prog.cellsOf e = ks.length → likeR ks fs = true → ∃ sv rows, cs[f.offset]? = some sv ∧ ListRd W sv fs.length rows ∧ rows.length ≤ N ∧ ∀ r, r ∈ rows → GoodR N fs r := by
    intro j f e ks fs he hj hu hk hC hlk
    obtain ⟨y, hy, hb⟩ := get j f he hj
    obtain ⟨sv, rows, h1, h2, h3, h4⟩ := open_list hu hk hC hy hb
    refine ⟨sv, rows, ?_, likeR_len hlk ▸ h2, h3, fun r hr => (h4 r hr).like hlk⟩
    have h5 : ((cs.drop f.offset).take (Try.prog.cellsOf f.type))[0]? = some sv := by rw [h1]; rfl
    rw [List.getElem?_take] at h5
    split at h5
    · rw [List.getElem?_drop, Nat.add_zero] at h5
      exact h5
    · cases h5
  have hxs : xs.length = 20 := hxl
  refine ⟨hlen, fun i hi v hv => ?_, fun j fs hj => ?_⟩
  · match i, hi with
    | 0, _ => exact flatAt 0 _ [.num 0 0] (hf 0 _ rfl) (by omega) (by kernel_rfl) 0 0 _ v rfl rfl hv
    | 1, _ => exact flatAt 1 _ [.num 0 0] (hf 1 _ rfl) (by omega) (by kernel_rfl) 0 1 _ v rfl rfl hv
    | 2, _ => exact flatAt 2 _ [.num 0 0] (hf 2 _ rfl) (by omega) (by kernel_rfl) 0 2 _ v rfl rfl hv
    | 3, hi => exact absurd hi (by decide)
    | 4, _ => exact flatAt 4 _ [.num 0 0, .num 0 0] (hf 4 _ rfl) (by omega) (by kernel_rfl) 0 4 _ v rfl rfl hv
    | 5, _ => exact flatAt 4 _ [.num 0 0, .num 0 0] (hf 4 _ rfl) (by omega) (by kernel_rfl) 1 5 _ v rfl rfl hv
    | 6, _ => exact flatAt 5 _ [.num 0 0] (hf 5 _ rfl) (by omega) (by kernel_rfl) 0 6 _ v rfl rfl hv
    | 7, _ => exact flatAt 6 _ [.num 0 0] (hf 6 _ rfl) (by omega) (by kernel_rfl) 0 7 _ v rfl rfl hv
    | 8, hi => exact absurd hi (by decide)
    | 9, hi => exact absurd hi (by decide)
    | 10, hi => exact absurd hi (by decide)
    | 11, _ => exact flatAt 10 _ [.num 0 0, .num 0 0] (hf 10 _ rfl) (by omega) (by kernel_rfl) 0 11 _ v rfl rfl hv
    | 12, _ => exact flatAt 10 _ [.num 0 0, .num 0 0] (hf 10 _ rfl) (by omega) (by kernel_rfl) 1 12 _ v rfl rfl hv
    | 13, _ => exact flatAt 11 _ [.flag] (hf 11 _ rfl) (by omega) (by kernel_rfl) 0 13 _ v rfl rfl hv
    | 14, _ => exact flatAt 12 _ [.num 0 0] (hf 12 _ rfl) (by omega) (by kernel_rfl) 0 14 _ v rfl rfl hv
    | 15, _ => exact flatAt 13 _ [.num 0 0] (hf 13 _ rfl) (by omega) (by kernel_rfl) 0 15 _ v rfl rfl hv
    | 16, _ => exact flatAt 14 _ [.text 0] (hf 14 _ rfl) (by omega) (by kernel_rfl) 0 16 _ v rfl rfl hv
    | 17, _ => exact flatAt 15 _ [.flag] (hf 15 _ rfl) (by omega) (by kernel_rfl) 0 17 _ v rfl rfl hv
    | 18, _ => exact flatAt 16 _ [.text 0] (hf 16 _ rfl) (by omega) (by kernel_rfl) 0 18 _ v rfl rfl hv
    | 19, _ => exact flatAt 17 _ [.num 0 0, .num 0 0] (hf 17 _ rfl) (by omega) (by kernel_rfl) 0 19 _ v rfl rfl hv
    | 20, _ => exact flatAt 17 _ [.num 0 0, .num 0 0] (hf 17 _ rfl) (by omega) (by kernel_rfl) 1 20 _ v rfl rfl hv
    | 21, _ => exact flatAt 18 _ [.num 0 0] (hf 18 _ rfl) (by omega) (by kernel_rfl) 0 21 _ v rfl rfl hv
    | 22, _ => exact flatAt 19 _ [.num 0 0, .num 0 0, .flag, .text 0] (hf 19 _ rfl) (by omega) (by kernel_rfl) 0 22 _ v rfl rfl hv
    | 23, _ => exact flatAt 19 _ [.num 0 0, .num 0 0, .flag, .text 0] (hf 19 _ rfl) (by omega) (by kernel_rfl) 1 23 _ v rfl rfl hv
    | 24, _ => exact flatAt 19 _ [.num 0 0, .num 0 0, .flag, .text 0] (hf 19 _ rfl) (by omega) (by kernel_rfl) 2 24 _ v rfl rfl hv
    | 25, _ => exact flatAt 19 _ [.num 0 0, .num 0 0, .flag, .text 0] (hf 19 _ rfl) (by omega) (by kernel_rfl) 3 25 _ v rfl rfl hv
    | i + 26, hi => exfalso; unfold scalar at hi; rw [Bool.and_eq_true] at hi; have := of_decide_eq_true hi.1; omega
  · simp only [lists, List.mem_cons, Prod.mk.injEq, List.not_mem_nil, or_false] at hj
    rcases hj with ⟨rfl, rfl⟩ | ⟨rfl, rfl⟩ | ⟨rfl, rfl⟩ | ⟨rfl, rfl⟩
    · exact listAt 3 _ 66 [.num 0 0, .num 0 0, .num 0 0, .num 0 0, .text 0, .flag, .text 0] entryF (hf 3 _ rfl) (by omega) Try.underlying22 (by kernel_rfl) (by kernel_rfl) rfl
    · exact listAt 7 _ 68 [.text 0, .num 0 0, .num 0 0, .flag, .text 0] pairF (hf 7 _ rfl) (by omega) Try.underlying25 (by kernel_rfl) (by kernel_rfl) rfl
    · exact listAt 8 _ 70 [.num 0 0, .num 0 0, .num 0 0, .num 0 0] seenF (hf 8 _ rfl) (by omega) Try.underlying26 (by kernel_rfl) (by kernel_rfl) rfl
    · exact listAt 9 _ 72 [.num 0 0, .num 0 0, .flag] epochF (hf 9 _ rfl) (by omega) Try.underlying27 (by kernel_rfl) (by kernel_rfl) rfl
/-- The message that the cells tell. -/
def msgOf (cs : List Value) (L : Nat → List (List Value)) : M := ⟨fun i => if scalar i = true then cs.getD i undef else undef, L⟩
/-- A message without anything off its cells and lists; a number is one of the machine's. -/
structure Neat (m : M) : Prop where
  off : ∀ i, scalar i = false → m.c i = undef
  none : ∀ j, (∀ fs, (j, fs) ∉ lists) → m.L j = []
  wf : ∀ i n, m.c i = .int .i64 n → (Lit.int .i64 n).wf = true
  wfs : ∀ j r, r ∈ m.L j → ∀ v, v ∈ r → ∀ n, v = .int .i64 n → (Lit.int .i64 n).wf = true
theorem Neat.eq {a b : M} (ha : Neat a) (hb : Neat b) (h : MEq a b) : a = b := by
  obtain ⟨c, L⟩ := a
  obtain ⟨c', L'⟩ := b
  have h1 : c = c' := by
    funext i
    cases hs : scalar i with
    | true => exact h.1 i hs
    | false => exact (ha.off i hs).trans (hb.off i hs).symm
  have h2 : L = L' := by
    funext j
    by_cases hj : ∃ fs, (j, fs) ∈ lists
    · obtain ⟨fs, hj⟩ := hj
      exact h.2 j fs hj
    · have hj' : ∀ fs, (j, fs) ∉ lists := fun fs h => hj ⟨fs, h⟩
      exact (ha.none j hj').trans (hb.none j hj').symm
  rw [h1, h2]
theorem list26 {cs : List Value} (h : cs.length = 26) : cs = [cs.getD 0 undef, cs.getD 1 undef, cs.getD 2 undef, cs.getD 3 undef, cs.getD 4 undef, cs.getD 5 undef, cs.getD 6 undef, cs.getD 7 undef, cs.getD 8 undef, cs.getD 9 undef, cs.getD 10 undef, cs.getD 11 undef, cs.getD 12 undef, cs.getD 13 undef, cs.getD 14 undef, cs.getD 15 undef, cs.getD 16 undef, cs.getD 17 undef, cs.getD 18 undef, cs.getD 19 undef, cs.getD 20 undef, cs.getD 21 undef, cs.getD 22 undef, cs.getD 23 undef, cs.getD 24 undef, cs.getD 25 undef] := by
  apply List.ext_getElem?
  intro i
  rcases Nat.lt_or_ge i 26 with hi | hi
  · match i, hi with
    | 0, _ => exact getD_some (by omega)
    | 1, _ => exact getD_some (by omega)
    | 2, _ => exact getD_some (by omega)
    | 3, _ => exact getD_some (by omega)
    | 4, _ => exact getD_some (by omega)
    | 5, _ => exact getD_some (by omega)
    | 6, _ => exact getD_some (by omega)
    | 7, _ => exact getD_some (by omega)
    | 8, _ => exact getD_some (by omega)
    | 9, _ => exact getD_some (by omega)
    | 10, _ => exact getD_some (by omega)
    | 11, _ => exact getD_some (by omega)
    | 12, _ => exact getD_some (by omega)
    | 13, _ => exact getD_some (by omega)
    | 14, _ => exact getD_some (by omega)
    | 15, _ => exact getD_some (by omega)
    | 16, _ => exact getD_some (by omega)
    | 17, _ => exact getD_some (by omega)
    | 18, _ => exact getD_some (by omega)
    | 19, _ => exact getD_some (by omega)
    | 20, _ => exact getD_some (by omega)
    | 21, _ => exact getD_some (by omega)
    | 22, _ => exact getD_some (by omega)
    | 23, _ => exact getD_some (by omega)
    | 24, _ => exact getD_some (by omega)
    | 25, _ => exact getD_some (by omega)
    | i + 26, hi => omega
  · rw [List.getElem?_eq_none (by omega), List.getElem?_eq_none (by simpa using hi)]
set_option maxRecDepth 100000 in
theorem open_msg {N : Nat} {b0 : Nat} {v : Value} {d : DataW H} {p : List MemPlace} (hv : Value.okWide Try.prog W .any b0 32 v) (h : DataW.Trod enc Try.prog W base spare held 32 v d p) (hN : Rows.uptoBulk d ≤ N) (hN1 : N ≤ 1048576) :
    ∃ m sv, MsgRd W v m sv ∧ Small m ∧ Neat m := by
  obtain ⟨arr, rfl, _⟩ := okWide_struct Try.underlying32 hv
  obtain ⟨fuel, hf⟩ := h
  have hL : Lying W N arr.toList := msg_lying hf hN
  obtain ⟨cs, rfl⟩ : ∃ cs : List Value, arr = cs.toArray := ⟨arr.toList, by simp⟩
  have hL : Lying W N cs := by simpa using hL
  have hlist : ∀ j, ∃ rows : List (List Value), (∀ fs, (j, fs) ∈ lists → ListRd W (cs.getD j undef) fs.length rows ∧ rows.length ≤ N ∧ ∀ r, r ∈ rows → GoodR N fs r) ∧ ((∀ fs, (j, fs) ∉ lists) → rows = []) := by
    intro j
    by_cases hj : ∃ fs, (j, fs) ∈ lists
    · obtain ⟨fs, hj⟩ := hj
      obtain ⟨sv, rows, h1, h2, h3, h4⟩ := hL.list j fs hj
      have e : cs.getD j undef = sv := by rw [List.getD_eq_getElem?_getD, h1]; rfl
      refine ⟨rows, fun fs' hj' => ?_, fun hn => absurd hj (hn fs)⟩
      obtain rfl : fs' = fs := lists_one hj' hj
      rw [e]
      exact ⟨h2, h3, h4⟩
    · exact ⟨[], fun fs hf => absurd ⟨fs, hf⟩ hj, fun _ => rfl⟩
  obtain ⟨L, hLs⟩ : ∃ L : Nat → List (List Value), ∀ j, (∀ fs, (j, fs) ∈ lists → ListRd W (cs.getD j undef) fs.length (L j) ∧ (L j).length ≤ N ∧ ∀ r, r ∈ L j → GoodR N fs r) ∧ ((∀ fs, (j, fs) ∉ lists) → L j = []) :=
    ⟨fun j => Classical.choose (hlist j), fun j => Classical.choose_spec (hlist j)⟩
  have hcell : ∀ i, scalar i = true → GoodV N (kindOf i) (cs.getD i undef) := fun i hi => by
    have hl : i < cs.length := by
      rw [hL.len]
      unfold scalar at hi
      rw [Bool.and_eq_true] at hi
      exact of_decide_eq_true hi.1
    exact hL.good i hi _ (getD_some hl)
  have hrow : ∀ j r, r ∈ L j → ∃ fs, (j, fs) ∈ lists ∧ GoodR N fs r := fun j r hr => by
    by_cases hj : ∃ fs, (j, fs) ∈ lists
    · obtain ⟨fs, hj⟩ := hj
      exact ⟨fs, hj, ((hLs j).1 fs hj).2.2 r hr⟩
    · rw [(hLs j).2 (fun fs hf => hj ⟨fs, hf⟩)] at hr
      nomatch hr
  have c_of : ∀ i, scalar i = true → (msgOf cs L).c i = cs.getD i undef := fun i hi => if_pos hi
  have hFit : Fit (msgOf cs L) := fun j fs hj r hr => (((hLs j).1 fs hj).2.2 r hr).fits
  refine ⟨msgOf cs L, fun j => cs.getD j undef, ⟨?_, fun i hi => ?_, hFit, fun j fs hj => ((hLs j).1 fs hj).1⟩, ⟨⟨fun i => ?_, fun j r hr => ?_⟩, fun j => ?_, Fit.wide hFit (fun j hj => (hLs j).2 hj)⟩, ⟨fun i hi => ?_, fun j hj => (hLs j).2 hj, fun i n hn => ?_, fun j r hr v hv n hn => ?_⟩⟩
  · show Value.agg cs.toArray = Value.agg (msgC (msgOf cs L).c fun j => cs.getD j undef)
    unfold msgC
    rw [c_of 0 rfl, c_of 1 rfl, c_of 2 rfl, c_of 4 rfl, c_of 5 rfl, c_of 6 rfl, c_of 7 rfl, c_of 11 rfl, c_of 12 rfl, c_of 13 rfl, c_of 14 rfl, c_of 15 rfl, c_of 16 rfl, c_of 17 rfl, c_of 18 rfl, c_of 19 rfl, c_of 20 rfl, c_of 21 rfl, c_of 22 rfl, c_of 23 rfl, c_of 24 rfl, c_of 25 rfl]
    exact congrArg (fun l : List Value => Value.agg l.toArray) (list26 hL.len)
  · rw [c_of i hi]
    exact (hcell i hi).1
  · cases hi : scalar i with
    | true =>
      rw [c_of i hi]
      intro s hs
      exact Nat.le_trans ((hcell i hi).2.1 s hs) hN1
    | false =>
      have e : (msgOf cs L).c i = undef := by show (if scalar i = true then _ else _) = _; rw [hi]; rfl
      rw [e]
      intro s hs
      nomatch hs
  · obtain ⟨fs, hj, hg⟩ := hrow j r hr
    intro v hv s hs
    exact Nat.le_trans (hg.lites v hv s hs) hN1
  · by_cases hj : ∃ fs, (j, fs) ∈ lists
    · obtain ⟨fs, hj⟩ := hj
      exact Nat.le_trans ((hLs j).1 fs hj).2.1 hN1
    · show (L j).length ≤ _
      rw [(hLs j).2 (fun fs hf => hj ⟨fs, hf⟩)]
      exact Nat.zero_le _
  · show (if scalar i = true then _ else _) = _
    rw [hi]
    rfl
  · cases hi : scalar i with
    | true => rw [c_of i hi] at hn; exact (hcell i hi).2.2 n hn
    | false =>
      have e : (msgOf cs L).c i = undef := by show (if scalar i = true then _ else _) = _; rw [hi]; rfl
      rw [e] at hn
      nomatch hn
  · obtain ⟨fs, hj, hg⟩ := hrow j r hr
    obtain ⟨i, hi⟩ := List.mem_iff_getElem?.1 hv
    have hl : i < fs.length := by rw [← hg.1]; exact (List.getElem?_eq_some_iff.1 hi).1
    exact (hg.2 i _ v (List.getElem?_eq_getElem hl) hi).2.2 n hn
end
end Go.Proofs.Ytcbehfbfaonanaa.Wr
end

/- Four literals and four appends in one statement, in whatever order: Plain's lists. -/
section
namespace Go.Proofs.Ytcbehfbfaonanaa.Wr
open Go.RowKit Go.Proofs.YtcbehfbfaonanaaW.PrintWords Go.Proofs.YtcbehfbfaonanaaW.PrintLast Go.Proofs.YtcbehfbfaonanaaW.PrintMore Go.Proofs.Ytcbehfbfaonanaa.Pk
set_option linter.unusedVariables false
set_option linter.unusedSimpArgs false

/-- append([]T{}, l...) -/
theorem run_append_lit {P : Program} (w : World) (t ty e : TypeId) (z : Value) (size bytes : Nat) (ht : P.underlying t = some (.slice e)) (hinfo : (P.info? e).map (fun i => (i.zero, i.size, i.bytes)) = some (some z, size, bytes)) (hz : z.cells.size = size) (hs0 : 0 < size) (hb0 : 0 < bytes)
    (g : Nat) (sv : Value) (rows : List (List Value)) (fs : List Fld) (hfs : fs.length = size) (hR : ListRd w sv size rows) (hf : ∀ r, r ∈ rows → fits fs r) (hl : rows.length * bytes ≤ 140737488355328) :
    ∃ v' w', (Builtin.append_ #[t, t] ty #[.slice (some ⟨g, 0, none⟩) 0 0, sv]).run P w = .ok v' w' ∧ Below w.heap.size w w' ∧ ListRd w' v' size rows ∧ ∀ k, arr v' = some k → rows ≠ [] → w.heap.size ≤ k := by
  obtain ⟨i0, hi, hzz⟩ := Option.map_eq_some_iff.1 hinfo
  simp only [Prod.mk.injEq] at hzz
  obtain ⟨hz0, hz1, hz2⟩ := hzz
  have hlr : ∀ r, r ∈ rows → r.length = size := fun r hr => (fits_length (hf r hr)).trans hfs
  have hlen : rows.length ≤ 140737488355328 := Nat.le_trans (Nat.le_mul_of_pos_right _ hb0) hl
  obtain ⟨A, c, rfl, h0, h3⟩ := hR
  by_cases hn : rows = []
  · subst hn
    refine ⟨.slice (some ⟨g, 0, none⟩) 0 0, w, ?_, Below.refl _ _, ⟨_, 0, rfl, fun h => (by cases h), fun h => absurd rfl h⟩, fun _ _ h => absurd rfl h⟩
    cases A with
    | none =>
      rw [h0 rfl]
      simp [Builtin.append_, run_underlying ht, sizeOf, typeInfo, hi, Builtin.lenOf, Builtin.firstCells, storeCells]
    | some ad => simp [Builtin.append_, run_underlying ht, sizeOf, typeInfo, hi, Builtin.lenOf, Builtin.firstCells, storeCells, loadCells, loadCellsFrom]
  · obtain ⟨ad, rfl, h4⟩ := h3 hn
    have hm : 0 < rows.length := List.length_pos_iff.2 hn
    obtain ⟨v', w', hrun, hO, hg⟩ := run_append_arg_grows (P := P) w t ty e i0 z size bytes ht hi hz0 hz1 hz2 hz hs0 ⟨g, 0, none⟩ 0 0 [] (by simp) (by simp) ad rows.length c rows.flatten (flat_length hlr) (fun i u hu => by obtain ⟨k, r, j, k1, k2, k3⟩ := flat_get hlr hu; subst k3; exact h4 k r k1 j u k2) (by omega) (by simp only [maxLen]; omega) (by simpa using hl)
    refine ⟨v', w', hrun, (Below.refl _ _).grown hg (Nat.le_refl _) (fun k hk => by cases hk), ?_⟩
    rw [Nat.zero_add, List.nil_append] at hO
    exact ⟨(listAt_own hlr hO).2.1, fun k hk _ => (listAt_own hlr hO).2.2 k hk⟩
def plOps : Array Oper := #[{ dst := some 3, op := Go.Op.fieldAddr 32 (Go.Operand.tmp 1) 0, type := 0, pos := "law.go:21", after := #[], guard := none }, { dst := some 4, op := Go.Op.load 3 (Go.Operand.tmp 3), type := 3, pos := "law.go:21", after := #[{ on := 0, ground := Go.Ground.data }], guard := none }, { dst := some 5, op := Go.Op.fieldAddr 32 (Go.Operand.tmp 1) 1, type := 0, pos := "law.go:21", after := #[], guard := none }, { dst := some 6, op := Go.Op.load 3 (Go.Operand.tmp 5), type := 3, pos := "law.go:21", after := #[{ on := 2, ground := Go.Ground.data }], guard := none }, { dst := some 7, op := Go.Op.fieldAddr 32 (Go.Operand.tmp 1) 2, type := 0, pos := "law.go:21", after := #[], guard := none }, { dst := some 8, op := Go.Op.load 3 (Go.Operand.tmp 7), type := 3, pos := "law.go:21", after := #[{ on := 4, ground := Go.Ground.data }], guard := none }, { dst := some 9, op := Go.Op.buildSlice 22 0 #[], type := 22, pos := "law.go:21", after := #[], guard := none }, { dst := some 10, op := Go.Op.fieldAddr 32 (Go.Operand.tmp 1) 3, type := 0, pos := "law.go:21", after := #[], guard := none }, { dst := some 11, op := Go.Op.load 22 (Go.Operand.tmp 10), type := 22, pos := "law.go:21", after := #[{ on := 7, ground := Go.Ground.data }], guard := none }, { dst := some 12, op := Go.Op.call { callee := Go.Callee.builtin Go.Builtin.append, args := #[Go.Operand.tmp 9, Go.Operand.tmp 11], argTypes := #[22, 22] }, type := 22, pos := "law.go:21", after := #[{ on := 6, ground := Go.Ground.data }, { on := 8, ground := Go.Ground.data }], guard := none }, { dst := some 13, op := Go.Op.fieldAddr 32 (Go.Operand.tmp 1) 4, type := 0, pos := "law.go:21", after := #[], guard := none }, { dst := some 14, op := Go.Op.load 24 (Go.Operand.tmp 13), type := 24, pos := "law.go:21", after := #[{ on := 10, ground := Go.Ground.data }], guard := none }, { dst := some 15, op := Go.Op.fieldAddr 32 (Go.Operand.tmp 1) 5, type := 0, pos := "law.go:21", after := #[], guard := none }, { dst := some 16, op := Go.Op.load 3 (Go.Operand.tmp 15), type := 3, pos := "law.go:21", after := #[{ on := 12, ground := Go.Ground.data }], guard := none }, { dst := some 17, op := Go.Op.fieldAddr 32 (Go.Operand.tmp 1) 6, type := 0, pos := "law.go:21", after := #[], guard := none }, { dst := some 18, op := Go.Op.load 3 (Go.Operand.tmp 17), type := 3, pos := "law.go:21", after := #[{ on := 14, ground := Go.Ground.data }], guard := none }, { dst := some 19, op := Go.Op.buildSlice 25 0 #[], type := 25, pos := "law.go:21", after := #[], guard := none }, { dst := some 20, op := Go.Op.fieldAddr 32 (Go.Operand.tmp 1) 7, type := 0, pos := "law.go:21", after := #[], guard := none }, { dst := some 21, op := Go.Op.load 25 (Go.Operand.tmp 20), type := 25, pos := "law.go:21", after := #[{ on := 17, ground := Go.Ground.data }], guard := none }, { dst := some 22, op := Go.Op.call { callee := Go.Callee.builtin Go.Builtin.append, args := #[Go.Operand.tmp 19, Go.Operand.tmp 21], argTypes := #[25, 25] }, type := 25, pos := "law.go:21", after := #[{ on := 16, ground := Go.Ground.data }, { on := 18, ground := Go.Ground.data }, { on := 9, ground := Go.Ground.chain }], guard := none }, { dst := some 23, op := Go.Op.buildSlice 26 0 #[], type := 26, pos := "law.go:21", after := #[], guard := none }, { dst := some 24, op := Go.Op.fieldAddr 32 (Go.Operand.tmp 1) 8, type := 0, pos := "law.go:21", after := #[], guard := none }, { dst := some 25, op := Go.Op.load 26 (Go.Operand.tmp 24), type := 26, pos := "law.go:21", after := #[{ on := 21, ground := Go.Ground.data }], guard := none }, { dst := some 26, op := Go.Op.call { callee := Go.Callee.builtin Go.Builtin.append, args := #[Go.Operand.tmp 23, Go.Operand.tmp 25], argTypes := #[26, 26] }, type := 26, pos := "law.go:21", after := #[{ on := 20, ground := Go.Ground.data }, { on := 22, ground := Go.Ground.data }, { on := 19, ground := Go.Ground.chain }], guard := none }, { dst := some 27, op := Go.Op.buildSlice 27 0 #[], type := 27, pos := "law.go:21", after := #[], guard := none }, { dst := some 28, op := Go.Op.fieldAddr 32 (Go.Operand.tmp 1) 9, type := 0, pos := "law.go:21", after := #[], guard := none }, { dst := some 29, op := Go.Op.load 27 (Go.Operand.tmp 28), type := 27, pos := "law.go:21", after := #[{ on := 25, ground := Go.Ground.data }], guard := none }, { dst := some 30, op := Go.Op.call { callee := Go.Callee.builtin Go.Builtin.append, args := #[Go.Operand.tmp 27, Go.Operand.tmp 29], argTypes := #[27, 27] }, type := 27, pos := "law.go:21", after := #[{ on := 24, ground := Go.Ground.data }, { on := 26, ground := Go.Ground.data }, { on := 23, ground := Go.Ground.chain }], guard := none }, { dst := some 31, op := Go.Op.fieldAddr 32 (Go.Operand.tmp 1) 10, type := 0, pos := "law.go:21", after := #[], guard := none }, { dst := some 32, op := Go.Op.load 24 (Go.Operand.tmp 31), type := 24, pos := "law.go:21", after := #[{ on := 28, ground := Go.Ground.data }], guard := none }, { dst := some 33, op := Go.Op.fieldAddr 32 (Go.Operand.tmp 1) 11, type := 0, pos := "law.go:21", after := #[], guard := none }, { dst := some 34, op := Go.Op.load 4 (Go.Operand.tmp 33), type := 4, pos := "law.go:21", after := #[{ on := 30, ground := Go.Ground.data }], guard := none }, { dst := some 35, op := Go.Op.fieldAddr 32 (Go.Operand.tmp 1) 12, type := 0, pos := "law.go:21", after := #[], guard := none }, { dst := some 36, op := Go.Op.load 3 (Go.Operand.tmp 35), type := 3, pos := "law.go:21", after := #[{ on := 32, ground := Go.Ground.data }], guard := none }, { dst := some 37, op := Go.Op.fieldAddr 32 (Go.Operand.tmp 1) 13, type := 0, pos := "law.go:21", after := #[], guard := none }, { dst := some 38, op := Go.Op.load 3 (Go.Operand.tmp 37), type := 3, pos := "law.go:21", after := #[{ on := 34, ground := Go.Ground.data }], guard := none }, { dst := some 39, op := Go.Op.fieldAddr 32 (Go.Operand.tmp 1) 14, type := 0, pos := "law.go:21", after := #[], guard := none }, { dst := some 40, op := Go.Op.load 9 (Go.Operand.tmp 39), type := 9, pos := "law.go:21", after := #[{ on := 36, ground := Go.Ground.data }], guard := none }, { dst := some 41, op := Go.Op.fieldAddr 32 (Go.Operand.tmp 1) 15, type := 0, pos := "law.go:21", after := #[], guard := none }, { dst := some 42, op := Go.Op.load 4 (Go.Operand.tmp 41), type := 4, pos := "law.go:21", after := #[{ on := 38, ground := Go.Ground.data }], guard := none }, { dst := some 43, op := Go.Op.fieldAddr 32 (Go.Operand.tmp 1) 16, type := 0, pos := "law.go:21", after := #[], guard := none }, { dst := some 44, op := Go.Op.load 9 (Go.Operand.tmp 43), type := 9, pos := "law.go:21", after := #[{ on := 40, ground := Go.Ground.data }], guard := none }, { dst := some 45, op := Go.Op.fieldAddr 32 (Go.Operand.tmp 1) 17, type := 0, pos := "law.go:21", after := #[], guard := none }, { dst := some 46, op := Go.Op.load 24 (Go.Operand.tmp 45), type := 24, pos := "law.go:21", after := #[{ on := 42, ground := Go.Ground.data }], guard := none }, { dst := some 47, op := Go.Op.fieldAddr 32 (Go.Operand.tmp 1) 18, type := 0, pos := "law.go:21", after := #[], guard := none }, { dst := some 48, op := Go.Op.load 28 (Go.Operand.tmp 47), type := 28, pos := "law.go:21", after := #[{ on := 44, ground := Go.Ground.data }], guard := none }, { dst := some 49, op := Go.Op.fieldAddr 32 (Go.Operand.tmp 1) 19, type := 0, pos := "law.go:21", after := #[], guard := none }, { dst := some 50, op := Go.Op.load 30 (Go.Operand.tmp 49), type := 30, pos := "law.go:21", after := #[{ on := 46, ground := Go.Ground.data }], guard := none }, { dst := some 51, op := Go.Op.build 35 #[(0, Go.Operand.tmp 4), (1, Go.Operand.tmp 6), (2, Go.Operand.tmp 8), (3, Go.Operand.tmp 12), (4, Go.Operand.tmp 14), (5, Go.Operand.tmp 16), (6, Go.Operand.tmp 18), (7, Go.Operand.tmp 22), (8, Go.Operand.tmp 26), (9, Go.Operand.tmp 30), (10, Go.Operand.tmp 32), (11, Go.Operand.tmp 34), (12, Go.Operand.tmp 36), (13, Go.Operand.tmp 38), (14, Go.Operand.tmp 40), (15, Go.Operand.tmp 42), (16, Go.Operand.tmp 44), (17, Go.Operand.tmp 46), (18, Go.Operand.tmp 48), (19, Go.Operand.tmp 50)], type := 35, pos := "law.go:21", after := #[{ on := 1, ground := Go.Ground.data }, { on := 3, ground := Go.Ground.data }, { on := 5, ground := Go.Ground.data }, { on := 9, ground := Go.Ground.data }, { on := 11, ground := Go.Ground.data }, { on := 13, ground := Go.Ground.data }, { on := 15, ground := Go.Ground.data }, { on := 19, ground := Go.Ground.data }, { on := 23, ground := Go.Ground.data }, { on := 27, ground := Go.Ground.data }, { on := 29, ground := Go.Ground.data }, { on := 31, ground := Go.Ground.data }, { on := 33, ground := Go.Ground.data }, { on := 35, ground := Go.Ground.data }, { on := 37, ground := Go.Ground.data }, { on := 39, ground := Go.Ground.data }, { on := 41, ground := Go.Ground.data }, { on := 43, ground := Go.Ground.data }, { on := 45, ground := Go.Ground.data }, { on := 47, ground := Go.Ground.data }], guard := none }, { dst := none, op := Go.Op.store 35 (Go.Operand.tmp 2) (Go.Operand.tmp 51), type := 0, pos := "law.go:21", after := #[{ on := 48, ground := Go.Ground.data }, { on := 27, ground := Go.Ground.chain }, { on := 0, ground := Go.Ground.phase }, { on := 1, ground := Go.Ground.phase }, { on := 2, ground := Go.Ground.phase }, { on := 3, ground := Go.Ground.phase }, { on := 4, ground := Go.Ground.phase }, { on := 5, ground := Go.Ground.phase }, { on := 6, ground := Go.Ground.phase }, { on := 7, ground := Go.Ground.phase }, { on := 8, ground := Go.Ground.phase }, { on := 9, ground := Go.Ground.phase }, { on := 10, ground := Go.Ground.phase }, { on := 11, ground := Go.Ground.phase }, { on := 12, ground := Go.Ground.phase }, { on := 13, ground := Go.Ground.phase }, { on := 14, ground := Go.Ground.phase }, { on := 15, ground := Go.Ground.phase }, { on := 16, ground := Go.Ground.phase }, { on := 17, ground := Go.Ground.phase }, { on := 18, ground := Go.Ground.phase }, { on := 19, ground := Go.Ground.phase }, { on := 20, ground := Go.Ground.phase }, { on := 21, ground := Go.Ground.phase }, { on := 22, ground := Go.Ground.phase }, { on := 23, ground := Go.Ground.phase }, { on := 24, ground := Go.Ground.phase }, { on := 25, ground := Go.Ground.phase }, { on := 26, ground := Go.Ground.phase }, { on := 27, ground := Go.Ground.phase }, { on := 28, ground := Go.Ground.phase }, { on := 29, ground := Go.Ground.phase }, { on := 30, ground := Go.Ground.phase }, { on := 31, ground := Go.Ground.phase }, { on := 32, ground := Go.Ground.phase }, { on := 33, ground := Go.Ground.phase }, { on := 34, ground := Go.Ground.phase }, { on := 35, ground := Go.Ground.phase }, { on := 36, ground := Go.Ground.phase }, { on := 37, ground := Go.Ground.phase }, { on := 38, ground := Go.Ground.phase }, { on := 39, ground := Go.Ground.phase }, { on := 40, ground := Go.Ground.phase }, { on := 41, ground := Go.Ground.phase }, { on := 42, ground := Go.Ground.phase }, { on := 43, ground := Go.Ground.phase }, { on := 44, ground := Go.Ground.phase }, { on := 45, ground := Go.Ground.phase }, { on := 46, ground := Go.Ground.phase }, { on := 47, ground := Go.Ground.phase }, { on := 48, ground := Go.Ground.phase }], guard := none }]
def plB : Nat → Nat
  | 0 => 6
  | 1 => 16
  | 2 => 20
  | _ => 24
def slB : Nat → Nat
  | 0 => 9
  | 1 => 19
  | 2 => 23
  | _ => 27
def plA : Nat → Nat
  | 0 => 9
  | 1 => 19
  | 2 => 23
  | _ => 27
def slA : Nat → Nat
  | 0 => 12
  | 1 => 22
  | 2 => 26
  | _ => 30
def slL : Nat → Nat
  | 0 => 11
  | 1 => 21
  | 2 => 25
  | _ => 29
def plC : Nat → Nat
  | 0 => 3
  | 1 => 8
  | 2 => 9
  | _ => 10
def plF : Nat → List Fld
  | 0 => entryF
  | 1 => pairF
  | 2 => seenF
  | _ => epochF
set_option maxRecDepth 100000 in
theorem plB_0 {Q : Exit → Act → World → Prop} {a : Act} {w : World} {K : Act → World → Prop} (h : ∀ g w', Below w.heap.size w w' → K (a.put (some (slB 0)) (.slice (some ⟨g, 0, none⟩) 0 0)) w') : wpOp Try.prog plOps Q (plB 0) K a w := by
  refine wpOp_step (o := { dst := some 9, op := Go.Op.buildSlice 22 0 #[], type := 22, pos := "law.go:21", after := #[], guard := none }) rfl (fun K' hK => ?_)
  rw [if_pos (by rfl)]
  have hrun : (execOp a.eval { dst := some 9, op := Go.Op.buildSlice 22 0 #[], type := 22, pos := "law.go:21", after := #[], guard := none }).run Try.prog w = .ok (.value (.slice (some ⟨w.heap.size, 0, none⟩) 0 0)) (w.alloc (.cells #[] 66)) := by go_simp
  unfold Oper.wp
  rw [hrun]
  exact hK _ _ (h _ _ (below_alloc (Below.refl _ _) _))
set_option maxRecDepth 100000 in
theorem plA_0 {Q : Exit → Act → World → Prop} {a : Act} {w : World} {K : Act → World → Prop} {g : Nat} {sv : Value} {rows : List (List Value)} (hs : Has a (slB 0) (.slice (some ⟨g, 0, none⟩) 0 0)) (hx : Has a (slL 0) sv) (hR : ListRd w sv (plF 0).length rows) (hf : ∀ r, r ∈ rows → fits (plF 0) r) (hn : rows.length ≤ 1048576)
    (h : ∀ v' w', Below w.heap.size w w' → ListRd w' v' (plF 0).length rows → (∀ k, arr v' = some k → rows ≠ [] → w.heap.size ≤ k) → K (a.put (some (slA 0)) v') w') : wpOp Try.prog plOps Q (plA 0) K a w := by
  refine wpOp_step (o := { dst := some 12, op := Go.Op.call { callee := Go.Callee.builtin Go.Builtin.append, args := #[Go.Operand.tmp 9, Go.Operand.tmp 11], argTypes := #[22, 22] }, type := 22, pos := "law.go:21", after := #[{ on := 6, ground := Go.Ground.data }, { on := 8, ground := Go.Ground.data }], guard := none }) rfl (fun K' hK => ?_)
  rw [if_pos (by rfl)]
  obtain ⟨v', w', hrun, hB, hR', hF'⟩ := run_append_lit (P := Try.prog) w 22 22 66 _ 7 72 Try.underlying22 infoEntry rfl (by omega) (by omega) g sv rows entryF rfl hR hf (by omega)
  unfold Oper.wp execOp
  have e1 : a.eval (.tmp 9) = .slice (some ⟨g, 0, none⟩) 0 0 := hs.eval
  have e2 : a.eval (.tmp 11) = sv := hx.eval
  simp only [resolve, invoke, builtin, Sem.run_bind, Sem.run_pure, Result.andThen_ok, List.map_toArray, List.map_cons, List.map_nil, e1, e2, hrun]
  exact hK _ _ (h v' w' hB hR' hF')
set_option maxRecDepth 100000 in
theorem plB_1 {Q : Exit → Act → World → Prop} {a : Act} {w : World} {K : Act → World → Prop} (h : ∀ g w', Below w.heap.size w w' → K (a.put (some (slB 1)) (.slice (some ⟨g, 0, none⟩) 0 0)) w') : wpOp Try.prog plOps Q (plB 1) K a w := by
  refine wpOp_step (o := { dst := some 19, op := Go.Op.buildSlice 25 0 #[], type := 25, pos := "law.go:21", after := #[], guard := none }) rfl (fun K' hK => ?_)
  rw [if_pos (by rfl)]
  have hrun : (execOp a.eval { dst := some 19, op := Go.Op.buildSlice 25 0 #[], type := 25, pos := "law.go:21", after := #[], guard := none }).run Try.prog w = .ok (.value (.slice (some ⟨w.heap.size, 0, none⟩) 0 0)) (w.alloc (.cells #[] 68)) := by go_simp
  unfold Oper.wp
  rw [hrun]
  exact hK _ _ (h _ _ (below_alloc (Below.refl _ _) _))
set_option maxRecDepth 100000 in
theorem plA_1 {Q : Exit → Act → World → Prop} {a : Act} {w : World} {K : Act → World → Prop} {g : Nat} {sv : Value} {rows : List (List Value)} (hs : Has a (slB 1) (.slice (some ⟨g, 0, none⟩) 0 0)) (hx : Has a (slL 1) sv) (hR : ListRd w sv (plF 1).length rows) (hf : ∀ r, r ∈ rows → fits (plF 1) r) (hn : rows.length ≤ 1048576)
    (h : ∀ v' w', Below w.heap.size w w' → ListRd w' v' (plF 1).length rows → (∀ k, arr v' = some k → rows ≠ [] → w.heap.size ≤ k) → K (a.put (some (slA 1)) v') w') : wpOp Try.prog plOps Q (plA 1) K a w := by
  refine wpOp_step (o := { dst := some 22, op := Go.Op.call { callee := Go.Callee.builtin Go.Builtin.append, args := #[Go.Operand.tmp 19, Go.Operand.tmp 21], argTypes := #[25, 25] }, type := 25, pos := "law.go:21", after := #[{ on := 16, ground := Go.Ground.data }, { on := 18, ground := Go.Ground.data }, { on := 9, ground := Go.Ground.chain }], guard := none }) rfl (fun K' hK => ?_)
  rw [if_pos (by rfl)]
  obtain ⟨v', w', hrun, hB, hR', hF'⟩ := run_append_lit (P := Try.prog) w 25 25 68 _ 5 56 Try.underlying25 infoPair rfl (by omega) (by omega) g sv rows pairF rfl hR hf (by omega)
  unfold Oper.wp execOp
  have e1 : a.eval (.tmp 19) = .slice (some ⟨g, 0, none⟩) 0 0 := hs.eval
  have e2 : a.eval (.tmp 21) = sv := hx.eval
  simp only [resolve, invoke, builtin, Sem.run_bind, Sem.run_pure, Result.andThen_ok, List.map_toArray, List.map_cons, List.map_nil, e1, e2, hrun]
  exact hK _ _ (h v' w' hB hR' hF')
set_option maxRecDepth 100000 in
theorem plB_2 {Q : Exit → Act → World → Prop} {a : Act} {w : World} {K : Act → World → Prop} (h : ∀ g w', Below w.heap.size w w' → K (a.put (some (slB 2)) (.slice (some ⟨g, 0, none⟩) 0 0)) w') : wpOp Try.prog plOps Q (plB 2) K a w := by
  refine wpOp_step (o := { dst := some 23, op := Go.Op.buildSlice 26 0 #[], type := 26, pos := "law.go:21", after := #[], guard := none }) rfl (fun K' hK => ?_)
  rw [if_pos (by rfl)]
  have hrun : (execOp a.eval { dst := some 23, op := Go.Op.buildSlice 26 0 #[], type := 26, pos := "law.go:21", after := #[], guard := none }).run Try.prog w = .ok (.value (.slice (some ⟨w.heap.size, 0, none⟩) 0 0)) (w.alloc (.cells #[] 70)) := by go_simp
  unfold Oper.wp
  rw [hrun]
  exact hK _ _ (h _ _ (below_alloc (Below.refl _ _) _))
set_option maxRecDepth 100000 in
theorem plA_2 {Q : Exit → Act → World → Prop} {a : Act} {w : World} {K : Act → World → Prop} {g : Nat} {sv : Value} {rows : List (List Value)} (hs : Has a (slB 2) (.slice (some ⟨g, 0, none⟩) 0 0)) (hx : Has a (slL 2) sv) (hR : ListRd w sv (plF 2).length rows) (hf : ∀ r, r ∈ rows → fits (plF 2) r) (hn : rows.length ≤ 1048576)
    (h : ∀ v' w', Below w.heap.size w w' → ListRd w' v' (plF 2).length rows → (∀ k, arr v' = some k → rows ≠ [] → w.heap.size ≤ k) → K (a.put (some (slA 2)) v') w') : wpOp Try.prog plOps Q (plA 2) K a w := by
  refine wpOp_step (o := { dst := some 26, op := Go.Op.call { callee := Go.Callee.builtin Go.Builtin.append, args := #[Go.Operand.tmp 23, Go.Operand.tmp 25], argTypes := #[26, 26] }, type := 26, pos := "law.go:21", after := #[{ on := 20, ground := Go.Ground.data }, { on := 22, ground := Go.Ground.data }, { on := 19, ground := Go.Ground.chain }], guard := none }) rfl (fun K' hK => ?_)
  rw [if_pos (by rfl)]
  obtain ⟨v', w', hrun, hB, hR', hF'⟩ := run_append_lit (P := Try.prog) w 26 26 70 _ 4 32 Try.underlying26 infoSeen rfl (by omega) (by omega) g sv rows seenF rfl hR hf (by omega)
  unfold Oper.wp execOp
  have e1 : a.eval (.tmp 23) = .slice (some ⟨g, 0, none⟩) 0 0 := hs.eval
  have e2 : a.eval (.tmp 25) = sv := hx.eval
  simp only [resolve, invoke, builtin, Sem.run_bind, Sem.run_pure, Result.andThen_ok, List.map_toArray, List.map_cons, List.map_nil, e1, e2, hrun]
  exact hK _ _ (h v' w' hB hR' hF')
set_option maxRecDepth 100000 in
theorem plB_3 {Q : Exit → Act → World → Prop} {a : Act} {w : World} {K : Act → World → Prop} (h : ∀ g w', Below w.heap.size w w' → K (a.put (some (slB 3)) (.slice (some ⟨g, 0, none⟩) 0 0)) w') : wpOp Try.prog plOps Q (plB 3) K a w := by
  refine wpOp_step (o := { dst := some 27, op := Go.Op.buildSlice 27 0 #[], type := 27, pos := "law.go:21", after := #[], guard := none }) rfl (fun K' hK => ?_)
  rw [if_pos (by rfl)]
  have hrun : (execOp a.eval { dst := some 27, op := Go.Op.buildSlice 27 0 #[], type := 27, pos := "law.go:21", after := #[], guard := none }).run Try.prog w = .ok (.value (.slice (some ⟨w.heap.size, 0, none⟩) 0 0)) (w.alloc (.cells #[] 72)) := by go_simp
  unfold Oper.wp
  rw [hrun]
  exact hK _ _ (h _ _ (below_alloc (Below.refl _ _) _))
set_option maxRecDepth 100000 in
theorem plA_3 {Q : Exit → Act → World → Prop} {a : Act} {w : World} {K : Act → World → Prop} {g : Nat} {sv : Value} {rows : List (List Value)} (hs : Has a (slB 3) (.slice (some ⟨g, 0, none⟩) 0 0)) (hx : Has a (slL 3) sv) (hR : ListRd w sv (plF 3).length rows) (hf : ∀ r, r ∈ rows → fits (plF 3) r) (hn : rows.length ≤ 1048576)
    (h : ∀ v' w', Below w.heap.size w w' → ListRd w' v' (plF 3).length rows → (∀ k, arr v' = some k → rows ≠ [] → w.heap.size ≤ k) → K (a.put (some (slA 3)) v') w') : wpOp Try.prog plOps Q (plA 3) K a w := by
  refine wpOp_step (o := { dst := some 30, op := Go.Op.call { callee := Go.Callee.builtin Go.Builtin.append, args := #[Go.Operand.tmp 27, Go.Operand.tmp 29], argTypes := #[27, 27] }, type := 27, pos := "law.go:21", after := #[{ on := 24, ground := Go.Ground.data }, { on := 26, ground := Go.Ground.data }, { on := 23, ground := Go.Ground.chain }], guard := none }) rfl (fun K' hK => ?_)
  rw [if_pos (by rfl)]
  obtain ⟨v', w', hrun, hB, hR', hF'⟩ := run_append_lit (P := Try.prog) w 27 27 72 _ 3 24 Try.underlying27 infoEpoch rfl (by omega) (by omega) g sv rows epochF rfl hR hf (by omega)
  unfold Oper.wp execOp
  have e1 : a.eval (.tmp 27) = .slice (some ⟨g, 0, none⟩) 0 0 := hs.eval
  have e2 : a.eval (.tmp 29) = sv := hx.eval
  simp only [resolve, invoke, builtin, Sem.run_bind, Sem.run_pure, Result.andThen_ok, List.map_toArray, List.map_cons, List.map_nil, e1, e2, hrun]
  exact hK _ _ (h v' w' hB hR' hF')

/-- What has come up: p appends, the literals of c; of the rest all that reads. -/
def lst (p c : Nat) : Array Bool := ((List.range 50).map fun i => if i = 48 ∨ i = 49 then false else if i = 6 then c.testBit 0 else if i = 16 then c.testBit 1 else if i = 20 then c.testBit 2 else if i = 24 then c.testBit 3 else if i = 9 then decide (0 < p) else if i = 19 then decide (1 < p) else if i = 23 then decide (2 < p) else if i = 27 then decide (3 < p) else true).toArray
def pop (c : Nat) : Nat := (if c.testBit 0 then 1 else 0) + (if c.testBit 1 then 1 else 0) + (if c.testBit 2 then 1 else 0) + (if c.testBit 3 then 1 else 0)
def okPC (p c : Nat) : Bool := (List.range 4).all fun j => !(decide (j < p)) || c.testBit j
set_option maxRecDepth 100000 in
theorem pl_readyB : ((List.range 5).all fun p => (List.range 16).all fun c => !(okPC p c) || !(decide (p + pop c < 8)) || (!(Region.ready .any plOps (lst p c)).isEmpty && (Region.ready .any plOps (lst p c)).all fun i => ((List.range 4).any fun j => !(c.testBit j) && i == plB j) || (decide (p < 4) && c.testBit p && i == plA p))) = true := by decide +kernel
theorem pl_ready (p : Nat) (hp : p < 5) (c : Nat) (hc : c < 16) (ho : okPC p c = true) (hl : p + pop c < 8) : Region.ready .any plOps (lst p c) ≠ [] ∧ ∀ i ∈ Region.ready .any plOps (lst p c), (∃ j, j < 4 ∧ c.testBit j = false ∧ i = plB j) ∨ (p < 4 ∧ c.testBit p = true ∧ i = plA p) := by
  have h := List.all_eq_true.1 (List.all_eq_true.1 pl_readyB p (by simpa using hp)) c (by simpa using hc)
  simp only [ho, decide_eq_true hl, Bool.not_true, Bool.false_or, Bool.and_eq_true, Bool.not_eq_true', List.isEmpty_eq_false_iff] at h
  refine ⟨h.1, fun i hi => ?_⟩
  have h2 := List.all_eq_true.1 h.2 i hi
  simp only [Bool.or_eq_true, List.any_eq_true, Bool.and_eq_true, decide_eq_true_eq, beq_iff_eq, List.mem_range, Bool.not_eq_true'] at h2
  rcases h2 with ⟨j, hj, hb, he⟩ | ⟨⟨hp, hb⟩, he⟩
  · exact .inl ⟨j, hj, hb, he⟩
  · exact .inr ⟨hp, hb, he⟩
set_option maxRecDepth 100000 in
theorem pl_setBB : ((List.range 5).all fun p => (List.range 16).all fun c => (List.range 4).all fun j => c.testBit j || ((lst p c).setIfInBounds (plB j) true == lst p (c + 2 ^ j) && decide (c + 2 ^ j < 16) && pop (c + 2 ^ j) == pop c + 1 && (List.range 4).all fun i => (c + 2 ^ j).testBit i == (c.testBit i || decide (i = j)))) = true := by decide +kernel
theorem pl_setB (p : Nat) (hp : p < 5) (c : Nat) (hc : c < 16) (j : Nat) (hj : j < 4) (hb : c.testBit j = false) : (lst p c).setIfInBounds (plB j) true = lst p (c + 2 ^ j) ∧ c + 2 ^ j < 16 ∧ pop (c + 2 ^ j) = pop c + 1 ∧ ∀ i, i < 4 → (c + 2 ^ j).testBit i = (c.testBit i || decide (i = j)) := by
  have h := List.all_eq_true.1 (List.all_eq_true.1 (List.all_eq_true.1 pl_setBB p (by simpa using hp)) c (by simpa using hc)) j (by simpa using hj)
  rw [hb, Bool.false_or] at h
  simp only [Bool.and_eq_true, decide_eq_true_eq, beq_iff_eq] at h
  refine ⟨h.1.1.1, h.1.1.2, h.1.2, fun i hi => ?_⟩
  have h2 := List.all_eq_true.1 h.2 i (by simpa using hi)
  exact beq_iff_eq.1 h2
set_option maxRecDepth 100000 in
theorem pl_setAB : ((List.range 4).all fun p => (List.range 16).all fun c => (lst p c).setIfInBounds (plA p) true == lst (p + 1) c) = true := by decide +kernel
theorem pl_setA (p : Nat) (hp : p < 4) (c : Nat) (hc : c < 16) : (lst p c).setIfInBounds (plA p) true = lst (p + 1) c :=
  beq_iff_eq.1 (List.all_eq_true.1 (List.all_eq_true.1 pl_setAB p (by simpa using hp)) c (by simpa using hc))
theorem pl_all : ∀ p, p < 5 → ∀ c, c < 16 → p + pop c = 8 → p = 4 ∧ c = 15 := by decide +kernel
def okSlot (i : Nat) : Bool := !(i == 9 || i == 19 || i == 23 || i == 27 || i == 12 || i == 22 || i == 26 || i == 30)
structure Jp (a0 : Act) (w0 : World) (m : M) (p c : Nat) (a : Act) (w : World) : Prop where
  bel : Below w0.heap.size w0 w
  size : a.tmps.size = 52
  defers : a.defers = a0.defers
  old : ∀ i v, okSlot i = true → Has a0 i v → Has a i v
  lit : ∀ j, j < 4 → c.testBit j = true → ∃ g, Has a (slB j) (.slice (some ⟨g, 0, none⟩) 0 0)
  app : ∀ j, j < p → ∃ v, Has a (slA j) v ∧ ListRd w v (plF j).length (m.L (plC j)) ∧ ∀ k, arr v = some k → m.L (plC j) ≠ [] → w0.heap.size ≤ k
theorem plB_any {Q : Exit → Act → World → Prop} {a : Act} {w : World} {K : Act → World → Prop} (j : Nat) (hj : j < 4) (h : ∀ g w', Below w.heap.size w w' → K (a.put (some (slB j)) (.slice (some ⟨g, 0, none⟩) 0 0)) w') : wpOp Try.prog plOps Q (plB j) K a w := by
  have : j = 0 ∨ j = 1 ∨ j = 2 ∨ j = 3 := by omega
  rcases this with rfl | rfl | rfl | rfl
  · exact plB_0 h
  · exact plB_1 h
  · exact plB_2 h
  · exact plB_3 h
theorem plA_any {Q : Exit → Act → World → Prop} {a : Act} {w : World} {K : Act → World → Prop} (j : Nat) (hj : j < 4) {g : Nat} {sv : Value} {rows : List (List Value)} (hs : Has a (slB j) (.slice (some ⟨g, 0, none⟩) 0 0)) (hx : Has a (slL j) sv) (hR : ListRd w sv (plF j).length rows) (hf : ∀ r, r ∈ rows → fits (plF j) r) (hn : rows.length ≤ 1048576)
    (h : ∀ v' w', Below w.heap.size w w' → ListRd w' v' (plF j).length rows → (∀ k, arr v' = some k → rows ≠ [] → w.heap.size ≤ k) → K (a.put (some (slA j)) v') w') : wpOp Try.prog plOps Q (plA j) K a w := by
  have : j = 0 ∨ j = 1 ∨ j = 2 ∨ j = 3 := by omega
  rcases this with rfl | rfl | rfl | rfl
  · exact plA_0 hs hx hR hf hn h
  · exact plA_1 hs hx hR hf hn h
  · exact plA_2 hs hx hR hf hn h
  · exact plA_3 hs hx hR hf hn h
theorem plF_pos (j : Nat) : 0 < (plF j).length := by unfold plF; split <;> simp [entryF, pairF, seenF, epochF]
theorem plF_mem {j : Nat} (hj : j < 4) : (plC j, plF j) ∈ lists := by
  have : j = 0 ∨ j = 1 ∨ j = 2 ∨ j = 3 := by omega
  rcases this with rfl | rfl | rfl | rfl <;> simp [plC, plF, lists]
theorem sl_ok {j : Nat} (hj : j < 4) : okSlot (slL j) = true ∧ okSlot (slB j) = false ∧ okSlot (slA j) = false ∧ slB j < 52 ∧ slA j < 52 := by
  have : j = 0 ∨ j = 1 ∨ j = 2 ∨ j = 3 := by omega
  rcases this with rfl | rfl | rfl | rfl <;> decide
theorem sl_ne : ∀ i, i < 4 → ∀ j, j < 4 → (i ≠ j → slB i ≠ slB j ∧ slA i ≠ slA j) ∧ slB i ≠ slA j := by decide
theorem pl_states {a0 : Act} {w0 : World} {m : M} {sv : Nat → Value} {Q : Exit → Act → World → Prop} {S : World → Prop} (hS : ∀ w, Below w0.heap.size w0 w → S w) (hL : ∀ j, j < 4 → Has a0 (slL j) (sv (plC j)) ∧ ListRd w0 (sv (plC j)) (plF j).length (m.L (plC j))) (hf : Fit m) (hn : ∀ j, (m.L j).length ≤ 1048576)
    (hend : ∀ a w, Jp a0 w0 m 4 15 a w → wpAnyH Try.prog .any plOps Q S 2 (lst 4 15) a w) :
    ∀ (k p c : Nat) (a : Act) (w : World), k + (p + pop c) = 8 → p < 5 → c < 16 → okPC p c = true → Jp a0 w0 m p c a w → wpAnyH Try.prog .any plOps Q S (k + 2) (lst p c) a w := by
  intro k
  induction k with
  | zero =>
    intro p c a w hk hp hc ho hJ
    obtain ⟨rfl, rfl⟩ := pl_all p hp c hc (by omega)
    exact hend a w hJ
  | succ k ih =>
    intro p c a w hk hp hc ho hJ
    obtain ⟨hne, hm⟩ := pl_ready p hp c hc ho (by omega)
    refine wpAnyH_all rfl hne (fun i hi => ?_)
    rcases hm i hi with ⟨j, hj, hb, rfl⟩ | ⟨hp4, hb, rfl⟩
    · obtain ⟨q1, q2, q3, q4⟩ := pl_setB p hp c hc j hj hb
      obtain ⟨s1, s2, s3, s4, s5⟩ := sl_ok hj
      refine plB_any j hj (fun g w' hB => ⟨hS _ (hJ.bel.trans (hB.mono hJ.bel.size)), ?_⟩)
      rw [q1]
      refine ih p (c + 2 ^ j) _ w' (by omega) hp q2 ?_ ⟨hJ.bel.trans (hB.mono hJ.bel.size), (size_put _ _ _).trans hJ.size, (defers_put _ _ _).trans hJ.defers, fun i v h1 h2 => (hJ.old i v h1 h2).far (fun e => by rw [e, h1] at s2; cases s2), fun i hi hb' => ?_, fun i hi => ?_⟩
      · unfold okPC at ho ⊢
        rw [List.all_eq_true] at ho ⊢
        intro i hi
        have h := ho i hi
        rw [q4 i (by simpa using hi)]
        cases h1 : c.testBit i <;> simp_all
      · by_cases e : i = j
        · subst e
          exact ⟨g, Has.same (by rw [hJ.size]; exact s4)⟩
        · rw [q4 i hi] at hb'
          simp only [e, decide_false, Bool.or_false] at hb'
          obtain ⟨g', hg'⟩ := hJ.lit i hi hb'
          exact ⟨g', hg'.far (fun e' => ((sl_ne i hi j hj).1 e).1 e'.symm)⟩
      · obtain ⟨v, hv, hR, hF⟩ := hJ.app i hi
        exact ⟨v, hv.far ((sl_ne j hj i (by omega)).2), hR.below (plF_pos i) (fitl hf (plF_mem (by omega))) hB, hF⟩
    · obtain ⟨s1, s2, s3, s4, s5⟩ := sl_ok hp4
      obtain ⟨g, hg⟩ := hJ.lit p hp4 hb
      obtain ⟨hx, hR⟩ := hL p hp4
      refine plA_any p hp4 hg (hJ.old _ _ s1 hx) (hR.below (plF_pos p) (fitl hf (plF_mem hp4)) hJ.bel) (hf _ _ (plF_mem hp4)) (hn _) (fun v' w' hB hR' hF' => ⟨hS _ (hJ.bel.trans (hB.mono hJ.bel.size)), ?_⟩)
      rw [pl_setA p hp4 c hc]
      refine ih (p + 1) c _ w' (by omega) (by omega) hc ?_ ⟨hJ.bel.trans (hB.mono hJ.bel.size), (size_put _ _ _).trans hJ.size, (defers_put _ _ _).trans hJ.defers, fun i v h1 h2 => (hJ.old i v h1 h2).far (fun e => by rw [e, h1] at s3; cases s3), fun i hi hb' => ?_, fun i hi => ?_⟩
      · unfold okPC at ho ⊢
        rw [List.all_eq_true] at ho ⊢
        intro i hi
        have h := ho i hi
        by_cases e : i = p
        · subst e; rw [hb]; simp
        · by_cases h1 : i < p
          · simp_all
          · have : ¬ i < p + 1 := by omega
            simp [this]
      · obtain ⟨g', hg'⟩ := hJ.lit i hi hb'
        exact ⟨g', hg'.far (fun e' => (sl_ne i hi p hp4).2 e'.symm)⟩
      · by_cases e : i = p
        · subst e
          exact ⟨v', Has.same (by rw [hJ.size]; exact s5), hR', fun k h1 h2 => Nat.le_trans hJ.bel.size (hF' k h1 h2)⟩
        · obtain ⟨v, hv, hR2, hF2⟩ := hJ.app i (by omega)
          exact ⟨v, hv.far (fun e' => ((sl_ne i (by omega) p hp4).1 e).2 e'.symm), hR2.below (plF_pos i) (fitl hf (plF_mem (by omega))) hB, hF2⟩
end Go.Proofs.Ytcbehfbfaonanaa.Wr
end

/- Plain: a message as the reference's. -/
section
namespace Go.Proofs.Ytcbehfbfaonanaa.Wr
open Go.RowKit Go.Proofs.YtcbehfbfaonanaaW.PrintWords Go.Proofs.YtcbehfbfaonanaaW.PrintLast Go.Proofs.YtcbehfbfaonanaaW.PrintMore Go.Proofs.Ytcbehfbfaonanaa.Pk
set_option linter.unusedVariables false
set_option linter.unusedSimpArgs false

theorem run_load_mid {P : Program} {o : Oper} {a : Act} {W : World} {T : TypeId} {x : Operand} (ho : o.op = .load T x) {g off : Nat} (hx : a.eval x = .pointer (some ⟨g, off, none⟩)) (cells : List Value) (hc : ∀ j v, cells[j]? = some v → W.cell? ⟨g, off + j, none⟩ = some v)
    {d : TypeDesc} (hu : P.underlying T = some d) (hd : d.isRow = true) (hi : (P.info? T).map (·.size) = some cells.length) : (execOp a.eval o).run P W = .ok (.value (.agg cells.toArray)) W := by
  have h := run_loadVar_mid (P := P) W g off T cells d hc hu hd hi
  unfold execOp
  simp only [ho, hx, Instr.loadAt, Instr.sureAddr, Sem.run_bind, Sem.run_pure, Result.andThen_ok, h]
theorem mid_cell (c sv : Nat → Value) (off n : Nat) (h : (List.range n).all (fun j => scalar (off + j)) = true) (j : Nat) (v : Value) (hj : ((List.range n).map fun j => c (off + j))[j]? = some v) : (msgC c sv)[off + j]? = some v := by
  have hjn : j < n := by
    have := (List.getElem?_eq_some_iff.1 hj).1
    simpa using this
  rw [List.getElem?_map, List.getElem?_range hjn] at hj
  injection hj with hj
  subst hj
  exact msgC_scalar c sv _ (List.all_eq_true.1 h j (by simpa using hjn))

set_option maxRecDepth 100000 in
set_option maxHeartbeats 4000000 in
theorem build_run {a : Act} {W : World} {m : M} {sv' : Nat → Value} (hT : Typed m) (hs : ∀ j fs, (j, fs) ∈ lists → ∃ A n c, sv' j = .slice A n c) (h4 : a.eval (.tmp 4) = m.c 0) (h6 : a.eval (.tmp 6) = m.c 1) (h8 : a.eval (.tmp 8) = m.c 2) (h12 : a.eval (.tmp 12) = sv' 3) (h14 : a.eval (.tmp 14) = .agg #[m.c 4, m.c 5]) (h16 : a.eval (.tmp 16) = m.c 6) (h18 : a.eval (.tmp 18) = m.c 7) (h22 : a.eval (.tmp 22) = sv' 8) (h26 : a.eval (.tmp 26) = sv' 9) (h30 : a.eval (.tmp 30) = sv' 10) (h32 : a.eval (.tmp 32) = .agg #[m.c 11, m.c 12]) (h34 : a.eval (.tmp 34) = m.c 13) (h36 : a.eval (.tmp 36) = m.c 14) (h38 : a.eval (.tmp 38) = m.c 15) (h40 : a.eval (.tmp 40) = m.c 16) (h42 : a.eval (.tmp 42) = m.c 17) (h44 : a.eval (.tmp 44) = m.c 18) (h46 : a.eval (.tmp 46) = .agg #[m.c 19, m.c 20]) (h48 : a.eval (.tmp 48) = m.c 21) (h50 : a.eval (.tmp 50) = .agg #[m.c 22, m.c 23, m.c 24, m.c 25]) :
    (execOp a.eval { dst := some 51, op := Go.Op.build 35 #[(0, Go.Operand.tmp 4), (1, Go.Operand.tmp 6), (2, Go.Operand.tmp 8), (3, Go.Operand.tmp 12), (4, Go.Operand.tmp 14), (5, Go.Operand.tmp 16), (6, Go.Operand.tmp 18), (7, Go.Operand.tmp 22), (8, Go.Operand.tmp 26), (9, Go.Operand.tmp 30), (10, Go.Operand.tmp 32), (11, Go.Operand.tmp 34), (12, Go.Operand.tmp 36), (13, Go.Operand.tmp 38), (14, Go.Operand.tmp 40), (15, Go.Operand.tmp 42), (16, Go.Operand.tmp 44), (17, Go.Operand.tmp 46), (18, Go.Operand.tmp 48), (19, Go.Operand.tmp 50)], type := 35, pos := "law.go:21", after := #[{ on := 1, ground := Go.Ground.data }, { on := 3, ground := Go.Ground.data }, { on := 5, ground := Go.Ground.data }, { on := 9, ground := Go.Ground.data }, { on := 11, ground := Go.Ground.data }, { on := 13, ground := Go.Ground.data }, { on := 15, ground := Go.Ground.data }, { on := 19, ground := Go.Ground.data }, { on := 23, ground := Go.Ground.data }, { on := 27, ground := Go.Ground.data }, { on := 29, ground := Go.Ground.data }, { on := 31, ground := Go.Ground.data }, { on := 33, ground := Go.Ground.data }, { on := 35, ground := Go.Ground.data }, { on := 37, ground := Go.Ground.data }, { on := 39, ground := Go.Ground.data }, { on := 41, ground := Go.Ground.data }, { on := 43, ground := Go.Ground.data }, { on := 45, ground := Go.Ground.data }, { on := 47, ground := Go.Ground.data }], guard := none }).run Try.prog W = .ok (.value (.agg (msgC m.c sv'))) W := by
  obtain ⟨x0, e0⟩ : ∃ x, m.c 0 = .int .i64 x := hT 0 rfl
  obtain ⟨x1, e1⟩ : ∃ x, m.c 1 = .int .i64 x := hT 1 rfl
  obtain ⟨x2, e2⟩ : ∃ x, m.c 2 = .int .i64 x := hT 2 rfl
  obtain ⟨x4, e4⟩ : ∃ x, m.c 4 = .int .i64 x := hT 4 rfl
  obtain ⟨x5, e5⟩ : ∃ x, m.c 5 = .int .i64 x := hT 5 rfl
  obtain ⟨x6, e6⟩ : ∃ x, m.c 6 = .int .i64 x := hT 6 rfl
  obtain ⟨x7, e7⟩ : ∃ x, m.c 7 = .int .i64 x := hT 7 rfl
  obtain ⟨x11, e11⟩ : ∃ x, m.c 11 = .int .i64 x := hT 11 rfl
  obtain ⟨x12, e12⟩ : ∃ x, m.c 12 = .int .i64 x := hT 12 rfl
  obtain ⟨x13, e13⟩ : ∃ x, m.c 13 = .bool x := hT 13 rfl
  obtain ⟨x14, e14⟩ : ∃ x, m.c 14 = .int .i64 x := hT 14 rfl
  obtain ⟨x15, e15⟩ : ∃ x, m.c 15 = .int .i64 x := hT 15 rfl
  obtain ⟨x16, e16⟩ : ∃ x, m.c 16 = .string x := hT 16 rfl
  obtain ⟨x17, e17⟩ : ∃ x, m.c 17 = .bool x := hT 17 rfl
  obtain ⟨x18, e18⟩ : ∃ x, m.c 18 = .string x := hT 18 rfl
  obtain ⟨x19, e19⟩ : ∃ x, m.c 19 = .int .i64 x := hT 19 rfl
  obtain ⟨x20, e20⟩ : ∃ x, m.c 20 = .int .i64 x := hT 20 rfl
  obtain ⟨x21, e21⟩ : ∃ x, m.c 21 = .int .i64 x := hT 21 rfl
  obtain ⟨x22, e22⟩ : ∃ x, m.c 22 = .int .i64 x := hT 22 rfl
  obtain ⟨x23, e23⟩ : ∃ x, m.c 23 = .int .i64 x := hT 23 rfl
  obtain ⟨x24, e24⟩ : ∃ x, m.c 24 = .bool x := hT 24 rfl
  obtain ⟨x25, e25⟩ : ∃ x, m.c 25 = .string x := hT 25 rfl
  obtain ⟨A3, n3, c3, s3⟩ := hs 3 entryF (by simp [lists])
  obtain ⟨A8, n8, c8, s8⟩ := hs 8 pairF (by simp [lists])
  obtain ⟨A9, n9, c9, s9⟩ := hs 9 seenF (by simp [lists])
  obtain ⟨A10, n10, c10, s10⟩ := hs 10 epochF (by simp [lists])
  simp only [e0, e1, e2, e4, e5, e6, e7, e11, e12, e13, e14, e15, e16, e17, e18, e19, e20, e21, e22, e23, e24, e25, s3, s8, s9, s10] at h4 h6 h8 h12 h14 h16 h18 h22 h26 h30 h32 h34 h36 h38 h40 h42 h44 h46 h48 h50
  simp only [msgC, e0, e1, e2, e4, e5, e6, e7, e11, e12, e13, e14, e15, e16, e17, e18, e19, e20, e21, e22, e23, e24, e25, s3, s8, s9, s10]
  clear hT hs e0 e1 e2 e4 e5 e6 e7 e11 e12 e13 e14 e15 e16 e17 e18 e19 e20 e21 e22 e23 e24 e25 s3 s8 s9 s10
  unfold execOp
  simp only [List.map_toArray, List.map_cons, List.map_nil, h4, h6, h8, h12, h14, h16, h18, h22, h26, h30, h32, h34, h36, h38, h40, h42, h44, h46, h48, h50]
  go_simp
theorem pl_go {ops : Array Oper} {fuel : Nat} {listed : Array Bool} {Q : Exit → Act → World → Prop} {S : World → Prop} {a : Act} {w : World} (h1 : ops = plOps) (h2 : fuel = 10) (h3 : listed = lst 0 0) (h : wpAnyH Try.prog .any plOps Q S 10 (lst 0 0) a w) : wpAnyH Try.prog .any ops Q S fuel listed a w := by
  subst h1 h2 h3
  exact h
set_option maxRecDepth 100000 in
set_option maxHeartbeats 4000000 in
/-- Plain. -/
theorem plain_c (w : World) (v : Value) (m : M) (sv : Nat → Value) (h : MsgRd w v m sv) (hs : ∀ j, (m.L j).length ≤ 1048576) :
    Calls Try.prog 10 #[v] w (fun e w' => ∃ v' sv', e = .returned v' ∧ MsgRd w' v' m sv' ∧ Below w.heap.size w w' ∧ ∀ j fs, (j, fs) ∈ lists → ∀ k, arr (sv' j) = some k → m.L j ≠ [] → w.heap.size ≤ k) := by
  rw [h.agg]
  have HM := Aside0.mk h
  have HN := Aside0.mk hs
  clear h hs
  go_enter Try.func10, Try.ntmps10
  go_upto_region 1 with (first | ((with_reducible refine gate_dst (N := 1) rfl ?_); refine box_row rfl 32 (.tmp 0) rfl (msgC m.c sv) rfl ?_; intro g1 w1 hg hbox hb; have HB1 := Aside0.mk hb; have HX0 := Aside0.mk hbox; clear hb hbox hg) | ((with_reducible refine gate_dst (N := 2) rfl ?_); refine alloc_row rfl 35 rfl _ (zero_msg _) ?_; intro g2 w2 hg hbox hb; have HX1 := Aside0.mk ((hb.block g1 (blk_lt HX0.out)).trans HX0.out); have HX2 := Aside0.mk hbox; have HBW := Aside0.mk (HB1.out.trans (hb.mono HB1.out.size)); have HG2 := Aside0.mk hg; have HNE := Aside0.mk (show g1 ≠ g2 ∧ w.heap.size ≤ g2 ∧ g2 < w2.heap.size from by have := blk_lt HX0.out; have := HB1.out.size; have := blk_lt hbox; omega); clear hb hbox hg HB1 HX0))
  refine wp_region_held_drew (S := (fun W => W.heap[g1]? = some (.cells (msgC m.c sv) 32 (0, 0)))) (by kernel_rfl) HX1.out (fun hHeld => ?_)
  refine wpAnyH_take (i := 0) (oi := { dst := some 3, op := Go.Op.fieldAddr 32 (Go.Operand.tmp 1) 0, type := 0, pos := "law.go:21", after := #[], guard := none }) (v := .pointer (some ⟨g1, 0, none⟩)) rfl (by kernel_rfl) (by kernel_rfl) (by kernel_rfl) (fun _ _ _ h => h) (Or.inl ⟨by rfl, ?_⟩) (by assumption) ?_
  · (intro W hSW; go_simp; (try with_reducible rfl))
  try simp only [Act.put, List.setIfInBounds_toArray, List.set_cons_zero, List.set_cons_succ]
  refine wpAnyH_take (i := 1) (oi := { dst := some 4, op := Go.Op.load 3 (Go.Operand.tmp 3), type := 3, pos := "law.go:21", after := #[{ on := 0, ground := Go.Ground.data }], guard := none }) (v := m.c 0) rfl (by kernel_rfl) (by kernel_rfl) (by kernel_rfl) (fun _ _ _ h => h) (Or.inl ⟨by rfl, ?_⟩) (by assumption) ?_
  · (intro W hSW; have hc := (blk_cell hSW 0).trans (rfl : _ = some (m.c 0)); go_simp; (try with_reducible rfl))
  try simp only [Act.put, List.setIfInBounds_toArray, List.set_cons_zero, List.set_cons_succ]
  refine wpAnyH_take (i := 2) (oi := { dst := some 5, op := Go.Op.fieldAddr 32 (Go.Operand.tmp 1) 1, type := 0, pos := "law.go:21", after := #[], guard := none }) (v := .pointer (some ⟨g1, 1, none⟩)) rfl (by kernel_rfl) (by kernel_rfl) (by kernel_rfl) (fun _ _ _ h => h) (Or.inl ⟨by rfl, ?_⟩) (by assumption) ?_
  · (intro W hSW; go_simp; (try with_reducible rfl))
  try simp only [Act.put, List.setIfInBounds_toArray, List.set_cons_zero, List.set_cons_succ]
  refine wpAnyH_take (i := 3) (oi := { dst := some 6, op := Go.Op.load 3 (Go.Operand.tmp 5), type := 3, pos := "law.go:21", after := #[{ on := 2, ground := Go.Ground.data }], guard := none }) (v := m.c 1) rfl (by kernel_rfl) (by kernel_rfl) (by kernel_rfl) (fun _ _ _ h => h) (Or.inl ⟨by rfl, ?_⟩) (by assumption) ?_
  · (intro W hSW; have hc := (blk_cell hSW 1).trans (rfl : _ = some (m.c 1)); go_simp; (try with_reducible rfl))
  try simp only [Act.put, List.setIfInBounds_toArray, List.set_cons_zero, List.set_cons_succ]
  refine wpAnyH_take (i := 4) (oi := { dst := some 7, op := Go.Op.fieldAddr 32 (Go.Operand.tmp 1) 2, type := 0, pos := "law.go:21", after := #[], guard := none }) (v := .pointer (some ⟨g1, 2, none⟩)) rfl (by kernel_rfl) (by kernel_rfl) (by kernel_rfl) (fun _ _ _ h => h) (Or.inl ⟨by rfl, ?_⟩) (by assumption) ?_
  · (intro W hSW; go_simp; (try with_reducible rfl))
  try simp only [Act.put, List.setIfInBounds_toArray, List.set_cons_zero, List.set_cons_succ]
  refine wpAnyH_take (i := 5) (oi := { dst := some 8, op := Go.Op.load 3 (Go.Operand.tmp 7), type := 3, pos := "law.go:21", after := #[{ on := 4, ground := Go.Ground.data }], guard := none }) (v := m.c 2) rfl (by kernel_rfl) (by kernel_rfl) (by kernel_rfl) (fun _ _ _ h => h) (Or.inl ⟨by rfl, ?_⟩) (by assumption) ?_
  · (intro W hSW; have hc := (blk_cell hSW 2).trans (rfl : _ = some (m.c 2)); go_simp; (try with_reducible rfl))
  try simp only [Act.put, List.setIfInBounds_toArray, List.set_cons_zero, List.set_cons_succ]
  refine wpAnyH_take (i := 7) (oi := { dst := some 10, op := Go.Op.fieldAddr 32 (Go.Operand.tmp 1) 3, type := 0, pos := "law.go:21", after := #[], guard := none }) (v := .pointer (some ⟨g1, 3, none⟩)) rfl (by kernel_rfl) (by kernel_rfl) (by kernel_rfl) (fun _ _ _ h => h) (Or.inl ⟨by rfl, ?_⟩) (by assumption) ?_
  · (intro W hSW; go_simp; (try with_reducible rfl))
  try simp only [Act.put, List.setIfInBounds_toArray, List.set_cons_zero, List.set_cons_succ]
  refine wpAnyH_take (i := 8) (oi := { dst := some 11, op := Go.Op.load 22 (Go.Operand.tmp 10), type := 22, pos := "law.go:21", after := #[{ on := 7, ground := Go.Ground.data }], guard := none }) (v := sv 3) rfl (by kernel_rfl) (by kernel_rfl) (by kernel_rfl) (fun _ _ _ h => h) (Or.inl ⟨by rfl, ?_⟩) (by assumption) ?_
  · (intro W hSW; have hc := (blk_cell hSW 3).trans (rfl : _ = some (sv 3)); go_simp; (try with_reducible rfl))
  try simp only [Act.put, List.setIfInBounds_toArray, List.set_cons_zero, List.set_cons_succ]
  refine wpAnyH_take (i := 10) (oi := { dst := some 13, op := Go.Op.fieldAddr 32 (Go.Operand.tmp 1) 4, type := 0, pos := "law.go:21", after := #[], guard := none }) (v := .pointer (some ⟨g1, 4, none⟩)) rfl (by kernel_rfl) (by kernel_rfl) (by kernel_rfl) (fun _ _ _ h => h) (Or.inl ⟨by rfl, ?_⟩) (by assumption) ?_
  · (intro W hSW; go_simp; (try with_reducible rfl))
  try simp only [Act.put, List.setIfInBounds_toArray, List.set_cons_zero, List.set_cons_succ]
  refine wpAnyH_take (i := 11) (oi := { dst := some 14, op := Go.Op.load 24 (Go.Operand.tmp 13), type := 24, pos := "law.go:21", after := #[{ on := 10, ground := Go.Ground.data }], guard := none }) (v := .agg #[m.c 4, m.c 5]) rfl (by kernel_rfl) (by kernel_rfl) (by kernel_rfl) (fun _ _ _ h => h) (Or.inl ⟨by rfl, ?_⟩) (by assumption) ?_
  · exact fun W hSW => run_load_mid rfl (g := g1) (off := 4) rfl [m.c 4, m.c 5] (fun j v hj => (blk_cell hSW (4 + j)).trans (mid_cell m.c sv 4 2 (by decide) j v hj)) Try.underlying24 rfl (by kernel_rfl)
  try simp only [Act.put, List.setIfInBounds_toArray, List.set_cons_zero, List.set_cons_succ]
  refine wpAnyH_take (i := 12) (oi := { dst := some 15, op := Go.Op.fieldAddr 32 (Go.Operand.tmp 1) 5, type := 0, pos := "law.go:21", after := #[], guard := none }) (v := .pointer (some ⟨g1, 6, none⟩)) rfl (by kernel_rfl) (by kernel_rfl) (by kernel_rfl) (fun _ _ _ h => h) (Or.inl ⟨by rfl, ?_⟩) (by assumption) ?_
  · (intro W hSW; go_simp; (try with_reducible rfl))
  try simp only [Act.put, List.setIfInBounds_toArray, List.set_cons_zero, List.set_cons_succ]
  refine wpAnyH_take (i := 13) (oi := { dst := some 16, op := Go.Op.load 3 (Go.Operand.tmp 15), type := 3, pos := "law.go:21", after := #[{ on := 12, ground := Go.Ground.data }], guard := none }) (v := m.c 6) rfl (by kernel_rfl) (by kernel_rfl) (by kernel_rfl) (fun _ _ _ h => h) (Or.inl ⟨by rfl, ?_⟩) (by assumption) ?_
  · (intro W hSW; have hc := (blk_cell hSW 6).trans (rfl : _ = some (m.c 6)); go_simp; (try with_reducible rfl))
  try simp only [Act.put, List.setIfInBounds_toArray, List.set_cons_zero, List.set_cons_succ]
  refine wpAnyH_take (i := 14) (oi := { dst := some 17, op := Go.Op.fieldAddr 32 (Go.Operand.tmp 1) 6, type := 0, pos := "law.go:21", after := #[], guard := none }) (v := .pointer (some ⟨g1, 7, none⟩)) rfl (by kernel_rfl) (by kernel_rfl) (by kernel_rfl) (fun _ _ _ h => h) (Or.inl ⟨by rfl, ?_⟩) (by assumption) ?_
  · (intro W hSW; go_simp; (try with_reducible rfl))
  try simp only [Act.put, List.setIfInBounds_toArray, List.set_cons_zero, List.set_cons_succ]
  refine wpAnyH_take (i := 15) (oi := { dst := some 18, op := Go.Op.load 3 (Go.Operand.tmp 17), type := 3, pos := "law.go:21", after := #[{ on := 14, ground := Go.Ground.data }], guard := none }) (v := m.c 7) rfl (by kernel_rfl) (by kernel_rfl) (by kernel_rfl) (fun _ _ _ h => h) (Or.inl ⟨by rfl, ?_⟩) (by assumption) ?_
  · (intro W hSW; have hc := (blk_cell hSW 7).trans (rfl : _ = some (m.c 7)); go_simp; (try with_reducible rfl))
  try simp only [Act.put, List.setIfInBounds_toArray, List.set_cons_zero, List.set_cons_succ]
  refine wpAnyH_take (i := 17) (oi := { dst := some 20, op := Go.Op.fieldAddr 32 (Go.Operand.tmp 1) 7, type := 0, pos := "law.go:21", after := #[], guard := none }) (v := .pointer (some ⟨g1, 8, none⟩)) rfl (by kernel_rfl) (by kernel_rfl) (by kernel_rfl) (fun _ _ _ h => h) (Or.inl ⟨by rfl, ?_⟩) (by assumption) ?_
  · (intro W hSW; go_simp; (try with_reducible rfl))
  try simp only [Act.put, List.setIfInBounds_toArray, List.set_cons_zero, List.set_cons_succ]
  refine wpAnyH_take (i := 18) (oi := { dst := some 21, op := Go.Op.load 25 (Go.Operand.tmp 20), type := 25, pos := "law.go:21", after := #[{ on := 17, ground := Go.Ground.data }], guard := none }) (v := sv 8) rfl (by kernel_rfl) (by kernel_rfl) (by kernel_rfl) (fun _ _ _ h => h) (Or.inl ⟨by rfl, ?_⟩) (by assumption) ?_
  · (intro W hSW; have hc := (blk_cell hSW 8).trans (rfl : _ = some (sv 8)); go_simp; (try with_reducible rfl))
  try simp only [Act.put, List.setIfInBounds_toArray, List.set_cons_zero, List.set_cons_succ]
  refine wpAnyH_take (i := 21) (oi := { dst := some 24, op := Go.Op.fieldAddr 32 (Go.Operand.tmp 1) 8, type := 0, pos := "law.go:21", after := #[], guard := none }) (v := .pointer (some ⟨g1, 9, none⟩)) rfl (by kernel_rfl) (by kernel_rfl) (by kernel_rfl) (fun _ _ _ h => h) (Or.inl ⟨by rfl, ?_⟩) (by assumption) ?_
  · (intro W hSW; go_simp; (try with_reducible rfl))
  try simp only [Act.put, List.setIfInBounds_toArray, List.set_cons_zero, List.set_cons_succ]
  refine wpAnyH_take (i := 22) (oi := { dst := some 25, op := Go.Op.load 26 (Go.Operand.tmp 24), type := 26, pos := "law.go:21", after := #[{ on := 21, ground := Go.Ground.data }], guard := none }) (v := sv 9) rfl (by kernel_rfl) (by kernel_rfl) (by kernel_rfl) (fun _ _ _ h => h) (Or.inl ⟨by rfl, ?_⟩) (by assumption) ?_
  · (intro W hSW; have hc := (blk_cell hSW 9).trans (rfl : _ = some (sv 9)); go_simp; (try with_reducible rfl))
  try simp only [Act.put, List.setIfInBounds_toArray, List.set_cons_zero, List.set_cons_succ]
  refine wpAnyH_take (i := 25) (oi := { dst := some 28, op := Go.Op.fieldAddr 32 (Go.Operand.tmp 1) 9, type := 0, pos := "law.go:21", after := #[], guard := none }) (v := .pointer (some ⟨g1, 10, none⟩)) rfl (by kernel_rfl) (by kernel_rfl) (by kernel_rfl) (fun _ _ _ h => h) (Or.inl ⟨by rfl, ?_⟩) (by assumption) ?_
  · (intro W hSW; go_simp; (try with_reducible rfl))
  try simp only [Act.put, List.setIfInBounds_toArray, List.set_cons_zero, List.set_cons_succ]
  refine wpAnyH_take (i := 26) (oi := { dst := some 29, op := Go.Op.load 27 (Go.Operand.tmp 28), type := 27, pos := "law.go:21", after := #[{ on := 25, ground := Go.Ground.data }], guard := none }) (v := sv 10) rfl (by kernel_rfl) (by kernel_rfl) (by kernel_rfl) (fun _ _ _ h => h) (Or.inl ⟨by rfl, ?_⟩) (by assumption) ?_
  · (intro W hSW; have hc := (blk_cell hSW 10).trans (rfl : _ = some (sv 10)); go_simp; (try with_reducible rfl))
  try simp only [Act.put, List.setIfInBounds_toArray, List.set_cons_zero, List.set_cons_succ]
  refine wpAnyH_take (i := 28) (oi := { dst := some 31, op := Go.Op.fieldAddr 32 (Go.Operand.tmp 1) 10, type := 0, pos := "law.go:21", after := #[], guard := none }) (v := .pointer (some ⟨g1, 11, none⟩)) rfl (by kernel_rfl) (by kernel_rfl) (by kernel_rfl) (fun _ _ _ h => h) (Or.inl ⟨by rfl, ?_⟩) (by assumption) ?_
  · (intro W hSW; go_simp; (try with_reducible rfl))
  try simp only [Act.put, List.setIfInBounds_toArray, List.set_cons_zero, List.set_cons_succ]
  refine wpAnyH_take (i := 29) (oi := { dst := some 32, op := Go.Op.load 24 (Go.Operand.tmp 31), type := 24, pos := "law.go:21", after := #[{ on := 28, ground := Go.Ground.data }], guard := none }) (v := .agg #[m.c 11, m.c 12]) rfl (by kernel_rfl) (by kernel_rfl) (by kernel_rfl) (fun _ _ _ h => h) (Or.inl ⟨by rfl, ?_⟩) (by assumption) ?_
  · exact fun W hSW => run_load_mid rfl (g := g1) (off := 11) rfl [m.c 11, m.c 12] (fun j v hj => (blk_cell hSW (11 + j)).trans (mid_cell m.c sv 11 2 (by decide) j v hj)) Try.underlying24 rfl (by kernel_rfl)
  try simp only [Act.put, List.setIfInBounds_toArray, List.set_cons_zero, List.set_cons_succ]
  refine wpAnyH_take (i := 30) (oi := { dst := some 33, op := Go.Op.fieldAddr 32 (Go.Operand.tmp 1) 11, type := 0, pos := "law.go:21", after := #[], guard := none }) (v := .pointer (some ⟨g1, 13, none⟩)) rfl (by kernel_rfl) (by kernel_rfl) (by kernel_rfl) (fun _ _ _ h => h) (Or.inl ⟨by rfl, ?_⟩) (by assumption) ?_
  · (intro W hSW; go_simp; (try with_reducible rfl))
  try simp only [Act.put, List.setIfInBounds_toArray, List.set_cons_zero, List.set_cons_succ]
  refine wpAnyH_take (i := 31) (oi := { dst := some 34, op := Go.Op.load 4 (Go.Operand.tmp 33), type := 4, pos := "law.go:21", after := #[{ on := 30, ground := Go.Ground.data }], guard := none }) (v := m.c 13) rfl (by kernel_rfl) (by kernel_rfl) (by kernel_rfl) (fun _ _ _ h => h) (Or.inl ⟨by rfl, ?_⟩) (by assumption) ?_
  · (intro W hSW; have hc := (blk_cell hSW 13).trans (rfl : _ = some (m.c 13)); go_simp; (try with_reducible rfl))
  try simp only [Act.put, List.setIfInBounds_toArray, List.set_cons_zero, List.set_cons_succ]
  refine wpAnyH_take (i := 32) (oi := { dst := some 35, op := Go.Op.fieldAddr 32 (Go.Operand.tmp 1) 12, type := 0, pos := "law.go:21", after := #[], guard := none }) (v := .pointer (some ⟨g1, 14, none⟩)) rfl (by kernel_rfl) (by kernel_rfl) (by kernel_rfl) (fun _ _ _ h => h) (Or.inl ⟨by rfl, ?_⟩) (by assumption) ?_
  · (intro W hSW; go_simp; (try with_reducible rfl))
  try simp only [Act.put, List.setIfInBounds_toArray, List.set_cons_zero, List.set_cons_succ]
  refine wpAnyH_take (i := 33) (oi := { dst := some 36, op := Go.Op.load 3 (Go.Operand.tmp 35), type := 3, pos := "law.go:21", after := #[{ on := 32, ground := Go.Ground.data }], guard := none }) (v := m.c 14) rfl (by kernel_rfl) (by kernel_rfl) (by kernel_rfl) (fun _ _ _ h => h) (Or.inl ⟨by rfl, ?_⟩) (by assumption) ?_
  · (intro W hSW; have hc := (blk_cell hSW 14).trans (rfl : _ = some (m.c 14)); go_simp; (try with_reducible rfl))
  try simp only [Act.put, List.setIfInBounds_toArray, List.set_cons_zero, List.set_cons_succ]
  refine wpAnyH_take (i := 34) (oi := { dst := some 37, op := Go.Op.fieldAddr 32 (Go.Operand.tmp 1) 13, type := 0, pos := "law.go:21", after := #[], guard := none }) (v := .pointer (some ⟨g1, 15, none⟩)) rfl (by kernel_rfl) (by kernel_rfl) (by kernel_rfl) (fun _ _ _ h => h) (Or.inl ⟨by rfl, ?_⟩) (by assumption) ?_
  · (intro W hSW; go_simp; (try with_reducible rfl))
  try simp only [Act.put, List.setIfInBounds_toArray, List.set_cons_zero, List.set_cons_succ]
  refine wpAnyH_take (i := 35) (oi := { dst := some 38, op := Go.Op.load 3 (Go.Operand.tmp 37), type := 3, pos := "law.go:21", after := #[{ on := 34, ground := Go.Ground.data }], guard := none }) (v := m.c 15) rfl (by kernel_rfl) (by kernel_rfl) (by kernel_rfl) (fun _ _ _ h => h) (Or.inl ⟨by rfl, ?_⟩) (by assumption) ?_
  · (intro W hSW; have hc := (blk_cell hSW 15).trans (rfl : _ = some (m.c 15)); go_simp; (try with_reducible rfl))
  try simp only [Act.put, List.setIfInBounds_toArray, List.set_cons_zero, List.set_cons_succ]
  refine wpAnyH_take (i := 36) (oi := { dst := some 39, op := Go.Op.fieldAddr 32 (Go.Operand.tmp 1) 14, type := 0, pos := "law.go:21", after := #[], guard := none }) (v := .pointer (some ⟨g1, 16, none⟩)) rfl (by kernel_rfl) (by kernel_rfl) (by kernel_rfl) (fun _ _ _ h => h) (Or.inl ⟨by rfl, ?_⟩) (by assumption) ?_
  · (intro W hSW; go_simp; (try with_reducible rfl))
  try simp only [Act.put, List.setIfInBounds_toArray, List.set_cons_zero, List.set_cons_succ]
  refine wpAnyH_take (i := 37) (oi := { dst := some 40, op := Go.Op.load 9 (Go.Operand.tmp 39), type := 9, pos := "law.go:21", after := #[{ on := 36, ground := Go.Ground.data }], guard := none }) (v := m.c 16) rfl (by kernel_rfl) (by kernel_rfl) (by kernel_rfl) (fun _ _ _ h => h) (Or.inl ⟨by rfl, ?_⟩) (by assumption) ?_
  · (intro W hSW; have hc := (blk_cell hSW 16).trans (rfl : _ = some (m.c 16)); go_simp; (try with_reducible rfl))
  try simp only [Act.put, List.setIfInBounds_toArray, List.set_cons_zero, List.set_cons_succ]
  refine wpAnyH_take (i := 38) (oi := { dst := some 41, op := Go.Op.fieldAddr 32 (Go.Operand.tmp 1) 15, type := 0, pos := "law.go:21", after := #[], guard := none }) (v := .pointer (some ⟨g1, 17, none⟩)) rfl (by kernel_rfl) (by kernel_rfl) (by kernel_rfl) (fun _ _ _ h => h) (Or.inl ⟨by rfl, ?_⟩) (by assumption) ?_
  · (intro W hSW; go_simp; (try with_reducible rfl))
  try simp only [Act.put, List.setIfInBounds_toArray, List.set_cons_zero, List.set_cons_succ]
  refine wpAnyH_take (i := 39) (oi := { dst := some 42, op := Go.Op.load 4 (Go.Operand.tmp 41), type := 4, pos := "law.go:21", after := #[{ on := 38, ground := Go.Ground.data }], guard := none }) (v := m.c 17) rfl (by kernel_rfl) (by kernel_rfl) (by kernel_rfl) (fun _ _ _ h => h) (Or.inl ⟨by rfl, ?_⟩) (by assumption) ?_
  · (intro W hSW; have hc := (blk_cell hSW 17).trans (rfl : _ = some (m.c 17)); go_simp; (try with_reducible rfl))
  try simp only [Act.put, List.setIfInBounds_toArray, List.set_cons_zero, List.set_cons_succ]
  refine wpAnyH_take (i := 40) (oi := { dst := some 43, op := Go.Op.fieldAddr 32 (Go.Operand.tmp 1) 16, type := 0, pos := "law.go:21", after := #[], guard := none }) (v := .pointer (some ⟨g1, 18, none⟩)) rfl (by kernel_rfl) (by kernel_rfl) (by kernel_rfl) (fun _ _ _ h => h) (Or.inl ⟨by rfl, ?_⟩) (by assumption) ?_
  · (intro W hSW; go_simp; (try with_reducible rfl))
  try simp only [Act.put, List.setIfInBounds_toArray, List.set_cons_zero, List.set_cons_succ]
  refine wpAnyH_take (i := 41) (oi := { dst := some 44, op := Go.Op.load 9 (Go.Operand.tmp 43), type := 9, pos := "law.go:21", after := #[{ on := 40, ground := Go.Ground.data }], guard := none }) (v := m.c 18) rfl (by kernel_rfl) (by kernel_rfl) (by kernel_rfl) (fun _ _ _ h => h) (Or.inl ⟨by rfl, ?_⟩) (by assumption) ?_
  · (intro W hSW; have hc := (blk_cell hSW 18).trans (rfl : _ = some (m.c 18)); go_simp; (try with_reducible rfl))
  try simp only [Act.put, List.setIfInBounds_toArray, List.set_cons_zero, List.set_cons_succ]
  refine wpAnyH_take (i := 42) (oi := { dst := some 45, op := Go.Op.fieldAddr 32 (Go.Operand.tmp 1) 17, type := 0, pos := "law.go:21", after := #[], guard := none }) (v := .pointer (some ⟨g1, 19, none⟩)) rfl (by kernel_rfl) (by kernel_rfl) (by kernel_rfl) (fun _ _ _ h => h) (Or.inl ⟨by rfl, ?_⟩) (by assumption) ?_
  · (intro W hSW; go_simp; (try with_reducible rfl))
  try simp only [Act.put, List.setIfInBounds_toArray, List.set_cons_zero, List.set_cons_succ]
  refine wpAnyH_take (i := 43) (oi := { dst := some 46, op := Go.Op.load 24 (Go.Operand.tmp 45), type := 24, pos := "law.go:21", after := #[{ on := 42, ground := Go.Ground.data }], guard := none }) (v := .agg #[m.c 19, m.c 20]) rfl (by kernel_rfl) (by kernel_rfl) (by kernel_rfl) (fun _ _ _ h => h) (Or.inl ⟨by rfl, ?_⟩) (by assumption) ?_
  · exact fun W hSW => run_load_mid rfl (g := g1) (off := 19) rfl [m.c 19, m.c 20] (fun j v hj => (blk_cell hSW (19 + j)).trans (mid_cell m.c sv 19 2 (by decide) j v hj)) Try.underlying24 rfl (by kernel_rfl)
  try simp only [Act.put, List.setIfInBounds_toArray, List.set_cons_zero, List.set_cons_succ]
  refine wpAnyH_take (i := 44) (oi := { dst := some 47, op := Go.Op.fieldAddr 32 (Go.Operand.tmp 1) 18, type := 0, pos := "law.go:21", after := #[], guard := none }) (v := .pointer (some ⟨g1, 21, none⟩)) rfl (by kernel_rfl) (by kernel_rfl) (by kernel_rfl) (fun _ _ _ h => h) (Or.inl ⟨by rfl, ?_⟩) (by assumption) ?_
  · (intro W hSW; go_simp; (try with_reducible rfl))
  try simp only [Act.put, List.setIfInBounds_toArray, List.set_cons_zero, List.set_cons_succ]
  refine wpAnyH_take (i := 45) (oi := { dst := some 48, op := Go.Op.load 28 (Go.Operand.tmp 47), type := 28, pos := "law.go:21", after := #[{ on := 44, ground := Go.Ground.data }], guard := none }) (v := m.c 21) rfl (by kernel_rfl) (by kernel_rfl) (by kernel_rfl) (fun _ _ _ h => h) (Or.inl ⟨by rfl, ?_⟩) (by assumption) ?_
  · (intro W hSW; have hc := (blk_cell hSW 21).trans (rfl : _ = some (m.c 21)); go_simp; (try with_reducible rfl))
  try simp only [Act.put, List.setIfInBounds_toArray, List.set_cons_zero, List.set_cons_succ]
  refine wpAnyH_take (i := 46) (oi := { dst := some 49, op := Go.Op.fieldAddr 32 (Go.Operand.tmp 1) 19, type := 0, pos := "law.go:21", after := #[], guard := none }) (v := .pointer (some ⟨g1, 22, none⟩)) rfl (by kernel_rfl) (by kernel_rfl) (by kernel_rfl) (fun _ _ _ h => h) (Or.inl ⟨by rfl, ?_⟩) (by assumption) ?_
  · (intro W hSW; go_simp; (try with_reducible rfl))
  try simp only [Act.put, List.setIfInBounds_toArray, List.set_cons_zero, List.set_cons_succ]
  refine wpAnyH_take (i := 47) (oi := { dst := some 50, op := Go.Op.load 30 (Go.Operand.tmp 49), type := 30, pos := "law.go:21", after := #[{ on := 46, ground := Go.Ground.data }], guard := none }) (v := .agg #[m.c 22, m.c 23, m.c 24, m.c 25]) rfl (by kernel_rfl) (by kernel_rfl) (by kernel_rfl) (fun _ _ _ h => h) (Or.inl ⟨by rfl, ?_⟩) (by assumption) ?_
  · exact fun W hSW => run_load_mid rfl (g := g1) (off := 22) rfl [m.c 22, m.c 23, m.c 24, m.c 25] (fun j v hj => (blk_cell hSW (22 + j)).trans (mid_cell m.c sv 22 4 (by decide) j v hj)) Try.underlying30 rfl (by kernel_rfl)
  try simp only [Act.put, List.setIfInBounds_toArray, List.set_cons_zero, List.set_cons_succ]
  refine pl_go rfl (by kernel_rfl) (by kernel_rfl) ?_
  refine pl_states (w0 := w2.drew) (m := m) (sv := sv) (S := (fun W => W.heap[g1]? = some (.cells (msgC m.c sv) 32 (0, 0)))) (fun W hB => (hB.block g1 (blk_lt HX1.out)).trans HX1.out) (fun j hj => ?_) HM.out.fit HN.out (fun a W hJ => ?_) 8 0 0 _ _ rfl (by decide) (by decide) (by decide) ⟨Below.refl _ _, rfl, rfl, fun _ _ _ h => h, fun j hj h => absurd h (by simp), fun j hj => absurd hj (Nat.not_lt_zero _)⟩
  · have : j = 0 ∨ j = 1 ∨ j = 2 ∨ j = 3 := by omega
    have hMs := HM.out.below HBW.out
    rcases this with rfl | rfl | rfl | rfl
    · exact ⟨rfl, hMs.rd 3 entryF (by simp [lists])⟩
    · exact ⟨rfl, hMs.rd 8 pairF (by simp [lists])⟩
    · exact ⟨rfl, hMs.rd 9 seenF (by simp [lists])⟩
    · exact ⟨rfl, hMs.rd 10 epochF (by simp [lists])⟩
  obtain ⟨v3, q3, r3, f3⟩ := hJ.app 0 (by decide)
  obtain ⟨v8, q8, r8, f8⟩ := hJ.app 1 (by decide)
  obtain ⟨v9, q9, r9, f9⟩ := hJ.app 2 (by decide)
  obtain ⟨v10, q10, r10, f10⟩ := hJ.app 3 (by decide)
  obtain ⟨sv', t3, t8, t9, t10⟩ : ∃ s : Nat → Value, v3 = s 3 ∧ v8 = s 8 ∧ v9 = s 9 ∧ v10 = s 10 := ⟨fun j => if j = 3 then v3 else if j = 8 then v8 else if j = 9 then v9 else v10, rfl, rfl, rfl, rfl⟩
  subst t3 t8 t9 t10
  have hMW : MsgRd W (msgV m.c sv') m sv' := ⟨rfl, HM.out.typed, HM.out.fit, fun j fs hj => by
    simp only [lists, List.mem_cons, Prod.mk.injEq, List.not_mem_nil, or_false] at hj
    rcases hj with ⟨rfl, rfl⟩ | ⟨rfl, rfl⟩ | ⟨rfl, rfl⟩ | ⟨rfl, rfl⟩
    · exact r3
    · exact r8
    · exact r9
    · exact r10⟩
  have hS : W.heap[g1]? = some (.cells (msgC m.c sv) 32 (0, 0)) := (hJ.bel.block g1 (blk_lt HX1.out)).trans HX1.out
  have hX : W.heap[g2]? = some (.cells (msgC zeroC nils) 35 (0, 0)) := (hJ.bel.block g2 (blk_lt HX2.out)).trans HX2.out
  have p2 : Has a 2 (.pointer (some ⟨g2, 0, none⟩)) := hJ.old 2 _ rfl rfl
  refine wpAnyH_take (i := 48) (oi := { dst := some 51, op := Go.Op.build 35 #[(0, Go.Operand.tmp 4), (1, Go.Operand.tmp 6), (2, Go.Operand.tmp 8), (3, Go.Operand.tmp 12), (4, Go.Operand.tmp 14), (5, Go.Operand.tmp 16), (6, Go.Operand.tmp 18), (7, Go.Operand.tmp 22), (8, Go.Operand.tmp 26), (9, Go.Operand.tmp 30), (10, Go.Operand.tmp 32), (11, Go.Operand.tmp 34), (12, Go.Operand.tmp 36), (13, Go.Operand.tmp 38), (14, Go.Operand.tmp 40), (15, Go.Operand.tmp 42), (16, Go.Operand.tmp 44), (17, Go.Operand.tmp 46), (18, Go.Operand.tmp 48), (19, Go.Operand.tmp 50)], type := 35, pos := "law.go:21", after := #[{ on := 1, ground := Go.Ground.data }, { on := 3, ground := Go.Ground.data }, { on := 5, ground := Go.Ground.data }, { on := 9, ground := Go.Ground.data }, { on := 11, ground := Go.Ground.data }, { on := 13, ground := Go.Ground.data }, { on := 15, ground := Go.Ground.data }, { on := 19, ground := Go.Ground.data }, { on := 23, ground := Go.Ground.data }, { on := 27, ground := Go.Ground.data }, { on := 29, ground := Go.Ground.data }, { on := 31, ground := Go.Ground.data }, { on := 33, ground := Go.Ground.data }, { on := 35, ground := Go.Ground.data }, { on := 37, ground := Go.Ground.data }, { on := 39, ground := Go.Ground.data }, { on := 41, ground := Go.Ground.data }, { on := 43, ground := Go.Ground.data }, { on := 45, ground := Go.Ground.data }, { on := 47, ground := Go.Ground.data }], guard := none }) (v := .agg (msgC m.c sv')) rfl (by kernel_rfl) (by kernel_rfl) (by kernel_rfl) (fun _ _ _ h => h) (Or.inl ⟨by rfl, fun W' _ => build_run HM.out.typed (fun j fs hj => by obtain ⟨A, c, e, _⟩ := hMW.rd j fs hj; exact ⟨_, _, _, e⟩) (hJ.old 4 _ rfl rfl).eval (hJ.old 6 _ rfl rfl).eval (hJ.old 8 _ rfl rfl).eval q3.eval (hJ.old 14 _ rfl rfl).eval (hJ.old 16 _ rfl rfl).eval (hJ.old 18 _ rfl rfl).eval q8.eval q9.eval q10.eval (hJ.old 32 _ rfl rfl).eval (hJ.old 34 _ rfl rfl).eval (hJ.old 36 _ rfl rfl).eval (hJ.old 38 _ rfl rfl).eval (hJ.old 40 _ rfl rfl).eval (hJ.old 42 _ rfl rfl).eval (hJ.old 44 _ rfl rfl).eval (hJ.old 46 _ rfl rfl).eval (hJ.old 48 _ rfl rfl).eval (hJ.old 50 _ rfl rfl).eval⟩) hS ?_
  refine wpAnyH_ready (rs := [49]) (by kernel_rfl) (by simp) ?_
  refine AllReadyH.cons (o := { dst := none, op := Go.Op.store 35 (Go.Operand.tmp 2) (Go.Operand.tmp 51), type := 0, pos := "law.go:21", after := #[{ on := 48, ground := Go.Ground.data }, { on := 27, ground := Go.Ground.chain }, { on := 0, ground := Go.Ground.phase }, { on := 1, ground := Go.Ground.phase }, { on := 2, ground := Go.Ground.phase }, { on := 3, ground := Go.Ground.phase }, { on := 4, ground := Go.Ground.phase }, { on := 5, ground := Go.Ground.phase }, { on := 6, ground := Go.Ground.phase }, { on := 7, ground := Go.Ground.phase }, { on := 8, ground := Go.Ground.phase }, { on := 9, ground := Go.Ground.phase }, { on := 10, ground := Go.Ground.phase }, { on := 11, ground := Go.Ground.phase }, { on := 12, ground := Go.Ground.phase }, { on := 13, ground := Go.Ground.phase }, { on := 14, ground := Go.Ground.phase }, { on := 15, ground := Go.Ground.phase }, { on := 16, ground := Go.Ground.phase }, { on := 17, ground := Go.Ground.phase }, { on := 18, ground := Go.Ground.phase }, { on := 19, ground := Go.Ground.phase }, { on := 20, ground := Go.Ground.phase }, { on := 21, ground := Go.Ground.phase }, { on := 22, ground := Go.Ground.phase }, { on := 23, ground := Go.Ground.phase }, { on := 24, ground := Go.Ground.phase }, { on := 25, ground := Go.Ground.phase }, { on := 26, ground := Go.Ground.phase }, { on := 27, ground := Go.Ground.phase }, { on := 28, ground := Go.Ground.phase }, { on := 29, ground := Go.Ground.phase }, { on := 30, ground := Go.Ground.phase }, { on := 31, ground := Go.Ground.phase }, { on := 32, ground := Go.Ground.phase }, { on := 33, ground := Go.Ground.phase }, { on := 34, ground := Go.Ground.phase }, { on := 35, ground := Go.Ground.phase }, { on := 36, ground := Go.Ground.phase }, { on := 37, ground := Go.Ground.phase }, { on := 38, ground := Go.Ground.phase }, { on := 39, ground := Go.Ground.phase }, { on := 40, ground := Go.Ground.phase }, { on := 41, ground := Go.Ground.phase }, { on := 42, ground := Go.Ground.phase }, { on := 43, ground := Go.Ground.phase }, { on := 44, ground := Go.Ground.phase }, { on := 45, ground := Go.Ground.phase }, { on := 46, ground := Go.Ground.phase }, { on := 47, ground := Go.Ground.phase }, { on := 48, ground := Go.Ground.phase }], guard := none }) rfl (fun K hK => ?_) AllReadyH.nil
  rw [if_pos (by rfl)]
  refine wp_store_row 35 (.tmp 2) (.tmp 51) rfl g2 (p2.far (by decide)).eval (msgC m.c sv') _ (Has.same (by rw [hJ.size]; decide)).eval _ hX rfl info_msg hMW.one (fun w13 hX13 hO13 => ?_)
  refine hK _ _ (hO13.blk hS HNE.out.1) (fun _ => ?_)
  refine wpAnyH_done (by kernel_rfl) ?_ _
  go_wp2
  refine bodyPost_ret (results_cell_row rfl _ _ g2 _ (msgC m.c sv') (0, 0) _ (((p2.far (by decide)).eval : _)) hX13 Try.underlying35 rfl info_msg) ?_ ?_
  · exact hJ.defers
  have hn : ∀ k, w2.heap.size ≤ k → ¬ k = g2 := fun k h e => by have := HNE.out.2.2; omega
  refine ⟨_, sv', rfl, hMW.only hO13 (fun j fs hj => by
    simp only [lists, List.mem_cons, Prod.mk.injEq, List.not_mem_nil, or_false] at hj
    rcases hj with ⟨rfl, rfl⟩ | ⟨rfl, rfl⟩ | ⟨rfl, rfl⟩ | ⟨rfl, rfl⟩
    · exact fun k h1 h2 => hn k (f3 k h1 h2)
    · exact fun k h1 h2 => hn k (f8 k h1 h2)
    · exact fun k h1 h2 => hn k (f9 k h1 h2)
    · exact fun k h1 h2 => hn k (f10 k h1 h2)), ?_⟩
  have hBw : Below w.heap.size w W := (HBW.out.drew).trans (hJ.bel.mono HBW.out.size)
  refine ⟨below_only hBw hO13 hBw.size (fun k hk => by have hk' : k = g2 := hk; have := HNE.out.2.1; omega), fun j fs hj => ?_⟩
  simp only [lists, List.mem_cons, Prod.mk.injEq, List.not_mem_nil, or_false] at hj
  have h02 := HBW.out.size
  rcases hj with ⟨rfl, rfl⟩ | ⟨rfl, rfl⟩ | ⟨rfl, rfl⟩ | ⟨rfl, rfl⟩
  · exact fun k h1 h2 => Nat.le_trans h02 (f3 k h1 h2)
  · exact fun k h1 h2 => Nat.le_trans h02 (f8 k h1 h2)
  · exact fun k h1 h2 => Nat.le_trans h02 (f9 k h1 h2)
  · exact fun k h1 h2 => Nat.le_trans h02 (f10 k h1 h2)
end Go.Proofs.Ytcbehfbfaonanaa.Wr
end

/- Light: no list longer than 1000. -/
section
namespace Go.Proofs.Ytcbehfbfaonanaa.Wr
open Go.RowKit Go.Proofs.YtcbehfbfaonanaaW.PrintWords Go.Proofs.YtcbehfbfaonanaaW.PrintLast Go.Proofs.YtcbehfbfaonanaaW.PrintMore Go.Proofs.Ytcbehfbfaonanaa.Pk
set_option linter.unusedVariables false
set_option linter.unusedSimpArgs false

def LightM (m : M) : Prop := (m.L 3).length ≤ 1000 ∧ (m.L 8).length ≤ 1000 ∧ (m.L 9).length ≤ 1000 ∧ (m.L 10).length ≤ 1000
set_option maxRecDepth 100000 in
set_option maxHeartbeats 4000000 in
theorem light_c (w : World) (v : Value) (m : M) (sv : Nat → Value) (h : MsgRd w v m sv) :
    Calls Try.prog 9 #[v] w (IsEqB (LightM m) w) := by
  obtain rfl := h.agg
  obtain ⟨A3, c3, s3, _⟩ := h.rd 3 entryF (by simp [lists])
  obtain ⟨A8, c8, s8, _⟩ := h.rd 8 pairF (by simp [lists])
  obtain ⟨A9, c9, s9, _⟩ := h.rd 9 seenF (by simp [lists])
  obtain ⟨A10, c10, s10, _⟩ := h.rd 10 epochF (by simp [lists])
  unfold LightM
  generalize (m.L 3).length = n3 at *
  generalize (m.L 8).length = n8 at *
  generalize (m.L 9).length = n9 at *
  generalize (m.L 10).length = n10 at *
  clear h
  have S3 := Aside0.mk s3
  have S8 := Aside0.mk s8
  have S9 := Aside0.mk s9
  have S10 := Aside0.mk s10
  clear s3 s8 s9 s10
  have key : ∀ n : Nat, (n ≤ 1000 ∧ decide ((n : Int) ≤ 1000) = true) ∨ (¬ n ≤ 1000 ∧ decide ((n : Int) ≤ 1000) = false) := fun n => by
    by_cases h : n ≤ 1000
    · exact .inl ⟨h, by simpa using (by omega : (n : Int) ≤ 1000)⟩
    · exact .inr ⟨h, by simpa using (by omega : ¬ (n : Int) ≤ 1000)⟩
  rcases key n3 with ⟨k3, d3⟩ | ⟨k3, d3⟩ <;> rcases key n8 with ⟨k8, d8⟩ | ⟨k8, d8⟩ <;> rcases key n9 with ⟨k9, d9⟩ | ⟨k9, d9⟩ <;> rcases key n10 with ⟨k10, d10⟩ | ⟨k10, d10⟩ <;> clear key <;>
  · go_enter Try.func9, Try.ntmps9
    go_upto_region 1 with (first | ((with_reducible refine gate_dst (N := 1) rfl ?_); refine box_row rfl 32 (.tmp 0) rfl (msgC m.c sv) rfl ?_; intro g1 w1 hg hbox hb; have HB1 := Aside0.mk hb; have H3 : w1.cell? ⟨g1, 3, none⟩ = some (.slice A3 n3 c3) := (blk_cell hbox 3).trans (by rw [← S3.out]; rfl); have H8 : w1.cell? ⟨g1, 8, none⟩ = some (.slice A8 n8 c8) := (blk_cell hbox 8).trans (by rw [← S8.out]; rfl); have H9 : w1.cell? ⟨g1, 9, none⟩ = some (.slice A9 n9 c9) := (blk_cell hbox 9).trans (by rw [← S9.out]; rfl); have H10 : w1.cell? ⟨g1, 10, none⟩ = some (.slice A10 n10 c10) := (blk_cell hbox 10).trans (by rw [← S10.out]; rfl); clear hb hbox hg))
    go_wp2
    go_ret
    exact ⟨_, rfl, by simp [k3, k8, k9, k10], HB1.out⟩
end Go.Proofs.Ytcbehfbfaonanaa.Wr
end

/- Bytes copied and put behind bytes. -/
section
namespace Go.Proofs.Ytcbehfbfaonanaa.Wr
open Go.RowKit Go.Proofs.YtcbehfbfaonanaaW.PrintWords Go.Proofs.YtcbehfbfaonanaaW.PrintLast Go.Proofs.YtcbehfbfaonanaaW.PrintMore Go.Proofs.Ytcbehfbfaonanaa.Pk
open Go.Proofs.Ytcbehfbfaonanaa.PFr (sealL openL ansE Ok)
set_option linter.unusedVariables false
set_option linter.unusedSimpArgs false

/-- Bytes in memory of their own. -/
def OwnB (W : World) (base : Nat) (v : Value) (l : List Int) : Prop := W.ownsRow base 5 1 v l.length (nums .u8 l)
theorem OwnB.lit (W : World) : OwnB (W.alloc (.cells #[] 5 (0, 0))) W.heap.size (.slice (some ⟨W.heap.size, 0, none⟩) 0 0) [] :=
  World.ownsRow_lit (base := W.heap.size) (e := 5) (size := 1) W #[] 0 (Nat.le_refl _) (by omega) rfl
theorem OwnB.rd {W : World} {base : Nat} {v : Value} {l : List Int} (h : OwnB W base v l) : BRd W v l := by
  rcases h.2 with ⟨rfl, h0⟩ | ⟨g, cap, cur, e, hb, hg, hc, _⟩
  · obtain rfl : l = [] := List.length_eq_zero_iff.1 h0
    exact ⟨none, 0, rfl, ⟨rfl, by simp, fun h => absurd h (by simp)⟩, Nat.le_refl _⟩
  · exact brd_own e h hc
theorem append_bytes {ops : Array Oper} {rest : List Oper} {o : Oper} {a : Act} {Q : Exit → Act → World → Prop} {w0 W : World} (base : Nat) (hgd : o.guard = none) (s x : Operand) (ho : o.op = .call { callee := .builtin .append, args := #[s, x], argTypes := #[37, 37] })
    (v sv : Value) (xs l : List Int) (hs : a.eval s = v) (hx : a.eval x = sv) (HO : OwnB W base v xs) (HR : BRd W sv l) (HB : Below base w0 W) (hbase : base ≤ W.heap.size) (hl : xs.length + l.length ≤ 140737488355328)
    (h : ∀ v1 w1, OwnB w1 base v1 (xs ++ l) → Below base w0 w1 → wpList Try.prog ops Q rest (a.put o.dst v1) w1) : wpList Try.prog ops Q (o :: rest) a W := by
  obtain ⟨A, c, rfl, hC, hc⟩ := HR
  exact print_append_row (w0 := w0) base hgd s x 37 5 .u8 1 ho Try.underlying37 info_u8 (by decide) v xs l A l.length c hs hx HO (reads_of_c hC) HB hbase (by omega) (fun v1 w1 h1 h2 _ _ => h v1 w1 h1 h2)
/-- Nothing is made of bytes that are refused. -/
theorem dec_none {l : List Int} (h : openL l = none) : decM l = (zeroM, 2) := by unfold decM; rw [h]
theorem same_zero {W : World} {v : Value} {sv : Nat → Value} (h : MsgRd W v zeroM sv) : Calls Try.prog 17 #[v, .agg #[.int .i64 0, .int .i64 0, .int .i64 0, .slice none 0 0, .int .i64 0, .int .i64 0, .int .i64 0, .int .i64 0, .slice none 0 0, .slice none 0 0, .slice none 0 0, .int .i64 0, .int .i64 0, .bool false, .int .i64 0, .int .i64 0, .string ⟨#[]⟩, .bool false, .string ⟨#[]⟩, .int .i64 0, .int .i64 0, .int .i64 0, .int .i64 0, .int .i64 0, .bool false, .string ⟨#[]⟩]] W (fun e w' => e = .returned (.bool true) ∧ Below W.heap.size W w') :=
  isB_true (show MEq zeroM zeroM from ⟨fun _ _ => rfl, fun _ _ _ => rfl⟩) (wireSame_c W _ _ zeroM zeroM sv nils h (zero_rd W) (fun j => Nat.zero_le _) (fun j => Nat.zero_le _))
/-- The lists lie from block B on. -/
def New (m : M) (s : Nat → Value) (B : Nat) : Prop := ∀ j fs, (j, fs) ∈ lists → ∀ k, arr (s j) = some k → m.L j ≠ [] → B ≤ k
/-- Plain, of a message that is read further on. -/
def IsPlain (m : M) (w : World) (e : Ending) (w' : World) : Prop := Below w.heap.size w w' ∧ ∃ sv, e = .returned (.agg (msgC m.c sv)) ∧ MsgRd w' (.agg (msgC m.c sv)) m sv ∧ New m sv w.heap.size
theorem plainC {w : World} {v : Value} {m : M} {sv : Nat → Value} (h : MsgRd w v m sv) (hs : Small m) : Calls Try.prog 10 #[v] w (IsPlain m w) := by
  refine (plain_c w v m sv h hs.few).mono ?_
  rintro e w' ⟨v', sv', rfl, hM, hB, hF⟩
  obtain rfl := hM.agg
  exact ⟨hB, sv', rfl, hM, hF⟩
def IsYes (w : World) (e : Ending) (w' : World) : Prop := e = .returned (.bool true) ∧ Below w.heap.size w w'
theorem awakeC (w : World) : Calls Try.prog 8 #[] w (IsYes w) := isB_true trivial (awake_c w)
theorem payB_ok {m : M} (ht : Typed m) (hr : RightM m) : Ok (payB m) := pay_ok ht hr.1
end Go.Proofs.Ytcbehfbfaonanaa.Wr
end

/- WireOne's region that makes both plain messages, in whatever order. -/
section
namespace Go.Proofs.Ytcbehfbfaonanaa.Wr
open Go.RowKit Go.Proofs.YtcbehfbfaonanaaW.PrintWords Go.Proofs.YtcbehfbfaonanaaW.PrintLast Go.Proofs.YtcbehfbfaonanaaW.PrintMore Go.Proofs.Ytcbehfbfaonanaa.Pk
set_option linter.unusedVariables false
set_option linter.unusedSimpArgs false

/-- The lists lie in neither box. -/
def Off (m : M) (s : Nat → Value) (g : Nat) : Prop := ∀ j fs, (j, fs) ∈ lists → ∀ k, arr (s j) = some k → m.L j ≠ [] → ¬ k = g
def Apart (m : M) (s : Nat → Value) (c : Nat) (a : Act) : Prop := (c.testBit 0 = true → ∀ g, Has a 5 (.pointer (some ⟨g, 0, none⟩)) → Off m s g) ∧ (c.testBit 1 = true → ∀ g, Has a 6 (.pointer (some ⟨g, 0, none⟩)) → Off m s g)
theorem ListRd.lt {w : World} {sv : Value} {st : Nat} {rows : List (List Value)} (h : ListRd w sv st rows) (hst : 0 < st) (hl : ∀ r, r ∈ rows → r.length = st) {k : Nat} (hk : arr sv = some k) (h0 : rows ≠ []) : k < w.heap.size := by
  obtain ⟨a, c, rfl, _, h3⟩ := h
  obtain ⟨ad, rfl, h4⟩ := h3 h0
  cases hk
  obtain ⟨r, rs, rfl⟩ := List.exists_cons_of_ne_nil h0
  have hr := hl r (.head _)
  have h5 := h4 0 r rfl 0 (r[0]'(by omega)) (List.getElem?_eq_getElem (by omega))
  have := World.block_lt_of_cell? w _ h5
  simpa [Addr.add] using this
theorem MsgRd.off {w : World} {v : Value} {m : M} {sv : Nat → Value} (h : MsgRd w v m sv) {g : Nat} (hg : w.heap.size ≤ g) : Off m sv g := fun j fs hj k hk h0 e => by
  have := (h.rd j fs hj).lt (lists_pos hj) (fitl h.fit hj) hk h0
  omega
theorem New.off {m : M} {s : Nat → Value} {B g : Nat} (h : New m s B) (hg : g < B) : Off m s g := fun j fs hj k hk h0 e => by
  have := h j fs hj k hk h0
  omega
/-- Where the region stands: p calls are done; of the boxes, those of c. -/
structure Jo (a0 : Act) (w0 : World) (m0 m1 : M) (p c : Nat) (a : Act) (w : World) : Prop where
  bel : Below w0.heap.size w0 w
  size : a.tmps.size = 90
  defers : a.defers = a0.defers
  old : ∀ i v, i ≠ 22 → i ≠ 24 → i ≠ 5 → i ≠ 6 → Has a0 i v → Has a i v
  x : 0 < p → ∃ sx, Has a 22 (.agg (msgC m0.c sx)) ∧ MsgRd w (.agg (msgC m0.c sx)) m0 sx ∧ Apart m0 sx c a
  y : 1 < p → ∃ sy, Has a 24 (.agg (msgC m1.c sy)) ∧ MsgRd w (.agg (msgC m1.c sy)) m1 sy ∧ Apart m1 sy c a
  A : c.testBit 0 = true → ∃ g, Has a 5 (.pointer (some ⟨g, 0, none⟩)) ∧ w0.heap.size ≤ g ∧ w.heap[g]? = some (.cells (msgC zeroC nils) 35 (0, 0))
  B : c.testBit 1 = true → ∃ g, Has a 6 (.pointer (some ⟨g, 0, none⟩)) ∧ w0.heap.size ≤ g ∧ w.heap[g]? = some (.cells (msgC zeroC nils) 35 (0, 0))
  AB : c.testBit 0 = true → c.testBit 1 = true → ∀ g g', Has a 5 (.pointer (some ⟨g, 0, none⟩)) → Has a 6 (.pointer (some ⟨g', 0, none⟩)) → g ≠ g'
theorem Has.back {a : Act} {i d : Nat} {v u : Value} (h : Has (a.put (some d) u) i v) (hn : d ≠ i) : Has a i v := by
  unfold Has at *
  simp only [Act.put] at h
  rwa [Array.getElem?_setIfInBounds_ne hn] at h
theorem Has.inj {a : Act} {i : Nat} {v v' : Value} (h : Has a i v) (k : Has a i v') : v = v' := by
  have := h.symm.trans k
  injection this
end Go.Proofs.Ytcbehfbfaonanaa.Wr
end

/- One byte turned in a frame: it is opened no more; a frame with some missing or more behind it is opened no more. -/
section
namespace Go.Proofs.Ytcbehfbfaonanaa.PFr
open Go.RowKit Go.Proofs.YtcbehfbfaonanaaW.PrintWords Go.Proofs.YtcbehfbfaonanaaW.PrintLast Go.Proofs.YtcbehfbfaonanaaW.PrintMore
set_option linter.unusedVariables false
set_option linter.unusedSimpArgs false

theorem bit_zero_of {x : B} (h : bit x = 0#32) : x = 0#32 := by
  unfold bit at h
  cases h0 : x.getLsbD 0 with
  | true =>
    rw [h0, if_pos rfl] at h
    have h1 : ((x >>> 1) ^^^ 0xEDB88320#32).getLsbD 31 = false := by rw [h]; simp
    rw [BitVec.getLsbD_xor, BitVec.getLsbD_ushiftRight] at h1
    have h2 : x.getLsbD (1 + 31) = false := BitVec.getLsbD_of_ge _ _ (by decide)
    rw [h2] at h1
    exact absurd h1 (by decide)
  | false =>
    rw [h0, if_neg (by decide)] at h
    apply BitVec.eq_of_getLsbD_eq
    intro i hi
    rw [BitVec.getLsbD_zero]
    cases i with
    | zero => exact h0
    | succ i =>
      have h1 : (x >>> 1).getLsbD i = false := by rw [h]; simp
      rw [BitVec.getLsbD_ushiftRight] at h1
      rw [show i + 1 = 1 + i from by omega]
      exact h1
theorem bits8_zero_of {x : B} (h : bits8 x = 0#32) : x = 0#32 := by
  unfold bits8 bits4 at h
  exact bit_zero_of (bit_zero_of (bit_zero_of (bit_zero_of (bit_zero_of (bit_zero_of (bit_zero_of (bit_zero_of h)))))))
theorem xor_zero_eq {a b : B} (h : a ^^^ b = 0#32) : a = b := by
  have : a ^^^ b ^^^ b = 0#32 ^^^ b := by rw [h]
  rw [BitVec.xor_assoc] at this
  simpa using this
theorem xor_same (a : B) : a ^^^ a = 0#32 := by simp
theorem bits8_inj {a b : B} (h : bits8 a = bits8 b) : a = b := by
  apply xor_zero_eq
  apply bits8_zero_of
  rw [bits8_xor, h, xor_same]
theorem byte_inj {x y : Int} (hx : IsB x) (hy : IsB y) (h : BitVec.ofInt 32 x = BitVec.ofInt 32 y) : x = y := by
  obtain ⟨a0, a1⟩ := hx
  obtain ⟨b0, b1⟩ := hy
  have := congrArg V h
  rwa [V_ofInt a0 (by omega), V_ofInt b0 (by omega)] at this
theorem reg_inj (l : List Int) : ∀ (r s : B), reg r l = reg s l → r = s := by
  induction l with
  | nil => intro r s h; exact h
  | cons c l ih =>
    intro r s h
    have := bits8_inj (ih _ _ h)
    have h2 : r ^^^ BitVec.ofInt 32 c ^^^ BitVec.ofInt 32 c = s ^^^ BitVec.ofInt 32 c ^^^ BitVec.ofInt 32 c := by rw [this]
    rw [BitVec.xor_assoc, BitVec.xor_assoc] at h2
    simpa using h2
def x2 (a b : Int) : Int := Go.bits .xor .u8 a b
theorem x2_is (a b : Int) (ha : IsB a) (hb : IsB b) : IsB (x2 a b) ∧ BitVec.ofInt 32 (x2 a b) = BitVec.ofInt 32 a ^^^ BitVec.ofInt 32 b := by
  obtain ⟨a0, a1⟩ := ha
  obtain ⟨b0, b1⟩ := hb
  obtain ⟨n, rfl⟩ := Int.eq_ofNat_of_zero_le a0
  obtain ⟨m, rfl⟩ := Int.eq_ofNat_of_zero_le b0
  have hx : n ^^^ m < 256 := Nat.xor_lt_two_pow (n := 8) (by omega) (by omega)
  have e : Go.bits .xor .u8 (n : Int) (m : Int) = ((n ^^^ m : Nat) : Int) := by
    show IntKind.u8.wrap (((BitVec.ofInt 8 (n : Int) ^^^ BitVec.ofInt 8 (m : Int)).toNat : Nat) : Int) = _
    rw [Go.IntKind.wrap_u8, BitVec.toNat_xor, BitVec.toNat_ofInt, BitVec.toNat_ofInt]
    rw [show ((n : Int) % ((2 ^ 8 : Nat) : Int)).toNat = n from by omega, show ((m : Int) % ((2 ^ 8 : Nat) : Int)).toNat = m from by omega]
    omega
  unfold x2
  rw [e]
  refine ⟨⟨by omega, by omega⟩, ?_⟩
  apply BitVec.eq_of_toNat_eq
  rw [BitVec.toNat_xor, BitVec.toNat_ofInt, BitVec.toNat_ofInt, BitVec.toNat_ofInt]
  rw [show ((n : Int) % ((2 ^ 32 : Nat) : Int)).toNat = n from by omega, show ((m : Int) % ((2 ^ 32 : Nat) : Int)).toNat = m from by omega]
  omega
theorem x2_same (a b : Int) (ha : IsB a) (hb : IsB b) : x2 a b = a ↔ b = 0 := by
  obtain ⟨h1, h2⟩ := x2_is a b ha hb
  constructor
  · intro h
    rw [h] at h2
    have h3 : BitVec.ofInt 32 b = BitVec.ofInt 32 a ^^^ (BitVec.ofInt 32 a ^^^ BitVec.ofInt 32 b) := by rw [← BitVec.xor_assoc]; simp
    rw [← h2, xor_same] at h3
    exact byte_inj hb ⟨by decide, by decide⟩ h3
  · intro h
    subst h
    refine byte_inj h1 ha ?_
    rw [h2]
    simp
theorem reg_turn (r : B) (a b : List Int) (x y : Int) (hx : IsB x) (hy : IsB y) (h : reg r (a ++ x :: b) = reg r (a ++ y :: b)) : x = y := by
  rw [reg_append, reg_append, reg_cons, reg_cons] at h
  have h2 := bits8_inj (reg_inj b _ _ h)
  have h3 : BitVec.ofInt 32 x = BitVec.ofInt 32 y := by
    have h4 : reg r a ^^^ (reg r a ^^^ BitVec.ofInt 32 x) = reg r a ^^^ (reg r a ^^^ BitVec.ofInt 32 y) := by rw [h2]
    rw [← BitVec.xor_assoc, ← BitVec.xor_assoc, xor_same, BitVec.zero_xor, BitVec.zero_xor] at h4
    exact h4
  exact byte_inj hx hy h3
theorem crc_turn (a b : List Int) (x y : Int) (hx : IsB x) (hy : IsB y) (h : crc (a ++ x :: b) = crc (a ++ y :: b)) : x = y := by
  unfold crc at h
  have h1 := V_inj h
  have h2 : reg (BitVec.allOnes 32) (a ++ x :: b) = reg (BitVec.allOnes 32) (a ++ y :: b) := by
    have := congrArg (fun z => ~~~ z) h1
    simpa using this
  exact reg_turn _ a b x y hx hy h2
theorem openL_take {p : List Int} (ok : Ok p) {n : Nat} (h : n < (sealL p).length) : openL ((sealL p).take n) = none := by
  cases ho : openL ((sealL p).take n) with
  | none => rfl
  | some q =>
    exfalso
    obtain ⟨okq, e, _⟩ := openL_some ho
    have hl := congrArg List.length e
    rw [List.length_take, sealL_length, sealL_length] at hl
    rw [sealL_length] at h
    have okp := ok
    unfold Ok at okp okq
    have h1 : val4 ((sealL p).take n) = q.length := by
      have := val4_sealL okq []
      rw [List.append_nil, ← e] at this
      exact this
    have h2 : val4 ((sealL p).take n) = p.length := by
      have hv := val4_sealL ok []
      rw [List.append_nil] at hv
      rw [← hv]
      unfold val4
      have g : ∀ i : Nat, i < 4 → rd ((sealL p).take n) i = rd (sealL p) i := by
        intro i hi
        unfold rd
        rw [Int.toNat_natCast, List.getD_eq_getElem?_getD, List.getD_eq_getElem?_getD, List.getElem?_take_of_lt (by omega)]
      have g0 := g 0 (by omega)
      have g1 := g 1 (by omega)
      have g2 := g 2 (by omega)
      have g3 := g 3 (by omega)
      rw [show ((0 : Nat) : Int) = 0 from rfl] at g0
      rw [show ((1 : Nat) : Int) = 1 from rfl] at g1
      rw [show ((2 : Nat) : Int) = 2 from rfl] at g2
      rw [show ((3 : Nat) : Int) = 3 from rfl] at g3
      rw [g0, g1, g2, g3]
    omega
theorem openL_more {p m : List Int} (ok : Ok p) (h : m ≠ []) : openL (sealL p ++ m) = none := by
  cases ho : openL (sealL p ++ m) with
  | none => rfl
  | some q =>
    exfalso
    obtain ⟨okq, e, _⟩ := openL_some ho
    have hl := congrArg List.length e
    rw [List.length_append, sealL_length, sealL_length] at hl
    have h1 : val4 (sealL p ++ m) = q.length := by
      have := val4_sealL okq []
      rw [List.append_nil, ← e] at this
      exact this
    rw [val4_sealL ok m] at h1
    exact h (List.eq_nil_of_length_eq_zero (by omega))
theorem openL_turn {p : List Int} (ok : Ok p) (hb : ∀ x ∈ p, IsB x) {n : Nat} (hn : n < (sealL p).length) {v : Int} (hv : IsB v) (hne : v ≠ rd (sealL p) n) : openL ((sealL p).set n v) = none := by
  cases ho : openL ((sealL p).set n v) with
  | none => rfl
  | some q =>
    exfalso
    obtain ⟨okq, e, eq⟩ := openL_some ho
    have hl := congrArg List.length e
    rw [List.length_set, sealL_length, sealL_length] at hl
    have hget : rd (sealL q) n = v := by
      rw [← e]
      unfold rd
      rw [Int.toNat_natCast, List.getD_eq_getElem?_getD, List.getElem?_set_self hn]
      rfl
    have hn4 : num4 (q.length : Int) = num4 (p.length : Int) := by congr 1; omega
    have split3 : ∀ z : List Int, sealL z = num4 (z.length : Int) ++ (num4 (crc (num4 (z.length : Int) ++ z)) ++ z) := fun z => by unfold sealL; rw [List.append_assoc]
    by_cases h4 : n < 4
    · apply hne
      rw [← hget, split3 q, split3 p, hn4]
      unfold rd
      rw [Int.toNat_natCast, List.getD_eq_getElem?_getD, List.getD_eq_getElem?_getD, List.getElem?_append_left (by rw [num4_length]; omega), List.getElem?_append_left (by rw [num4_length]; omega)]
    by_cases h8 : n < 8
    · have hq : q = p := by
        rw [eq, List.drop_set_of_lt (by omega), sealL_drop]
      apply hne
      rw [← hget, hq]
    · have hq : q = p.set (n - 8) v := by
        rw [eq, List.drop_set, if_neg (by omega), sealL_drop]
      have hnp : n - 8 < p.length := by rw [sealL_length] at hn; omega
      have hc : num4 (crc (num4 (q.length : Int) ++ q)) = num4 (crc (num4 (p.length : Int) ++ p)) := by
        have h1 := congrArg (fun z => (z.drop 4).take 4) e
        have h2 : (((sealL p).set n v).drop 4).take 4 = ((sealL p).drop 4).take 4 := by
          rw [List.drop_set, if_neg (by omega), List.take_set_of_le (by omega)]
        rw [h2] at h1
        have h3 : ∀ z : List Int, ((sealL z).drop 4).take 4 = num4 (crc (num4 (z.length : Int) ++ z)) := fun z => by unfold sealL num4; rfl
        rw [h3, h3] at h1
        exact h1.symm
      have hc2 : crc (num4 (q.length : Int) ++ q) = crc (num4 (p.length : Int) ++ p) := by
        have h1 := congrArg val4 hc
        have r1 := crc_range (num4 (q.length : Int) ++ q)
        have r2 := crc_range (num4 (p.length : Int) ++ p)
        have e1 := val4_num4 r1.1 r1.2 []
        have e2 := val4_num4 r2.1 r2.2 []
        rw [List.append_nil] at e1 e2
        rw [← e1, ← e2, h1]
      have hp : p = p.take (n - 8) ++ p[n - 8] :: p.drop (n - 8 + 1) := by
        rw [← List.drop_eq_getElem_cons hnp, List.take_append_drop]
      have hq2 : q = p.take (n - 8) ++ v :: p.drop (n - 8 + 1) := by
        rw [hq, List.set_eq_take_append_cons_drop, if_pos hnp]
      rw [hn4] at hc2
      rw [hq2] at hc2
      have hc3 : crc ((num4 (p.length : Int) ++ p.take (n - 8)) ++ v :: p.drop (n - 8 + 1)) = crc ((num4 (p.length : Int) ++ p.take (n - 8)) ++ p[n - 8] :: p.drop (n - 8 + 1)) := by
        rw [List.append_assoc, List.append_assoc, ← hp]
        exact hc2
      have hvp := crc_turn _ _ _ _ hv (hb _ (List.getElem_mem hnp)) hc3
      apply hne
      rw [hvp]
      unfold rd
      rw [Int.toNat_natCast, List.getD_eq_getElem?_getD]
      have h5 : (sealL p)[n]? = p[n - 8]? := by
        have := List.getElem?_drop (xs := sealL p) (i := 8) (j := n - 8)
        rw [sealL_drop, show 8 + (n - 8) = n from by omega] at this
        exact this.symm
      rw [h5, List.getElem?_eq_getElem hnp]
      rfl
end Go.Proofs.Ytcbehfbfaonanaa.PFr
end

/- WireBehind. -/
section
namespace Go.Proofs.Ytcbehfbfaonanaa.Wr
open Go.RowKit Go.Proofs.YtcbehfbfaonanaaW.PrintWords Go.Proofs.YtcbehfbfaonanaaW.PrintLast Go.Proofs.YtcbehfbfaonanaaW.PrintMore Go.Proofs.Ytcbehfbfaonanaa.Pk
open Go.Proofs.Ytcbehfbfaonanaa.PFr (sealL openL ansE Ok)
set_option linter.unusedVariables false
set_option linter.unusedSimpArgs false

theorem info_rmsg : (Try.prog.info? 32).map (·.size) = some 26 := by kernel_rfl
end Go.Proofs.Ytcbehfbfaonanaa.Wr
end

/- WireOne. -/
section
namespace Go.Proofs.Ytcbehfbfaonanaa.Wr
open Go.RowKit Go.Proofs.YtcbehfbfaonanaaW.PrintWords Go.Proofs.YtcbehfbfaonanaaW.PrintLast Go.Proofs.YtcbehfbfaonanaaW.PrintMore Go.Proofs.Ytcbehfbfaonanaa.Pk
open Go.Proofs.Ytcbehfbfaonanaa.PFr (sealL openL ansE Ok)
set_option linter.unusedVariables false
set_option linter.unusedSimpArgs false

theorem Jo.act {a0 : Act} {w0 : World} {m0 m1 : M} {a : Act} {w : World} (h : Jo a0 w0 m0 m1 2 3 a w) (hsz : a0.tmps.size = 90) :
    ∃ sx sy g g', MsgRd w (.agg (msgC m0.c sx)) m0 sx ∧ MsgRd w (.agg (msgC m1.c sy)) m1 sy ∧ w0.heap.size ≤ g ∧ w0.heap.size ≤ g' ∧ g ≠ g' ∧ (Off m0 sx g ∧ Off m0 sx g' ∧ Off m1 sy g ∧ Off m1 sy g') ∧ (Has a 22 (.agg (msgC m0.c sx)) ∧ Has a 24 (.agg (msgC m1.c sy)) ∧ Has a 5 (.pointer (some ⟨g, 0, none⟩)) ∧ Has a 6 (.pointer (some ⟨g', 0, none⟩))) ∧ w.heap[g]? = some (.cells (msgC zeroC nils) 35 (0, 0)) ∧ w.heap[g']? = some (.cells (msgC zeroC nils) 35 (0, 0)) ∧
      a = { tmps := ((((a0.tmps.setIfInBounds 22 (.agg (msgC m0.c sx))).setIfInBounds 24 (.agg (msgC m1.c sy))).setIfInBounds 5 (.pointer (some ⟨g, 0, none⟩))).setIfInBounds 6 (.pointer (some ⟨g', 0, none⟩))), defers := a0.defers } := by
  obtain ⟨sx, x1, x2, x3⟩ := h.x (by omega)
  obtain ⟨sy, y1, y2, y3⟩ := h.y (by omega)
  obtain ⟨g, g1, g2, g3⟩ := h.A (by decide)
  obtain ⟨g', k1, k2, k3⟩ := h.B (by decide)
  refine ⟨sx, sy, g, g', x2, y2, g2, k2, h.AB (by decide) (by decide) g g' g1 k1, ⟨x3.1 (by decide) g g1, x3.2 (by decide) g' k1, y3.1 (by decide) g g1, y3.2 (by decide) g' k1⟩, ⟨x1, y1, g1, k1⟩, g3, k3, ?_⟩
  have hd := h.defers
  have hs := h.size
  have ho := h.old
  obtain ⟨ts, ds⟩ := a
  simp only at hd hs
  subst hd
  congr 1
  apply Array.ext_getElem?
  intro i
  by_cases i6 : 6 = i
  · subst i6
    rw [Array.getElem?_setIfInBounds_self_of_lt (by simp; omega)]
    exact k1
  rw [Array.getElem?_setIfInBounds_ne i6]
  by_cases i5 : 5 = i
  · subst i5
    rw [Array.getElem?_setIfInBounds_self_of_lt (by simp; omega)]
    exact g1
  rw [Array.getElem?_setIfInBounds_ne i5]
  by_cases i24 : 24 = i
  · subst i24
    rw [Array.getElem?_setIfInBounds_self_of_lt (by simp; omega)]
    exact y1
  rw [Array.getElem?_setIfInBounds_ne i24]
  by_cases i22 : 22 = i
  · subst i22
    rw [Array.getElem?_setIfInBounds_self_of_lt (by omega)]
    exact x1
  rw [Array.getElem?_setIfInBounds_ne i22]
  rcases Nat.lt_or_ge i 90 with hi | hi
  · have e := Array.getElem?_eq_getElem (xs := a0.tmps) (i := i) (by omega)
    rw [e]
    exact ho i _ (fun e => i22 e.symm) (fun e => i24 e.symm) (fun e => i5 e.symm) (fun e => i6 e.symm) e
  · rw [Array.getElem?_eq_none (by omega), Array.getElem?_eq_none (by omega)]
end Go.Proofs.Ytcbehfbfaonanaa.Wr
end

/- WireOne: the walk. -/
section
namespace Go.Proofs.Ytcbehfbfaonanaa.Wr
open Go.RowKit Go.Proofs.YtcbehfbfaonanaaW.PrintWords Go.Proofs.YtcbehfbfaonanaaW.PrintLast Go.Proofs.YtcbehfbfaonanaaW.PrintMore Go.Proofs.Ytcbehfbfaonanaa.Pk
open Go.Proofs.Ytcbehfbfaonanaa.PFr (sealL openL ansE Ok)
set_option linter.unusedVariables false
set_option linter.unusedSimpArgs false

theorem wp_calls {P : Program} {o : Oper} {a : Act} {w : World} {K : Act → World → Prop} {Q : Exit → Act → World → Prop} {f : FuncId} {fn : Func} {os : Array Operand} {ts : Array TypeId} (hf : P.funcs[f]? = some fn) (hname : (fn.name == "runtime.NumGoroutine") = false) (hb : fn.body.isSome = true) (args : Array Value)
    (hop : o.op = .call { callee := .value (.func f), args := os, argTypes := ts }) (hargs : os.map a.eval = args)
    (h : Calls P f args w fun e w' => ∃ v, e = .returned v ∧ K (a.put o.dst v) w') : Oper.wp P o a w K Q := by
  have he := enters_ hf hname hb args w
  have hrun : (execOp a.eval o).run P w = .ok (.enter f args) w := by
    unfold execOp
    simp [hop, resolve, Deferred.ofValue, invoke, Act.eval, hargs, he]
  unfold Oper.wp
  rw [hrun, Oper.upon_enter]
  refine h.mono fun e w'' hh => ?_
  obtain ⟨v, rfl, hk⟩ := hh
  exact hk
theorem MEq.symm {a b : M} (h : MEq a b) : MEq b a := ⟨fun i hi => (h.1 i hi).symm, fun j fs hj => (h.2 j fs hj).symm⟩
theorem MEq.trans {a b c : M} (h : MEq a b) (k : MEq b c) : MEq a c := ⟨fun i hi => (h.1 i hi).trans (k.1 i hi), fun j fs hj => (h.2 j fs hj).trans (k.2 j fs hj)⟩
theorem encY {m : M} (ks : Small m) (hr : RightM m) (W : World) (s : Nat → Value) (h : MsgRd W (.agg (msgC m.c s)) m s) : Calls Try.prog 11 #[.agg (msgC m.c s)] W (IsBE (sealL (payB m)) 0 W) := by
  have k := encode_yes W _ m s h ks hr
  rw [sealA_ok h.typed hr] at k
  exact k
end Go.Proofs.Ytcbehfbfaonanaa.Wr
end

/- Bytes of one's own: one is turned; what Decode answers of what is left, of more. -/
section
namespace Go.Proofs.Ytcbehfbfaonanaa.Wr
open Go.RowKit Go.Proofs.YtcbehfbfaonanaaW.PrintWords Go.Proofs.YtcbehfbfaonanaaW.PrintLast Go.Proofs.YtcbehfbfaonanaaW.PrintMore Go.Proofs.Ytcbehfbfaonanaa.Pk
open Go.Proofs.Ytcbehfbfaonanaa.PFr (sealL openL ansE Ok)
set_option linter.unusedVariables false
set_option linter.unusedSimpArgs false

/-- As 'K' alone: nothing else is let out. -/
def OnlyK (K : Act → World → Prop) : Exit → Act → World → Prop
  | .normal, a, w => K a w
  | _, _, _ => False
theorem wp_of_onlyK {P : Program} {o : Oper} {a : Act} {w : World} {K : Act → World → Prop} {Q : Exit → Act → World → Prop} (h : Oper.wp P o a w K (OnlyK K)) : Oper.wp P o a w K Q := by
  unfold Oper.wp at *
  generalize (execOp a.eval o).run P w = r at *
  unfold Oper.upon at *
  split at h
  · exact h
  · exact h
  · exact h
  · refine Calls.mono h fun e w'' hh => ?_
    cases e with
    | returned v => exact hh
    | panicked c => exact hh.elim
    | outgrown => obtain ⟨_, _, h'⟩ := hh; exact h'.elim
  · exact h
  · exact h.elim
  · exact h.elim
theorem wp_append_bytes {ops : Array Oper} {o : Oper} {a : Act} {K : Act → World → Prop} {Q : Exit → Act → World → Prop} {w0 W : World} (base : Nat) (hgd : o.guard = none) (s x : Operand) (ho : o.op = .call { callee := .builtin .append, args := #[s, x], argTypes := #[37, 37] })
    (v sv : Value) (xs l : List Int) (hs : a.eval s = v) (hx : a.eval x = sv) (HO : OwnB W base v xs) (HR : BRd W sv l) (HB : Below base w0 W) (hbase : base ≤ W.heap.size) (hl : xs.length + l.length ≤ 140737488355328)
    (h : ∀ v1 w1, OwnB w1 base v1 (xs ++ l) → Below base w0 w1 → (∀ k o, W.heap[k]? = some o → v.ownBlock ≠ some k → w1.heap[k]? = some o ∧ v1.ownBlock ≠ some k) → K (a.put o.dst v1) w1) : Oper.wp Try.prog o a W K Q := by
  have key : wpList Try.prog ops (OnlyK K) [o] a W := by
    obtain ⟨A, c, rfl, hC, hc⟩ := HR
    refine print_append_row (w0 := w0) base hgd s x 37 5 .u8 1 ho Try.underlying37 info_u8 (by decide) v xs l A l.length c hs hx HO (reads_of_c hC) HB hbase (by omega) (fun v1 w1 h1 h2 h3 h4 => ?_)
    unfold wpList
    refine h v1 w1 h1 h2 (fun k o hk hn => ⟨?_, ?_⟩)
    · exact (h3.block k (blk_lt hk) (fun e => hn e.symm)).trans hk
    · rcases h4 with h4 | ⟨b, h4, h5⟩
      · rw [h4]; exact hn
      · rw [h4]
        intro e
        cases e
        have := blk_lt hk
        omega
  unfold wpList at key
  have hw : Region.wanted o (yielded ops a.tmps) = true := by unfold Region.wanted; rw [hgd]
  rw [if_pos hw] at key
  rcases key with key | ⟨_, _, _, hf⟩
  · exact wp_of_onlyK (Oper.wp_mono (fun a w h => by unfold wpList at h; exact h) key)
  · exact hf.elim
theorem OwnB.ne_new {W : World} {b : Nat} {v : Value} {l : List Int} (h : OwnB W b v l) : v.ownBlock ≠ some W.heap.size := fun e => by
  have := (World.ownsRow.lt h _ e).2
  omega
theorem OwnB.low {W : World} {b b' : Nat} {v : Value} {l : List Int} (h : OwnB W b v l) (hb : b' ≤ b) : OwnB W b' v l := by
  refine ⟨h.1, ?_⟩
  rcases h.2 with h | ⟨g, cap, cur, e, h1, h2⟩
  · exact .inl h
  · exact .inr ⟨g, cap, cur, e, Nat.le_trans hb h1, h2⟩
theorem OwnB.below {W W' : World} {b : Nat} {v : Value} {l : List Int} (h : OwnB W b v l) (hB : Below W.heap.size W W') : OwnB W' b v l := by
  refine ⟨h.1, ?_⟩
  rcases h.2 with h | ⟨g, cap, cur, e, h1, h2, h3⟩
  · exact .inl h
  · exact .inr ⟨g, cap, cur, e, h1, (hB.block g (blk_lt h2)).trans h2, h3⟩
theorem OwnB.some {W : World} {b : Nat} {v : Value} {l : List Int} (h : OwnB W b v l) (hl : l ≠ []) : ∃ g cap cur, v = .slice (some ⟨g, 0, none⟩) l.length cap ∧ b ≤ g ∧ W.heap[g]? = some (.cells cur 5 (0, 0)) ∧ cur.toList.take (l.length * 1) = nums .u8 l ∧ l.length ≤ cap ∧ cap ≤ maxLen ∧ cur.size = cap * 1 := by
  rcases h.2 with ⟨_, h0⟩ | ⟨g, cap, cur, e, h1, h2, h3, h4, h5, h6⟩
  · exact absurd (List.length_eq_zero_iff.1 h0) hl
  · exact ⟨g, cap, cur, e, h1, h2, h6, h3, h4, h5⟩
theorem own_cell {W : World} {g : Nat} {cur : Array Value} {l : List Int} (h2 : W.heap[g]? = some (.cells cur 5 (0, 0))) (h6 : cur.toList.take (l.length * 1) = nums .u8 l) {i : Nat} (hi : i < l.length) : W.cell? ⟨g, i, none⟩ = some (.int .u8 (rd l i)) := by
  refine (blk_cell h2 i).trans ?_
  have h : (cur.toList.take (l.length * 1))[i]? = (nums .u8 l)[i]? := by rw [h6]
  rw [List.getElem?_take, if_pos (by omega)] at h
  rw [← Array.getElem?_toList, h, nums, List.getElem?_map, List.getElem?_eq_getElem hi]
  have : rd l (i : Int) = l[i] := by unfold rd; simp [hi, List.getD_eq_getElem?_getD]
  rw [this]
  rfl
theorem own_set {W : World} {b g cap : Nat} {cur : Array Value} {l : List Int} {v : Value} (e : v = .slice (some ⟨g, 0, none⟩) l.length cap) (h1 : b ≤ g) (h2 : W.heap[g]? = some (.cells cur 5 (0, 0))) (h6 : cur.toList.take (l.length * 1) = nums .u8 l) (h3 : l.length ≤ cap) (h4 : cap ≤ maxLen) (h5 : cur.size = cap * 1) {i : Nat} (hi : i < l.length) (y : Int) :
    OwnB (W.setCell ⟨g, i, none⟩ (.int .u8 y)) b v (l.set i y) := by
  refine ⟨by simp [nums], .inr ⟨g, cap, cur.setIfInBounds i (.int .u8 y), by rw [List.length_set]; exact e, h1, blk_set h2 i _, by rw [List.length_set]; exact h3, h4, by simpa using h5, ?_⟩⟩
  rw [List.length_set]
  have : (cur.setIfInBounds i (.int .u8 y)).toList = cur.toList.set i (.int .u8 y) := by simp
  rw [this, List.take_set, h6, nums, nums, List.map_set]
/-- The first bytes of a slice. -/
theorem BRd.take {W : World} {A : Option Addr} {c c' : Nat} {l : List Int} (h : BRd W (.slice A l.length c) l) {i : Nat} (hi : i ≤ l.length) (hc : i ≤ c') : BRd W (.slice A i c') (l.take i) := by
  obtain ⟨A', c1, e, h1, h2⟩ := h
  injection e with e1 e2 e3
  subst e1
  have hl : (l.take i).length = i := by rw [List.length_take]; omega
  refine ⟨A, c', by rw [hl], ?_, by rw [hl]; exact hc⟩
  rw [hl]
  exact c_of_reads ((reads_of_c h1).take_ i hi)
def IsD (m : M) (er : Int) (w : World) (e : Ending) (w' : World) : Prop := Below w.heap.size w w' ∧ ∃ sv, e = .returned (.tuple #[.agg (msgC m.c sv), .int .i64 er]) ∧ MsgRd w' (.agg (msgC m.c sv)) m sv
theorem decode_d {l : List Int} (w : World) (v : Value) (h : BRd w v l) (hb : ∀ x ∈ l, Pk.IsB x) (hl : l.length ≤ 9000000000) : Calls Try.prog 18 #[v] w (IsD (decM l).1 (decM l).2 w) := by
  refine (decode_c w v l h hb hl).mono ?_
  rintro e w' ⟨hB, v', rfl, sv, hM, _⟩
  obtain rfl := hM.agg
  exact ⟨hB, sv, rfl, hM⟩
theorem zero_any {W W' : World} {s : Nat → Value} (h : MsgRd W (.agg (msgC zeroM.c s)) zeroM s) : MsgRd W' (.agg (msgC zeroM.c s)) zeroM s :=
  ⟨h.eq, h.typed, h.fit, fun j fs hj => by
    obtain ⟨A, c, e, h0, h1⟩ := h.rd j fs hj
    exact ⟨A, c, e, h0, fun h => absurd rfl h⟩⟩
theorem dec_seal {m : M} (ht : Typed m) (hr : RightM m) : decM (sealL (payB m)) = (rdM (payB m), 0) := by
  unfold decM
  rw [PFr.openL_sealL (payB_ok ht hr)]
  simp only [hr.2.1, if_true]
theorem set_same {l : List Int} {i : Nat} (hi : i < l.length) : l.set i (rd l i) = l := by
  have : rd l (i : Int) = l[i] := by unfold rd; simp [hi, List.getD_eq_getElem?_getD]
  rw [this, List.set_getElem_self]
theorem rd_isB {l : List Int} (h : ∀ x ∈ l, Pk.IsB x) {i : Nat} (hi : i < l.length) : Pk.IsB (rd l i) := by
  have : rd l (i : Int) = l[i] := by unfold rd; simp [hi, List.getD_eq_getElem?_getD]
  rw [this]
  exact h _ (List.getElem_mem hi)
theorem set_isB {l : List Int} (h : ∀ x ∈ l, Pk.IsB x) {y : Int} (hy : Pk.IsB y) (i : Nat) : ∀ x ∈ l.set i y, Pk.IsB x := fun x hx => by
  rcases List.mem_or_eq_of_mem_set hx with hx | rfl
  · exact h x hx
  · exact hy
theorem blk_keep {W W' : World} {g : Nat} {o : Obj} (hB : Below W.heap.size W W') (hlt : g < W.heap.size) (h : W.heap[g]? = some o) : W'.heap[g]? = some o := (hB.block g hlt).trans h
end Go.Proofs.Ytcbehfbfaonanaa.Wr
end

/- WireRefuses. -/
section
namespace Go.Proofs.Ytcbehfbfaonanaa.Wr
open Go.RowKit Go.Proofs.YtcbehfbfaonanaaW.PrintWords Go.Proofs.YtcbehfbfaonanaaW.PrintLast Go.Proofs.YtcbehfbfaonanaaW.PrintMore Go.Proofs.Ytcbehfbfaonanaa.Pk
open Go.Proofs.Ytcbehfbfaonanaa.PFr (sealL openL ansE Ok x2)
set_option linter.unusedVariables false
set_option linter.unusedSimpArgs false

set_option maxRecDepth 100000 in
set_option maxHeartbeats 4000000 in
theorem re_heavy (w : World) (va : Value) (n y : Int) (q : Value) (m : M) (sv : Nat → Value) (h : MsgRd w va m sv) (hl : ¬ LightM m) :
    Calls Try.prog 5 #[va, .agg #[.int .i64 n, .int .u8 y, q]] w (IsYes w) := by
  obtain rfl := h.agg
  have HL := Aside0.mk (fun (W : World) (hB : Below w.heap.size w W) => isB_false hl (light_c W _ m sv (h.below hB)))
  clear h hl
  go_enter Try.func5, Try.ntmps5
  go_wp2_with (first | ((with_reducible refine gate_dst (N := 2) rfl ?_); refine box_row rfl 32 (.tmp 0) rfl (msgC m.c sv) rfl ?_; intro g1 w1 hg hbox hb; have HX1 := Aside0.mk hbox; have HB1 := Aside0.mk hb; clear hg hbox hb) | ((with_reducible refine gate_dst (N := 3) rfl ?_); refine box_row rfl 51 (.tmp 1) rfl #[.int .i64 n, .int .u8 y, q] rfl ?_; intro g3 w2 hg hbox hb; have HX12 := Aside0.mk ((hb.block g1 (blk_lt HX1.out)).trans HX1.out); have HT2 := Aside0.mk hbox; have HB2 := Aside0.mk (HB1.out.trans (hb.mono HB1.out.size)); clear hg hbox hb) | (go_at_call 8; (with_reducible refine (awakeC _).mono ?_); rintro e w3 ⟨rfl, hB⟩; have HB3 := Aside0.mk (HB2.out.trans (hB.mono HB2.out.size)); have HX13 := Aside0.mk ((hB.block g1 (blk_lt HX12.out)).trans HX12.out); have HT3 := Aside0.mk ((hB.block g3 (blk_lt HT2.out)).trans HT2.out); clear hB) | ((with_reducible refine gate_dst (N := 16) rfl ?_); refine load_row rfl 32 (.tmp 2) rfl g1 rfl (msgC m.c sv) 32 HX13.out _ Try.underlying32 rfl info_rmsg ?_) | (go_at_call 9; (with_reducible refine (HL.out _ HB3.out).mono ?_); rintro e w4 ⟨rfl, hB⟩; have HB4 := Aside0.mk (HB3.out.trans (hB.mono HB3.out.size)); have HX14 := Aside0.mk ((hB.block g1 (blk_lt HX13.out)).trans HX13.out); have HT4 := Aside0.mk ((hB.block g3 (blk_lt HT3.out)).trans HT3.out); clear hB) | fail)
  go_ret
  exact ⟨rfl, HB4.out⟩
set_option maxRecDepth 100000 in
set_option maxHeartbeats 4000000 in
theorem re_wrong (w : World) (va : Value) (n y : Int) (q : Value) (m : M) (sv : Nat → Value) (h : MsgRd w va m sv) (hs : Small m) (hl : LightM m) (hr : ¬ RightM m) :
    Calls Try.prog 5 #[va, .agg #[.int .i64 n, .int .u8 y, q]] w (IsYes w) := by
  obtain rfl := h.agg
  have HL := Aside0.mk (fun (W : World) (hB : Below w.heap.size w W) => isB_true hl (light_c W _ m sv (h.below hB)))
  have HP := Aside0.mk (fun (W : World) (hB : Below w.heap.size w W) => plainC (h.below hB) hs)
  have HE : Aside0 (∀ (W : World) (s : Nat → Value) (h : MsgRd W (.agg (msgC m.c s)) m s), Calls Try.prog 11 #[.agg (msgC m.c s)] W (IsBE ([] : List Int) 1 W)) := Aside0.mk (fun W s h => encode_no W _ m s h hs hr)
  clear h hl hs hr
  go_enter Try.func5, Try.ntmps5
  go_wp2_with (first | ((with_reducible refine gate_dst (N := 2) rfl ?_); refine box_row rfl 32 (.tmp 0) rfl (msgC m.c sv) rfl ?_; intro g1 w1 hg hbox hb; have HX1 := Aside0.mk hbox; have HB1 := Aside0.mk hb; clear hg hbox hb) | ((with_reducible refine gate_dst (N := 3) rfl ?_); refine box_row rfl 51 (.tmp 1) rfl #[.int .i64 n, .int .u8 y, q] rfl ?_; intro g3 w2 hg hbox hb; have HX12 := Aside0.mk ((hb.block g1 (blk_lt HX1.out)).trans HX1.out); have HT2 := Aside0.mk hbox; have HB2 := Aside0.mk (HB1.out.trans (hb.mono HB1.out.size)); clear hg hbox hb) | (go_at_call 8; (with_reducible refine (awakeC _).mono ?_); rintro e w3 ⟨rfl, hB⟩; have HB3 := Aside0.mk (HB2.out.trans (hB.mono HB2.out.size)); have HX13 := Aside0.mk ((hB.block g1 (blk_lt HX12.out)).trans HX12.out); have HT3 := Aside0.mk ((hB.block g3 (blk_lt HT2.out)).trans HT2.out); clear hB) | ((with_reducible refine gate_dst (N := 16) rfl ?_); refine load_row rfl 32 (.tmp 2) rfl g1 rfl (msgC m.c sv) 32 HX13.out _ Try.underlying32 rfl info_rmsg ?_) | (go_at_call 9; (with_reducible refine (HL.out _ HB3.out).mono ?_); rintro e w4 ⟨rfl, hB⟩; have HB4 := Aside0.mk (HB3.out.trans (hB.mono HB3.out.size)); have HX14 := Aside0.mk ((hB.block g1 (blk_lt HX13.out)).trans HX13.out); have HT4 := Aside0.mk ((hB.block g3 (blk_lt HT3.out)).trans HT3.out); clear hB) | ((with_reducible refine gate_dst (N := 20) rfl ?_); refine load_row rfl 32 (.tmp 2) rfl g1 rfl (msgC m.c sv) 32 HX14.out _ Try.underlying32 rfl info_rmsg ?_) | (go_at_call 10; (with_reducible refine (HP.out _ HB4.out).mono ?_); rintro e w5 ⟨hB, s5, rfl, hM, _⟩; have HE5 := Aside0.mk (HE.out _ _ hM); have HB5 := Aside0.mk (HB4.out.trans (hB.mono HB4.out.size)); have HT5 := Aside0.mk ((hB.block g3 (blk_lt HT4.out)).trans HT4.out); clear hB hM) | (go_at_call 11; (with_reducible refine HE5.out.mono ?_); rintro e w6 ⟨hB, vv, rfl, hv⟩; have HB6 := Aside0.mk (HB5.out.trans (hB.mono HB5.out.size)); have HT6 := Aside0.mk ((hB.block g3 (blk_lt HT5.out)).trans HT5.out); obtain ⟨A6, c6, e6, _, hc6⟩ := id hv; have HV6 := Aside0.mk (show BRd w6 vv [] from hv); have HC6 := Aside0.mk hc6; subst e6; have c0 : w6.cell? ⟨g3, 0, none⟩ = some (.int .i64 n) := blk_cell HT6.out 0; clear hB hv hc6 HE5) | fail)
  go_ret
  exact ⟨rfl, HB6.out⟩
set_option maxRecDepth 100000 in
set_option maxHeartbeats 4000000 in
theorem re_neg (w : World) (va : Value) (n y : Int) (q : Value) (m : M) (sv : Nat → Value) (h : MsgRd w va m sv) (hs : Small m) (hl : LightM m) (hr : RightM m) (hn : n < 0) :
    Calls Try.prog 5 #[va, .agg #[.int .i64 n, .int .u8 y, q]] w (IsYes w) := by
  obtain rfl := h.agg
  have HL := Aside0.mk (fun (W : World) (hB : Below w.heap.size w W) => isB_true hl (light_c W _ m sv (h.below hB)))
  have HP := Aside0.mk (fun (W : World) (hB : Below w.heap.size w W) => plainC (h.below hB) hs)
  have HE : Aside0 (∀ (W : World) (s : Nat → Value) (h : MsgRd W (.agg (msgC m.c s)) m s), Calls Try.prog 11 #[.agg (msgC m.c s)] W (IsBE (sealL (payB m)) 0 W)) := Aside0.mk (fun W s h => encY hs hr W s h)
  have hd : decide (n < 0) = true := decide_eq_true hn
  clear h hl hs hr
  generalize sealL (payB m) = B at *
  go_enter Try.func5, Try.ntmps5
  go_wp2_with (first | ((with_reducible refine gate_dst (N := 2) rfl ?_); refine box_row rfl 32 (.tmp 0) rfl (msgC m.c sv) rfl ?_; intro g1 w1 hg hbox hb; have HX1 := Aside0.mk hbox; have HB1 := Aside0.mk hb; clear hg hbox hb) | ((with_reducible refine gate_dst (N := 3) rfl ?_); refine box_row rfl 51 (.tmp 1) rfl #[.int .i64 n, .int .u8 y, q] rfl ?_; intro g3 w2 hg hbox hb; have HX12 := Aside0.mk ((hb.block g1 (blk_lt HX1.out)).trans HX1.out); have HT2 := Aside0.mk hbox; have HB2 := Aside0.mk (HB1.out.trans (hb.mono HB1.out.size)); clear hg hbox hb) | (go_at_call 8; (with_reducible refine (awakeC _).mono ?_); rintro e w3 ⟨rfl, hB⟩; have HB3 := Aside0.mk (HB2.out.trans (hB.mono HB2.out.size)); have HX13 := Aside0.mk ((hB.block g1 (blk_lt HX12.out)).trans HX12.out); have HT3 := Aside0.mk ((hB.block g3 (blk_lt HT2.out)).trans HT2.out); clear hB) | ((with_reducible refine gate_dst (N := 16) rfl ?_); refine load_row rfl 32 (.tmp 2) rfl g1 rfl (msgC m.c sv) 32 HX13.out _ Try.underlying32 rfl info_rmsg ?_) | (go_at_call 9; (with_reducible refine (HL.out _ HB3.out).mono ?_); rintro e w4 ⟨rfl, hB⟩; have HB4 := Aside0.mk (HB3.out.trans (hB.mono HB3.out.size)); have HX14 := Aside0.mk ((hB.block g1 (blk_lt HX13.out)).trans HX13.out); have HT4 := Aside0.mk ((hB.block g3 (blk_lt HT3.out)).trans HT3.out); clear hB) | ((with_reducible refine gate_dst (N := 20) rfl ?_); refine load_row rfl 32 (.tmp 2) rfl g1 rfl (msgC m.c sv) 32 HX14.out _ Try.underlying32 rfl info_rmsg ?_) | (go_at_call 10; (with_reducible refine (HP.out _ HB4.out).mono ?_); rintro e w5 ⟨hB, s5, rfl, hM, _⟩; have HE5 := Aside0.mk (HE.out _ _ hM); have HB5 := Aside0.mk (HB4.out.trans (hB.mono HB4.out.size)); have HT5 := Aside0.mk ((hB.block g3 (blk_lt HT4.out)).trans HT4.out); clear hB hM) | (go_at_call 11; (with_reducible refine HE5.out.mono ?_); rintro e w6 ⟨hB, vv, rfl, hv⟩; have HB6 := Aside0.mk (HB5.out.trans (hB.mono HB5.out.size)); have HT6 := Aside0.mk ((hB.block g3 (blk_lt HT5.out)).trans HT5.out); obtain ⟨A6, c6, e6, _, hc6⟩ := id hv; have HV6 := Aside0.mk (show BRd w6 vv B from hv); have HC6 := Aside0.mk hc6; subst e6; have c0 : w6.cell? ⟨g3, 0, none⟩ = some (.int .i64 n) := blk_cell HT6.out 0; clear hB hv hc6 HE5) | fail)
  go_ret
  exact ⟨rfl, HB6.out⟩
set_option maxRecDepth 100000 in
set_option maxHeartbeats 4000000 in
theorem re_far (w : World) (va : Value) (n y : Int) (q : Value) (m : M) (sv : Nat → Value) (h : MsgRd w va m sv) (hs : Small m) (hl : LightM m) (hr : RightM m) (hn : 0 ≤ n) (hf : ((sealL (payB m)).length : Int) ≤ n) :
    Calls Try.prog 5 #[va, .agg #[.int .i64 n, .int .u8 y, q]] w (IsYes w) := by
  obtain rfl := h.agg
  have HL := Aside0.mk (fun (W : World) (hB : Below w.heap.size w W) => isB_true hl (light_c W _ m sv (h.below hB)))
  have HP := Aside0.mk (fun (W : World) (hB : Below w.heap.size w W) => plainC (h.below hB) hs)
  have HE : Aside0 (∀ (W : World) (s : Nat → Value) (h : MsgRd W (.agg (msgC m.c s)) m s), Calls Try.prog 11 #[.agg (msgC m.c s)] W (IsBE (sealL (payB m)) 0 W)) := Aside0.mk (fun W s h => encY hs hr W s h)
  have hd : decide (n < 0) = false := decide_eq_false (by omega)
  have hd2 : decide (((sealL (payB m)).length : Int) ≤ n) = true := decide_eq_true hf
  clear h hl hs hr
  generalize sealL (payB m) = B at *
  go_enter Try.func5, Try.ntmps5
  go_wp2_with (first | ((with_reducible refine gate_dst (N := 2) rfl ?_); refine box_row rfl 32 (.tmp 0) rfl (msgC m.c sv) rfl ?_; intro g1 w1 hg hbox hb; have HX1 := Aside0.mk hbox; have HB1 := Aside0.mk hb; clear hg hbox hb) | ((with_reducible refine gate_dst (N := 3) rfl ?_); refine box_row rfl 51 (.tmp 1) rfl #[.int .i64 n, .int .u8 y, q] rfl ?_; intro g3 w2 hg hbox hb; have HX12 := Aside0.mk ((hb.block g1 (blk_lt HX1.out)).trans HX1.out); have HT2 := Aside0.mk hbox; have HB2 := Aside0.mk (HB1.out.trans (hb.mono HB1.out.size)); clear hg hbox hb) | (go_at_call 8; (with_reducible refine (awakeC _).mono ?_); rintro e w3 ⟨rfl, hB⟩; have HB3 := Aside0.mk (HB2.out.trans (hB.mono HB2.out.size)); have HX13 := Aside0.mk ((hB.block g1 (blk_lt HX12.out)).trans HX12.out); have HT3 := Aside0.mk ((hB.block g3 (blk_lt HT2.out)).trans HT2.out); clear hB) | ((with_reducible refine gate_dst (N := 16) rfl ?_); refine load_row rfl 32 (.tmp 2) rfl g1 rfl (msgC m.c sv) 32 HX13.out _ Try.underlying32 rfl info_rmsg ?_) | (go_at_call 9; (with_reducible refine (HL.out _ HB3.out).mono ?_); rintro e w4 ⟨rfl, hB⟩; have HB4 := Aside0.mk (HB3.out.trans (hB.mono HB3.out.size)); have HX14 := Aside0.mk ((hB.block g1 (blk_lt HX13.out)).trans HX13.out); have HT4 := Aside0.mk ((hB.block g3 (blk_lt HT3.out)).trans HT3.out); clear hB) | ((with_reducible refine gate_dst (N := 20) rfl ?_); refine load_row rfl 32 (.tmp 2) rfl g1 rfl (msgC m.c sv) 32 HX14.out _ Try.underlying32 rfl info_rmsg ?_) | (go_at_call 10; (with_reducible refine (HP.out _ HB4.out).mono ?_); rintro e w5 ⟨hB, s5, rfl, hM, _⟩; have HE5 := Aside0.mk (HE.out _ _ hM); have HB5 := Aside0.mk (HB4.out.trans (hB.mono HB4.out.size)); have HT5 := Aside0.mk ((hB.block g3 (blk_lt HT4.out)).trans HT4.out); clear hB hM) | (go_at_call 11; (with_reducible refine HE5.out.mono ?_); rintro e w6 ⟨hB, vv, rfl, hv⟩; have HB6 := Aside0.mk (HB5.out.trans (hB.mono HB5.out.size)); have HT6 := Aside0.mk ((hB.block g3 (blk_lt HT5.out)).trans HT5.out); obtain ⟨A6, c6, e6, _, hc6⟩ := id hv; have HV6 := Aside0.mk (show BRd w6 vv B from hv); have HC6 := Aside0.mk hc6; subst e6; have c0 : w6.cell? ⟨g3, 0, none⟩ = some (.int .i64 n) := blk_cell HT6.out 0; clear hB hv hc6 HE5) | fail)
  go_ret
  exact ⟨rfl, HB6.out⟩
theorem wp_val {P : Program} {o : Oper} {a : Act} {w w' : World} {K : Act → World → Prop} {Q : Exit → Act → World → Prop} {v : Value} (hrun : (execOp a.eval o).run P w = .ok (.value v) w') (h : K (a.put o.dst v) w') : Oper.wp P o a w K Q := by
  unfold Oper.wp
  rw [hrun]
  exact h
theorem wp_store1 {W : World} {g i : Nat} {c : Value} {u : Int} {o : Oper} {a : Act} {K : Act → World → Prop} {Q : Exit → Act → World → Prop} (x z : Operand) (ho : o.op = .store 5 x z) (hx : a.eval x = .pointer (some ⟨g, i, none⟩)) (hz : a.eval z = .int .u8 u) (hc : W.cell? ⟨g, i, none⟩ = some c) (hfz : W.frozen? ⟨g, i, none⟩ = false) (h : K (a.put o.dst undef) (W.setCell ⟨g, i, none⟩ (.int .u8 u))) : Oper.wp Try.prog o a W K Q := by
  unfold Oper.wp execOp
  simp only [ho, hx, hz]
  go_simp
  exact h
theorem only_setCell (g : Nat) (i : Nat) (v : Value) (W : World) : Only (· = g) W (W.setCell ⟨g, i, none⟩ v) := only_setCells g [v] i W
theorem run_cut {W : World} {A : Option Addr} {n c i : Nat} {o : Oper} {ρ : Operand → Value} {x z : Operand} (hi : i < n) (hc : n ≤ c) (ho : o.op = .slice 37 x none (some z) none := by rfl) (hx : ρ x = .slice A n c := by rfl) (hz : ρ z = .int .i64 (i : Int) := by rfl) : (execOp ρ o).run Try.prog W = .ok (.value (.slice A i c)) W := by
  have h1 : (0 : Int) ≤ (i : Int) := by omega
  have h2 : (i : Int) ≤ c := by omega
  unfold execOp
  simp only [ho, hx, hz]
  go_simp
theorem run_index {W : World} {gc n c i : Nat} {o : Oper} {ρ : Operand → Value} {x z : Operand} (hi : i < n) (ho : o.op = .indexAddr 37 x z := by rfl) (hx : ρ x = .slice (some ⟨gc, 0, none⟩) n c := by rfl) (hz : ρ z = .int .i64 (i : Int) := by rfl) : (execOp ρ o).run Try.prog W = .ok (.value (.pointer (some ⟨gc, i, none⟩))) W := by
  have h1 : (0 : Int) ≤ (i : Int) := by omega
  have h2 : (i : Int) < n := by omega
  unfold execOp
  simp only [ho, hx, hz]
  go_simp
set_option maxRecDepth 100000 in
set_option maxHeartbeats 8000000 in
theorem re_main (w : World) (va : Value) (i : Nat) (y : Int) (q : Value) (m : M) (sv : Nat → Value) (l : List Int) (fm em : Bool) (er10 er12 : Int) (m10 m12 : M) {B : List Int} (hB0 : B ≠ []) (h : MsgRd w va m sv) (hs : Small m) (hl : LightM m) (hq : BRd w q l) (hi : i < B.length) (hlen : B.length + l.length ≤ 9000000000)
    (hE : ∀ (W : World) (s : Nat → Value), MsgRd W (.agg (msgC m.c s)) m s → Calls Try.prog 11 #[.agg (msgC m.c s)] W (IsBE B 0 W))
    (h10 : ∀ (W : World) (v : Value), BRd W v (B.set i (x2 (rd B i) y)) → Calls Try.prog 18 #[v] W (IsD m10 er10 W))
    (h11 : ∀ (W : World) (v : Value), BRd W v (B.take i) → Calls Try.prog 18 #[v] W (IsD zeroM 2 W))
    (h12 : ∀ (W : World) (v : Value), BRd W v (B ++ l) → Calls Try.prog 18 #[v] W (IsD m12 er12 W))
    (hf : (fm = true ∧ y = 0 ∧ er10 = 0) ∨ (fm = false ∧ (y == 0) = false ∧ er10 = 2 ∧ m10 = zeroM)) (he1 : (er12 == 0) = em) (he2 : ((l.length : Int) == 0) = em) :
    Calls Try.prog 5 #[va, .agg #[.int .i64 (i : Int), .int .u8 y, q]] w (IsYes w) := by
  obtain rfl := h.agg
  have HQ := Aside0.mk (fun (W : World) (hB : Below w.heap.size w W) => hq.below hB)
  have HL := Aside0.mk (fun (W : World) (hB : Below w.heap.size w W) => isB_true hl (light_c W _ m sv (h.below hB)))
  have HP := Aside0.mk (fun (W : World) (hB : Below w.heap.size w W) => plainC (h.below hB) hs)
  have HE := Aside0.mk hE
  have H10 := Aside0.mk h10
  have H11 := Aside0.mk h11
  have H12 := Aside0.mk h12
  have HF := Aside0.mk hf
  have HNE := Aside0.mk hB0
  have HLen := Aside0.mk (show ([] : List Int).length + B.length ≤ 140737488351232 ∧ B.length + l.length ≤ 140737488351232 from by simp only [List.length_nil]; omega)
  have HI := Aside0.mk hi
  have hd : decide ((i : Int) < 0) = false := decide_eq_false (by omega)
  have hd2 : decide ((B.length : Int) ≤ (i : Int)) = false := decide_eq_false (by omega)
  have HE1 := Aside0.mk he1
  have HE2 := Aside0.mk he2
  obtain ⟨qA, qc, eq, _, _⟩ := hq
  subst eq
  clear h hl hs hE h10 h11 h12 hf hB0 hlen he1 he2
  go_enter Try.func5, Try.ntmps5
  go_upto_region 9 with (first | ((with_reducible refine gate_dst (N := 2) rfl ?_); refine box_row rfl 32 (.tmp 0) rfl (msgC m.c sv) rfl ?_; intro g1 w1 hg hbox hb; have HX1 := Aside0.mk hbox; have HB1 := Aside0.mk hb; clear hg hbox hb) | ((with_reducible refine gate_dst (N := 3) rfl ?_); refine box_row rfl 51 (.tmp 1) rfl #[.int .i64 (i : Int), .int .u8 y, .slice qA l.length qc] rfl ?_; intro g3 w2 hg hbox hb; have HX12 := Aside0.mk ((hb.block g1 (blk_lt HX1.out)).trans HX1.out); have HT2 := Aside0.mk hbox; have HB2 := Aside0.mk (HB1.out.trans (hb.mono HB1.out.size)); clear hg hbox hb) | (go_at_call 8; (with_reducible refine (awakeC _).mono ?_); rintro e w3 ⟨rfl, hB⟩; have HB3 := Aside0.mk (HB2.out.trans (hB.mono HB2.out.size)); have HX13 := Aside0.mk ((hB.block g1 (blk_lt HX12.out)).trans HX12.out); have HT3 := Aside0.mk ((hB.block g3 (blk_lt HT2.out)).trans HT2.out); clear hB) | ((with_reducible refine gate_dst (N := 16) rfl ?_); refine load_row rfl 32 (.tmp 2) rfl g1 rfl (msgC m.c sv) 32 HX13.out _ Try.underlying32 rfl info_rmsg ?_) | (go_at_call 9; (with_reducible refine (HL.out _ HB3.out).mono ?_); rintro e w4 ⟨rfl, hB⟩; have HB4 := Aside0.mk (HB3.out.trans (hB.mono HB3.out.size)); have HX14 := Aside0.mk ((hB.block g1 (blk_lt HX13.out)).trans HX13.out); have HT4 := Aside0.mk ((hB.block g3 (blk_lt HT3.out)).trans HT3.out); clear hB) | ((with_reducible refine gate_dst (N := 20) rfl ?_); refine load_row rfl 32 (.tmp 2) rfl g1 rfl (msgC m.c sv) 32 HX14.out _ Try.underlying32 rfl info_rmsg ?_) | (go_at_call 10; (with_reducible refine (HP.out _ HB4.out).mono ?_); rintro e w5 ⟨hB, s5, rfl, hM, _⟩; have HE5 := Aside0.mk (HE.out _ _ hM); have HB5 := Aside0.mk (HB4.out.trans (hB.mono HB4.out.size)); have HT5 := Aside0.mk ((hB.block g3 (blk_lt HT4.out)).trans HT4.out); clear hB hM) | (go_at_call 11; (with_reducible refine HE5.out.mono ?_); rintro e w6 ⟨hB, vv, rfl, hv⟩; have HB6 := Aside0.mk (HB5.out.trans (hB.mono HB5.out.size)); have HT6 := Aside0.mk ((hB.block g3 (blk_lt HT5.out)).trans HT5.out); obtain ⟨A6, c6, e6, _, hc6⟩ := id hv; have HVV := Aside0.mk (show BRd w6 vv B from hv); have HC6 := Aside0.mk hc6; subst e6; have c0 : w6.cell? ⟨g3, 0, none⟩ = some (.int .i64 (i : Int)) := blk_cell HT6.out 0; have HV6 := Aside0.mk (HVV.out.below (below_alloc (Below.refl _ _) (.cells #[] 5 (0, 0)))); have HO6 := Aside0.mk (OwnB.lit w6); have HB60 := Aside0.mk (below_alloc (Below.refl w6.heap.size w6) (.cells #[] 5 (0, 0))); clear hB hv hc6 HE5) | ((with_reducible refine gate_dst (N := 41) rfl ?_); refine append_bytes (w0 := w6) w6.heap.size rfl (.tmp 39) (.tmp 40) rfl _ _ [] B rfl rfl HO6.out HV6.out HB60.out HB60.out.size (Nat.le_trans HLen.out.1 (by decide)) ?_; intro v7 w7 hO hB; have HO7 := Aside0.mk (show OwnB w7 w6.heap.size v7 B from hO); have HB67 := Aside0.mk hB; obtain ⟨gc, cc, cur, e7, k1, k2, k3, k4, k5, k6⟩ := HO7.out.some HNE.out; have K7 := Aside0.mk (And.intro k1 (And.intro k2 (And.intro k3 (And.intro k4 (And.intro k5 k6))))); subst e7; have HT7 := Aside0.mk ((hB.block g3 (blk_lt HT6.out)).trans HT6.out); clear hO hB k1 k2 k3 k4 k5 k6 c0) | fail)
  have FT : ∀ W, Below w6.heap.size w6 W → W.heap[g3]? = some (.cells #[.int .i64 (i : Int), .int .u8 y, .slice qA l.length qc] 51 (0, 0)) := fun W hB => (hB.block g3 (blk_lt HT6.out)).trans HT6.out
  refine wp_region_held_drew (S := fun W => Below w6.heap.size w6 W) (by kernel_rfl) (HB67.out.drew) (fun hHeld => ?_)
  refine wpAnyH_take (i := 0) (oi := { dst := some 42, op := Go.Op.move (Go.Operand.tmp 7), type := 37, pos := "law.go:94", after := #[], guard := none }) (v := .slice (some ⟨gc, 0, none⟩) B.length cc) rfl (by kernel_rfl) (by kernel_rfl) (by kernel_rfl) (fun _ _ _ h => h) (Or.inl ⟨by rfl, ?_⟩) (by assumption) ?_
  · (intro W hSW; go_simp; (try with_reducible rfl))
  try simp only [Act.put, List.setIfInBounds_toArray, List.set_cons_zero, List.set_cons_succ]
  refine wpAnyH_take (i := 1) (oi := { dst := some 43, op := Go.Op.fieldAddr 51 (Go.Operand.tmp 3) 0, type := 0, pos := "law.go:94", after := #[], guard := none }) (v := .pointer (some ⟨g3, 0, none⟩)) rfl (by kernel_rfl) (by kernel_rfl) (by kernel_rfl) (fun _ _ _ h => h) (Or.inl ⟨by rfl, ?_⟩) (by assumption) ?_
  · (intro W hSW; go_simp; (try with_reducible rfl))
  try simp only [Act.put, List.setIfInBounds_toArray, List.set_cons_zero, List.set_cons_succ]
  refine wpAnyH_take (i := 2) (oi := { dst := some 44, op := Go.Op.load 3 (Go.Operand.tmp 43), type := 3, pos := "law.go:94", after := #[{ on := 1, ground := Go.Ground.data }], guard := none }) (v := .int .i64 (i : Int)) rfl (by kernel_rfl) (by kernel_rfl) (by kernel_rfl) (fun _ _ _ h => h) (Or.inl ⟨by rfl, ?_⟩) (by assumption) ?_
  · (intro W hSW; have hc := blk_cell (FT W hSW) 0; have hc1 := blk_cell (FT W hSW) 1; go_simp; (try with_reducible rfl))
  try simp only [Act.put, List.setIfInBounds_toArray, List.set_cons_zero, List.set_cons_succ]
  refine wpAnyH_take (i := 3) (oi := { dst := some 45, op := Go.Op.indexAddr 37 (Go.Operand.tmp 42) (Go.Operand.tmp 44), type := 0, pos := "law.go:94", after := #[{ on := 0, ground := Go.Ground.data }, { on := 2, ground := Go.Ground.data }], guard := none }) (v := .pointer (some ⟨gc, i, none⟩)) rfl (by kernel_rfl) (by kernel_rfl) (by kernel_rfl) (fun _ _ _ h => h) (Or.inl ⟨by rfl, ?_⟩) (by assumption) ?_
  · (intro W hSW; exact run_index HI.out)
  try simp only [Act.put, List.setIfInBounds_toArray, List.set_cons_zero, List.set_cons_succ]
  refine wpAnyH_take (i := 5) (oi := { dst := some 47, op := Go.Op.fieldAddr 51 (Go.Operand.tmp 3) 1, type := 0, pos := "law.go:94", after := #[], guard := none }) (v := .pointer (some ⟨g3, 1, none⟩)) rfl (by kernel_rfl) (by kernel_rfl) (by kernel_rfl) (fun _ _ _ h => h) (Or.inl ⟨by rfl, ?_⟩) (by assumption) ?_
  · (intro W hSW; go_simp; (try with_reducible rfl))
  try simp only [Act.put, List.setIfInBounds_toArray, List.set_cons_zero, List.set_cons_succ]
  refine wpAnyH_take (i := 6) (oi := { dst := some 48, op := Go.Op.load 5 (Go.Operand.tmp 47), type := 5, pos := "law.go:94", after := #[{ on := 5, ground := Go.Ground.data }], guard := none }) (v := .int .u8 y) rfl (by kernel_rfl) (by kernel_rfl) (by kernel_rfl) (fun _ _ _ h => h) (Or.inl ⟨by rfl, ?_⟩) (by assumption) ?_
  · (intro W hSW; have hc := blk_cell (FT W hSW) 0; have hc1 := blk_cell (FT W hSW) 1; go_simp; (try with_reducible rfl))
  try simp only [Act.put, List.setIfInBounds_toArray, List.set_cons_zero, List.set_cons_succ]
  refine wpAnyH_ready (rs := [4]) (by kernel_rfl) (by simp) ?_
  refine AllReadyH.cons (o := { dst := some 46, op := Go.Op.load 5 (Go.Operand.tmp 45), type := 5, pos := "law.go:94", after := #[{ on := 3, ground := Go.Ground.data }], guard := none }) rfl (fun K' hK => ?_) (fun j hj => nomatch hj)
  rw [if_pos (by rfl)]
  refine wp_val (v := .int .u8 (rd B i)) (w' := w7.drew) ?_ (hK _ _ hHeld (fun _ => ?_))
  · have hc : w7.drew.cell? ⟨gc, i, none⟩ = some (.int .u8 (rd B i)) := own_cell K7.out.2.1 K7.out.2.2.1 HI.out
    go_simp
    (try with_reducible rfl)
  try simp only [Act.put, List.setIfInBounds_toArray, List.set_cons_zero, List.set_cons_succ]
  refine wpAnyH_take (i := 7) (oi := { dst := some 49, op := Go.Op.binOp Go.BinOp.xor 5 (Go.Operand.tmp 46) (Go.Operand.tmp 48) 5, type := 5, pos := "law.go:94", after := #[{ on := 4, ground := Go.Ground.data }, { on := 6, ground := Go.Ground.data }], guard := none }) (v := .int .u8 (x2 (rd B i) y)) rfl (by kernel_rfl) (by kernel_rfl) (by kernel_rfl) (fun _ _ _ h => h) (Or.inl ⟨by rfl, ?_⟩) (by assumption) ?_
  · (intro W hSW; unfold x2; go_simp; (try with_reducible rfl))
  try simp only [Act.put, List.setIfInBounds_toArray, List.set_cons_zero, List.set_cons_succ]
  refine wpAnyH_take (i := 8) (oi := { dst := some 50, op := Go.Op.indexAddr 37 (Go.Operand.tmp 42) (Go.Operand.tmp 44), type := 0, pos := "law.go:94", after := #[{ on := 0, ground := Go.Ground.data }, { on := 2, ground := Go.Ground.data }, { on := 0, ground := Go.Ground.phase }, { on := 1, ground := Go.Ground.phase }, { on := 2, ground := Go.Ground.phase }, { on := 3, ground := Go.Ground.phase }, { on := 4, ground := Go.Ground.phase }, { on := 5, ground := Go.Ground.phase }, { on := 6, ground := Go.Ground.phase }, { on := 7, ground := Go.Ground.phase }], guard := none }) (v := .pointer (some ⟨gc, i, none⟩)) rfl (by kernel_rfl) (by kernel_rfl) (by kernel_rfl) (fun _ _ _ h => h) (Or.inl ⟨by rfl, ?_⟩) (by assumption) ?_
  · (intro W hSW; exact run_index HI.out)
  try simp only [Act.put, List.setIfInBounds_toArray, List.set_cons_zero, List.set_cons_succ]
  refine wpAnyH_ready (rs := [9]) (by kernel_rfl) (by simp) ?_
  refine AllReadyH.cons (o := { dst := none, op := Go.Op.store 5 (Go.Operand.tmp 50) (Go.Operand.tmp 49), type := 0, pos := "law.go:94", after := #[{ on := 8, ground := Go.Ground.data }, { on := 7, ground := Go.Ground.data }, { on := 0, ground := Go.Ground.phase }, { on := 1, ground := Go.Ground.phase }, { on := 2, ground := Go.Ground.phase }, { on := 3, ground := Go.Ground.phase }, { on := 4, ground := Go.Ground.phase }, { on := 5, ground := Go.Ground.phase }, { on := 6, ground := Go.Ground.phase }, { on := 7, ground := Go.Ground.phase }], guard := none }) rfl (fun K' hK => ?_) (fun j hj => nomatch hj)
  rw [if_pos (by rfl)]
  have HO8 := Aside0.mk (own_set (W := w7.drew) (v := .slice (some ⟨gc, 0, none⟩) B.length cc) rfl K7.out.1 K7.out.2.1 K7.out.2.2.1 K7.out.2.2.2.1 K7.out.2.2.2.2.1 K7.out.2.2.2.2.2 HI.out (x2 (rd B i) y)).rd
  have HB8 := Aside0.mk (show Below w6.heap.size w6 (w7.drew.setCell ⟨gc, i, none⟩ (.int .u8 (x2 (rd B i) y))) from below_only hHeld (only_setCell _ _ _ _) hHeld.size (fun k hk => by have hk' : k = gc := hk; have := K7.out.1; omega))
  refine wp_store1 (g := gc) (i := i) (c := .int .u8 (rd B i)) (.tmp 50) (.tmp 49) rfl rfl rfl (own_cell (W := w7.drew) K7.out.2.1 K7.out.2.2.1 HI.out) (blk_frozen (w := w7.drew) K7.out.2.1 i) (hK _ _ HB8.out (fun _ => ?_))
  refine wpAnyH_done (by kernel_rfl) ?_ _
  generalize w7.drew.setCell ⟨gc, i, none⟩ (.int .u8 (x2 (rd B i) y)) = w8 at *
  clear HT7 HB67 K7 HO7 hHeld HB60 HO6 HV6 HX1 HX12 HX13 HX14 HT2 HT3 HT4 HT5 HB1 HB2 HB3 HB4 HB5
  go_upto_region 12 with (first | (go_at_call 18; (with_reducible refine (H11.out _ _ HT11.out).mono ?_); rintro e w12 ⟨hB, s11, rfl, hM⟩; have HB12 := Aside0.mk (HB11.out.trans (hB.mono HB11.out.size)); have HX12b := Aside0.mk ((hB.block g8 (blk_lt HX11.out)).trans HX11.out); have HM11 := Aside0.mk hM; clear hB hM) | (go_at_call 18; (with_reducible refine (H10.out _ _ HO8.out).mono ?_); rintro e w9 ⟨hB, s10, rfl, hM⟩; have HB9 := Aside0.mk (HB8.out.trans (hB.mono HB8.out.size)); have HM10 := Aside0.mk hM; clear hB hM) | ((with_reducible refine gate_dst (N := 8) rfl ?_); refine alloc_row rfl 35 rfl _ (zero_msg _) ?_; intro g8 w10 hg hbox hb; have HX10 := Aside0.mk hbox; have HB10 := Aside0.mk (HB9.out.trans (hb.mono HB9.out.size)); have HG8 := Aside0.mk (show w6.heap.size ≤ g8 from by rw [hg]; exact HB9.out.size); clear hg hbox hb) | ((with_reducible refine gate_store (t := 35) (p := 8) rfl ?_); refine store_row rfl 35 (.tmp 8) (.tmp 54) rfl g8 rfl (msgC m10.c s10) _ rfl 35 HX10.out rfl info_msg HM10.out.one ?_; intro w11 hX hO; have HX11 := Aside0.mk hX; have HB11 := Aside0.mk (below_only HB10.out hO HB10.out.size (fun k hk => by have := HG8.out; have hk' : k = g8 := hk; omega)); have c0 : w11.cell? ⟨g3, 0, none⟩ = some (.int .i64 (i : Int)) := blk_cell (FT _ HB11.out) 0; have HT11 := Aside0.mk ((HVV.out.below HB11.out).take (i := i) (c' := c6) (Nat.le_of_lt HI.out) (by have := HI.out; have := HC6.out; omega)); clear hX hO) | ((with_reducible refine gate_dst (N := 60) rfl ?_); refine Kd.event_run rfl (v := .slice A6 i c6) (run_cut HI.out HC6.out) ?_) | ((with_reducible refine gate_dst (N := 10) rfl ?_); refine alloc_row rfl 35 rfl _ (zero_msg _) ?_; intro g10 w13 hg hbox hb; have HX13 := Aside0.mk hbox; have HB13 := Aside0.mk (HB12.out.trans (hb.mono HB12.out.size)); have HG10 := Aside0.mk (show w6.heap.size ≤ g10 ∧ g8 ≠ g10 from ⟨by rw [hg]; exact HB12.out.size, by have := blk_lt HX12b.out; omega⟩); have HX13b := Aside0.mk ((hb.block g8 (blk_lt HX12b.out)).trans HX12b.out); clear hg hbox hb) | ((with_reducible refine gate_store (t := 35) (p := 10) rfl ?_); refine store_row rfl 35 (.tmp 10) (.tmp 62) rfl g10 rfl (msgC zeroM.c s11) _ rfl 35 HX13.out rfl info_msg HM11.out.one ?_; intro w14 hX hO; have HB14 := Aside0.mk (below_only HB13.out hO HB13.out.size (fun k hk => by have := HG10.out.1; have hk' : k = g10 := hk; omega)); have HX14 := Aside0.mk (hO.blk HX13b.out HG10.out.2); clear hX hO) | fail)
  have HBW := Aside0.mk (HB6.out.trans (HB14.out.mono HB6.out.size))
  have FT2 : ∀ W, Below w14.heap.size w14 W → W.heap[g3]? = some (.cells #[.int .i64 (i : Int), .int .u8 y, .slice qA l.length qc] 51 (0, 0)) := fun W hB => FT W (HB14.out.trans (hB.mono HB14.out.size))
  refine wp_region_held_drew (S := fun W => Below w14.heap.size w14 W) (by kernel_rfl) ((Below.refl _ _).drew) (fun hHeld => ?_)
  refine wpAnyH_take (i := 1) (oi := { dst := some 66, op := Go.Op.move (Go.Operand.tmp 5), type := 37, pos := "law.go:97", after := #[], guard := none }) (v := .slice A6 B.length c6) rfl (by kernel_rfl) (by kernel_rfl) (by kernel_rfl) (fun _ _ _ h => h) (Or.inl ⟨by rfl, ?_⟩) (by assumption) ?_
  · (intro W hSW; go_simp; (try with_reducible rfl))
  try simp only [Act.put, List.setIfInBounds_toArray, List.set_cons_zero, List.set_cons_succ]
  refine wpAnyH_take (i := 3) (oi := { dst := some 68, op := Go.Op.fieldAddr 51 (Go.Operand.tmp 3) 2, type := 0, pos := "law.go:97", after := #[], guard := none }) (v := .pointer (some ⟨g3, 2, none⟩)) rfl (by kernel_rfl) (by kernel_rfl) (by kernel_rfl) (fun _ _ _ h => h) (Or.inl ⟨by rfl, ?_⟩) (by assumption) ?_
  · (intro W hSW; go_simp; (try with_reducible rfl))
  try simp only [Act.put, List.setIfInBounds_toArray, List.set_cons_zero, List.set_cons_succ]
  refine wpAnyH_take (i := 4) (oi := { dst := some 69, op := Go.Op.load 37 (Go.Operand.tmp 68), type := 37, pos := "law.go:97", after := #[{ on := 3, ground := Go.Ground.data }], guard := none }) (v := .slice qA l.length qc) rfl (by kernel_rfl) (by kernel_rfl) (by kernel_rfl) (fun _ _ _ h => h) (Or.inl ⟨by rfl, ?_⟩) (by assumption) ?_
  · (intro W hSW; have hc := blk_cell (FT2 W hSW) 2; go_simp; (try with_reducible rfl))
  try simp only [Act.put, List.setIfInBounds_toArray, List.set_cons_zero, List.set_cons_succ]
  refine wpAnyH_ready (rs := [0, 10]) (by kernel_rfl) (by simp) ?_
  refine AllReadyH.cons (o := { dst := some 65, op := Go.Op.buildSlice 37 0 #[], type := 37, pos := "law.go:97", after := #[], guard := none }) rfl (fun K' hK => ?_) (AllReadyH.cons (o := { dst := some 12, op := Go.Op.alloc 35, type := 0, pos := "law.go:97", after := #[], guard := none }) rfl (fun K' hK => ?_) (fun j hj => nomatch hj))
  · rw [if_pos (by rfl)]
    refine wp_val (v := .slice (some ⟨(w14.drew).heap.size, 0, none⟩) 0 0) (w' := (w14.drew).alloc (.cells #[] 5 (0, 0))) (by go_simp) (hK _ _ (below_alloc hHeld _) (fun hS => ?_))
    have hAl := below_alloc (Below.refl (w14.drew).heap.size (w14.drew)) (.cells #[] 5 (0, 0))
    have hO := (OwnB.lit (w14.drew)).low hHeld.size
    have hB1 := hS
    try simp only [Act.put, List.setIfInBounds_toArray, List.set_cons_zero, List.set_cons_succ]
    clear hS hAl
    generalize (w14.drew).alloc (.cells #[] 5 (0, 0)) = z0 at *
    generalize (w14.drew).heap.size = lit at *
    refine wpAnyH_ready (rs := [2, 10]) (by kernel_rfl) (by simp) ?_
    refine AllReadyH.cons (o := { dst := some 67, op := Go.Op.call { callee := Go.Callee.builtin Go.Builtin.append, args := #[Go.Operand.tmp 65, Go.Operand.tmp 66], argTypes := #[37, 37] }, type := 37, pos := "law.go:97", after := #[{ on := 0, ground := Go.Ground.data }, { on := 1, ground := Go.Ground.data }], guard := none }) rfl (fun K' hK => ?_) (AllReadyH.cons (o := { dst := some 12, op := Go.Op.alloc 35, type := 0, pos := "law.go:97", after := #[], guard := none }) rfl (fun K' hK => ?_) (fun j hj => nomatch hj))
    · rw [if_pos (by rfl)]
      refine wp_append_bytes (ops := #[]) (w0 := w14) w14.heap.size rfl (.tmp 65) (.tmp 66) rfl _ _ [] B rfl rfl hO (HVV.out.below (HB14.out.trans (hB1.mono HB14.out.size))) hB1 hB1.size (Nat.le_trans HLen.out.1 (by decide)) (fun v1 z1 hO' hB2 hP => ?_)
      refine hK _ _ hB2 (fun _ => ?_)
      try simp only [Act.put, List.setIfInBounds_toArray, List.set_cons_zero, List.set_cons_succ]
      clear hO hP
      have hO := hO'
      clear hO'
      refine wpAnyH_ready (rs := [5, 10]) (by kernel_rfl) (by simp) ?_
      refine AllReadyH.cons (o := { dst := some 70, op := Go.Op.call { callee := Go.Callee.builtin Go.Builtin.append, args := #[Go.Operand.tmp 67, Go.Operand.tmp 69], argTypes := #[37, 37] }, type := 37, pos := "law.go:97", after := #[{ on := 2, ground := Go.Ground.data }, { on := 4, ground := Go.Ground.data }, { on := 2, ground := Go.Ground.chain }], guard := none }) rfl (fun K' hK => ?_) (AllReadyH.cons (o := { dst := some 12, op := Go.Op.alloc 35, type := 0, pos := "law.go:97", after := #[], guard := none }) rfl (fun K' hK => ?_) (fun j hj => nomatch hj))
      · rw [if_pos (by rfl)]
        refine wp_append_bytes (ops := #[]) (w0 := w14) w14.heap.size rfl (.tmp 67) (.tmp 69) rfl _ _ ([] ++ B) l rfl rfl hO (HQ.out _ (HBW.out.trans (hB2.mono HBW.out.size))) hB2 hB2.size (Nat.le_trans HLen.out.2 (by decide)) (fun v2 z2 hO' hB3 hP => ?_)
        refine hK _ _ hB3 (fun _ => ?_)
        try simp only [Act.put, List.setIfInBounds_toArray, List.set_cons_zero, List.set_cons_succ]
        clear hO hP
        have hO := hO'
        clear hO'
        refine wpAnyH_ready (rs := [6, 10]) (by kernel_rfl) (by simp) ?_
        refine AllReadyH.cons (o := { dst := some 71, op := Go.Op.call { callee := Go.Callee.value (Go.Operand.func 18), args := #[Go.Operand.tmp 70], argTypes := #[37] }, type := 47, pos := "law.go:97", after := #[{ on := 5, ground := Go.Ground.data }, { on := 5, ground := Go.Ground.chain }], guard := none }) rfl (fun K' hK => ?_) (AllReadyH.cons (o := { dst := some 12, op := Go.Op.alloc 35, type := 0, pos := "law.go:97", after := #[], guard := none }) rfl (fun K' hK => ?_) (fun j hj => nomatch hj))
        · rw [if_pos (by rfl)]
          refine wp_calls Try.func18 (by kernel_rfl) (by kernel_rfl) #[v2] rfl (by simp only [List.map_toArray, List.map_cons, List.map_nil]; rfl) ((H12.out _ _ hO.rd).mono ?_)
          rintro e z3 ⟨hBd, s12, rfl, hM12⟩
          refine ⟨_, rfl, hK _ _ (hB3.trans (hBd.mono hB3.size)) (fun hS => ?_)⟩
          have hB4 := hS
          clear hS hBd hO
          try simp only [Act.put, List.setIfInBounds_toArray, List.set_cons_zero, List.set_cons_succ]
          refine wpAnyH_take (i := 7) (oi := { dst := some 64, op := Go.Op.move (Go.Operand.tmp 71), type := 47, pos := "law.go:97", after := #[{ on := 6, ground := Go.Ground.data }], guard := none }) (v := .tuple #[.agg (msgC m12.c s12), .int .i64 er12]) rfl (by kernel_rfl) (by kernel_rfl) (by kernel_rfl) (fun _ _ _ h => h) (Or.inl ⟨by rfl, ?_⟩) (by assumption) ?_
          · (intro W hSW; go_simp; (try with_reducible rfl))
          try simp only [Act.put, List.setIfInBounds_toArray, List.set_cons_zero, List.set_cons_succ]
          refine wpAnyH_take (i := 8) (oi := { dst := some 72, op := Go.Op.extract (Go.Operand.tmp 64) 0, type := 35, pos := "law.go:97", after := #[{ on := 7, ground := Go.Ground.data }], guard := none }) (v := .agg (msgC m12.c s12)) rfl (by kernel_rfl) (by kernel_rfl) (by kernel_rfl) (fun _ _ _ h => h) (Or.inl ⟨by rfl, ?_⟩) (by assumption) ?_
          · (intro W hSW; go_simp; (try with_reducible rfl))
          try simp only [Act.put, List.setIfInBounds_toArray, List.set_cons_zero, List.set_cons_succ]
          refine wpAnyH_take (i := 9) (oi := { dst := some 73, op := Go.Op.extract (Go.Operand.tmp 64) 1, type := 28, pos := "law.go:97", after := #[{ on := 7, ground := Go.Ground.data }, { on := 11, ground := Go.Ground.gcOnly Go.Departure.lateStores }], guard := none }) (v := .int .i64 er12) rfl (by kernel_rfl) (by kernel_rfl) (by kernel_rfl) (fun _ _ _ h => h) (Or.inl ⟨by rfl, ?_⟩) (by assumption) ?_
          · (intro W hSW; go_simp; (try with_reducible rfl))
          try simp only [Act.put, List.setIfInBounds_toArray, List.set_cons_zero, List.set_cons_succ]
          refine wpAnyH_ready (rs := [10]) (by kernel_rfl) (by simp) ?_
          refine AllReadyH.cons (o := { dst := some 12, op := Go.Op.alloc 35, type := 0, pos := "law.go:97", after := #[], guard := none }) rfl (fun K' hK => ?_) (fun j hj => nomatch hj)
          rw [if_pos (by rfl)]
          refine wp_val (v := .pointer (some ⟨(z3).heap.size, 0, none⟩)) (w' := (z3).alloc (.cells (msgC zeroC nils) 35 (0, 0))) (by unfold execOp; simp only [Instr.alloc, Sem.run_bind, zero_msg, Result.andThen_ok]; rfl) (hK _ _ (below_alloc hB4 _) (fun hS => ?_))
          have hAl := below_alloc (Below.refl (z3).heap.size (z3)) (.cells (msgC zeroC nils) 35 (0, 0))
          have hZ := blk_new (z3) (.cells (msgC zeroC nils) 35 (0, 0))
          have hG := hB4.size
          have hB := hS
          try simp only [Act.put, List.setIfInBounds_toArray, List.set_cons_zero, List.set_cons_succ]
          clear hS hAl
          generalize (z3).alloc (.cells (msgC zeroC nils) 35 (0, 0)) = z4 at *
          generalize (z3).heap.size = g12 at *
          refine wpAnyH_ready (rs := [11]) (by kernel_rfl) (by simp) ?_
          refine AllReadyH.cons (o := { dst := none, op := Go.Op.store 35 (Go.Operand.tmp 12) (Go.Operand.tmp 72), type := 0, pos := "law.go:97", after := #[{ on := 10, ground := Go.Ground.data }, { on := 8, ground := Go.Ground.data }, { on := 6, ground := Go.Ground.chain }, { on := 0, ground := Go.Ground.phase }, { on := 1, ground := Go.Ground.phase }, { on := 2, ground := Go.Ground.phase }, { on := 3, ground := Go.Ground.phase }, { on := 4, ground := Go.Ground.phase }, { on := 5, ground := Go.Ground.phase }, { on := 6, ground := Go.Ground.phase }, { on := 7, ground := Go.Ground.phase }, { on := 8, ground := Go.Ground.phase }, { on := 9, ground := Go.Ground.textOnly Go.Departure.lateStores }, { on := 10, ground := Go.Ground.phase }], guard := none }) rfl (fun K' hK => ?_) (fun j hj => nomatch hj)
          rw [if_pos (by rfl)]
          refine wp_store_row 35 (.tmp 12) (.tmp 72) rfl g12 rfl (msgC m12.c s12) _ rfl 35 hZ rfl info_msg hM12.one (fun wz kz Oz => ?_)
          have hBz := below_only hB Oz hB.size (fun k hk => by have hk' : k = g12 := hk; omega)
          refine hK _ _ hBz (fun hSz => ?_)
          try simp only [Act.put, List.setIfInBounds_toArray, List.set_cons_zero, List.set_cons_succ]
          refine wpAnyH_take (i := 12) (oi := { dst := some 13, op := Go.Op.assign (Go.Operand.tmp 73), type := 28, pos := "law.go:97", after := #[{ on := 9, ground := Go.Ground.data }, { on := 11, ground := Go.Ground.chain }, { on := 0, ground := Go.Ground.phase }, { on := 1, ground := Go.Ground.phase }, { on := 2, ground := Go.Ground.phase }, { on := 3, ground := Go.Ground.phase }, { on := 4, ground := Go.Ground.phase }, { on := 5, ground := Go.Ground.phase }, { on := 6, ground := Go.Ground.phase }, { on := 7, ground := Go.Ground.phase }, { on := 8, ground := Go.Ground.phase }, { on := 9, ground := Go.Ground.phase }, { on := 10, ground := Go.Ground.phase }, { on := 11, ground := Go.Ground.phase }], guard := none }) (v := .int .i64 er12) rfl (by kernel_rfl) (by kernel_rfl) (by kernel_rfl) (fun _ _ _ h => h) (Or.inl ⟨by rfl, ?_⟩) (by assumption) ?_
          · (intro W hSW; go_simp; (try with_reducible rfl))
          try simp only [Act.put, List.setIfInBounds_toArray, List.set_cons_zero, List.set_cons_succ]
          refine wpAnyH_done (by kernel_rfl) ?_ _
          have X8 := Aside0.mk ((hBz.block g8 (blk_lt HX14.out)).trans HX14.out)
          have X3 := Aside0.mk (FT2 wz hBz)
          have c1 : wz.cell? ⟨g3, 1, none⟩ = some (.int .u8 y) := blk_cell X3.out 1
          have c2 : wz.cell? ⟨g3, 2, none⟩ = some (.slice qA l.length qc) := blk_cell X3.out 2
          have hq1 := HE1.out
          have hq2 := HE2.out
          have HBz := Aside0.mk (HBW.out.trans (hBz.mono HBW.out.size))
          have HM := Aside0.mk HM10.out
          clear hBz hZ hG kz Oz hK hM12 hB4
          rcases HF.out with ⟨rfl, hy, rfl⟩ | ⟨rfl, hy, rfl, rfl⟩
          · subst hy
            go_wp2
            go_ret
            exact ⟨rfl, HBz.out⟩
          · have HS := Aside0.mk (same_zero (zero_any (W' := wz) HM.out))
            go_wp2_with (first | ((with_reducible refine gate_dst (N := 84) rfl ?_); refine gate_guard rfl ?_; refine load_row rfl 35 (.tmp 8) rfl g8 rfl (msgC zeroM.c s10) 35 X8.out _ Try.underlying35 rfl info_msg ?_) | (go_at_call 17; (with_reducible refine HS.out.mono ?_); rintro e wy ⟨rfl, hB⟩; have HBy := Aside0.mk (HBz.out.trans (hB.mono HBz.out.size)); have c3 : wy.cell? ⟨g3, 2, none⟩ = some (.slice qA l.length qc) := blk_cell (blk_keep hB (blk_lt X3.out) X3.out) 2; clear hB HS c1 c2) | fail)
            go_ret
            exact ⟨rfl, HBy.out⟩
        · rw [if_pos (by rfl)]
          refine wp_val (v := .pointer (some ⟨(z2).heap.size, 0, none⟩)) (w' := (z2).alloc (.cells (msgC zeroC nils) 35 (0, 0))) (by unfold execOp; simp only [Instr.alloc, Sem.run_bind, zero_msg, Result.andThen_ok]; rfl) (hK _ _ (below_alloc hB3 _) (fun hS => ?_))
          have hAl := below_alloc (Below.refl (z2).heap.size (z2)) (.cells (msgC zeroC nils) 35 (0, 0))
          have hZ := blk_new (z2) (.cells (msgC zeroC nils) 35 (0, 0))
          have hG := hB3.size
          have hB := hS
          have hN := hO.ne_new
          replace hO := hO.below hAl
          try simp only [Act.put, List.setIfInBounds_toArray, List.set_cons_zero, List.set_cons_succ]
          clear hS hAl
          generalize (z2).alloc (.cells (msgC zeroC nils) 35 (0, 0)) = z3 at *
          generalize (z2).heap.size = g12 at *
          refine wpAnyH_ready (rs := [6]) (by kernel_rfl) (by simp) ?_
          refine AllReadyH.cons (o := { dst := some 71, op := Go.Op.call { callee := Go.Callee.value (Go.Operand.func 18), args := #[Go.Operand.tmp 70], argTypes := #[37] }, type := 47, pos := "law.go:97", after := #[{ on := 5, ground := Go.Ground.data }, { on := 5, ground := Go.Ground.chain }], guard := none }) rfl (fun K' hK => ?_) (fun j hj => nomatch hj)
          rw [if_pos (by rfl)]
          refine wp_calls Try.func18 (by kernel_rfl) (by kernel_rfl) #[v2] rfl (by simp only [List.map_toArray, List.map_cons, List.map_nil]; rfl) ((H12.out _ _ hO.rd).mono ?_)
          rintro e z4 ⟨hBd, s12, rfl, hM12⟩
          refine ⟨_, rfl, hK _ _ (hB.trans (hBd.mono hB.size)) (fun hS => ?_)⟩
          have hB4 := hS
          replace hZ := blk_keep hBd (blk_lt hZ) hZ
          clear hS hBd hO
          try simp only [Act.put, List.setIfInBounds_toArray, List.set_cons_zero, List.set_cons_succ]
          refine wpAnyH_take (i := 7) (oi := { dst := some 64, op := Go.Op.move (Go.Operand.tmp 71), type := 47, pos := "law.go:97", after := #[{ on := 6, ground := Go.Ground.data }], guard := none }) (v := .tuple #[.agg (msgC m12.c s12), .int .i64 er12]) rfl (by kernel_rfl) (by kernel_rfl) (by kernel_rfl) (fun _ _ _ h => h) (Or.inl ⟨by rfl, ?_⟩) (by assumption) ?_
          · (intro W hSW; go_simp; (try with_reducible rfl))
          try simp only [Act.put, List.setIfInBounds_toArray, List.set_cons_zero, List.set_cons_succ]
          refine wpAnyH_take (i := 8) (oi := { dst := some 72, op := Go.Op.extract (Go.Operand.tmp 64) 0, type := 35, pos := "law.go:97", after := #[{ on := 7, ground := Go.Ground.data }], guard := none }) (v := .agg (msgC m12.c s12)) rfl (by kernel_rfl) (by kernel_rfl) (by kernel_rfl) (fun _ _ _ h => h) (Or.inl ⟨by rfl, ?_⟩) (by assumption) ?_
          · (intro W hSW; go_simp; (try with_reducible rfl))
          try simp only [Act.put, List.setIfInBounds_toArray, List.set_cons_zero, List.set_cons_succ]
          refine wpAnyH_take (i := 9) (oi := { dst := some 73, op := Go.Op.extract (Go.Operand.tmp 64) 1, type := 28, pos := "law.go:97", after := #[{ on := 7, ground := Go.Ground.data }, { on := 11, ground := Go.Ground.gcOnly Go.Departure.lateStores }], guard := none }) (v := .int .i64 er12) rfl (by kernel_rfl) (by kernel_rfl) (by kernel_rfl) (fun _ _ _ h => h) (Or.inl ⟨by rfl, ?_⟩) (by assumption) ?_
          · (intro W hSW; go_simp; (try with_reducible rfl))
          try simp only [Act.put, List.setIfInBounds_toArray, List.set_cons_zero, List.set_cons_succ]
          refine wpAnyH_ready (rs := [11]) (by kernel_rfl) (by simp) ?_
          refine AllReadyH.cons (o := { dst := none, op := Go.Op.store 35 (Go.Operand.tmp 12) (Go.Operand.tmp 72), type := 0, pos := "law.go:97", after := #[{ on := 10, ground := Go.Ground.data }, { on := 8, ground := Go.Ground.data }, { on := 6, ground := Go.Ground.chain }, { on := 0, ground := Go.Ground.phase }, { on := 1, ground := Go.Ground.phase }, { on := 2, ground := Go.Ground.phase }, { on := 3, ground := Go.Ground.phase }, { on := 4, ground := Go.Ground.phase }, { on := 5, ground := Go.Ground.phase }, { on := 6, ground := Go.Ground.phase }, { on := 7, ground := Go.Ground.phase }, { on := 8, ground := Go.Ground.phase }, { on := 9, ground := Go.Ground.textOnly Go.Departure.lateStores }, { on := 10, ground := Go.Ground.phase }], guard := none }) rfl (fun K' hK => ?_) (fun j hj => nomatch hj)
          rw [if_pos (by rfl)]
          refine wp_store_row 35 (.tmp 12) (.tmp 72) rfl g12 rfl (msgC m12.c s12) _ rfl 35 hZ rfl info_msg hM12.one (fun wz kz Oz => ?_)
          have hBz := below_only hB4 Oz hB4.size (fun k hk => by have hk' : k = g12 := hk; omega)
          refine hK _ _ hBz (fun hSz => ?_)
          try simp only [Act.put, List.setIfInBounds_toArray, List.set_cons_zero, List.set_cons_succ]
          refine wpAnyH_take (i := 12) (oi := { dst := some 13, op := Go.Op.assign (Go.Operand.tmp 73), type := 28, pos := "law.go:97", after := #[{ on := 9, ground := Go.Ground.data }, { on := 11, ground := Go.Ground.chain }, { on := 0, ground := Go.Ground.phase }, { on := 1, ground := Go.Ground.phase }, { on := 2, ground := Go.Ground.phase }, { on := 3, ground := Go.Ground.phase }, { on := 4, ground := Go.Ground.phase }, { on := 5, ground := Go.Ground.phase }, { on := 6, ground := Go.Ground.phase }, { on := 7, ground := Go.Ground.phase }, { on := 8, ground := Go.Ground.phase }, { on := 9, ground := Go.Ground.phase }, { on := 10, ground := Go.Ground.phase }, { on := 11, ground := Go.Ground.phase }], guard := none }) (v := .int .i64 er12) rfl (by kernel_rfl) (by kernel_rfl) (by kernel_rfl) (fun _ _ _ h => h) (Or.inl ⟨by rfl, ?_⟩) (by assumption) ?_
          · (intro W hSW; go_simp; (try with_reducible rfl))
          try simp only [Act.put, List.setIfInBounds_toArray, List.set_cons_zero, List.set_cons_succ]
          refine wpAnyH_done (by kernel_rfl) ?_ _
          have X8 := Aside0.mk ((hBz.block g8 (blk_lt HX14.out)).trans HX14.out)
          have X3 := Aside0.mk (FT2 wz hBz)
          have c1 : wz.cell? ⟨g3, 1, none⟩ = some (.int .u8 y) := blk_cell X3.out 1
          have c2 : wz.cell? ⟨g3, 2, none⟩ = some (.slice qA l.length qc) := blk_cell X3.out 2
          have hq1 := HE1.out
          have hq2 := HE2.out
          have HBz := Aside0.mk (HBW.out.trans (hBz.mono HBW.out.size))
          have HM := Aside0.mk HM10.out
          clear hBz hZ hG kz Oz hK hM12 hB4
          rcases HF.out with ⟨rfl, hy, rfl⟩ | ⟨rfl, hy, rfl, rfl⟩
          · subst hy
            go_wp2
            go_ret
            exact ⟨rfl, HBz.out⟩
          · have HS := Aside0.mk (same_zero (zero_any (W' := wz) HM.out))
            go_wp2_with (first | ((with_reducible refine gate_dst (N := 84) rfl ?_); refine gate_guard rfl ?_; refine load_row rfl 35 (.tmp 8) rfl g8 rfl (msgC zeroM.c s10) 35 X8.out _ Try.underlying35 rfl info_msg ?_) | (go_at_call 17; (with_reducible refine HS.out.mono ?_); rintro e wy ⟨rfl, hB⟩; have HBy := Aside0.mk (HBz.out.trans (hB.mono HBz.out.size)); have c3 : wy.cell? ⟨g3, 2, none⟩ = some (.slice qA l.length qc) := blk_cell (blk_keep hB (blk_lt X3.out) X3.out) 2; clear hB HS c1 c2) | fail)
            go_ret
            exact ⟨rfl, HBy.out⟩
      · rw [if_pos (by rfl)]
        refine wp_val (v := .pointer (some ⟨(z1).heap.size, 0, none⟩)) (w' := (z1).alloc (.cells (msgC zeroC nils) 35 (0, 0))) (by unfold execOp; simp only [Instr.alloc, Sem.run_bind, zero_msg, Result.andThen_ok]; rfl) (hK _ _ (below_alloc hB2 _) (fun hS => ?_))
        have hAl := below_alloc (Below.refl (z1).heap.size (z1)) (.cells (msgC zeroC nils) 35 (0, 0))
        have hZ := blk_new (z1) (.cells (msgC zeroC nils) 35 (0, 0))
        have hG := hB2.size
        have hB := hS
        have hN := hO.ne_new
        replace hO := hO.below hAl
        try simp only [Act.put, List.setIfInBounds_toArray, List.set_cons_zero, List.set_cons_succ]
        clear hS hAl
        generalize (z1).alloc (.cells (msgC zeroC nils) 35 (0, 0)) = z2 at *
        generalize (z1).heap.size = g12 at *
        refine wpAnyH_ready (rs := [5]) (by kernel_rfl) (by simp) ?_
        refine AllReadyH.cons (o := { dst := some 70, op := Go.Op.call { callee := Go.Callee.builtin Go.Builtin.append, args := #[Go.Operand.tmp 67, Go.Operand.tmp 69], argTypes := #[37, 37] }, type := 37, pos := "law.go:97", after := #[{ on := 2, ground := Go.Ground.data }, { on := 4, ground := Go.Ground.data }, { on := 2, ground := Go.Ground.chain }], guard := none }) rfl (fun K' hK => ?_) (fun j hj => nomatch hj)
        rw [if_pos (by rfl)]
        refine wp_append_bytes (ops := #[]) (w0 := w14) w14.heap.size rfl (.tmp 67) (.tmp 69) rfl _ _ ([] ++ B) l rfl rfl hO (HQ.out _ (HBW.out.trans (hB.mono HBW.out.size))) hB hB.size (Nat.le_trans HLen.out.2 (by decide)) (fun v2 z3 hO' hB3 hP => ?_)
        refine hK _ _ hB3 (fun _ => ?_)
        try simp only [Act.put, List.setIfInBounds_toArray, List.set_cons_zero, List.set_cons_succ]
        obtain ⟨hZ', hN'⟩ := hP _ _ hZ hN
        clear hZ hN
        have hZ := hZ'
        have hN := hN'
        clear hZ' hN'
        clear hO hP
        have hO := hO'
        clear hO'
        refine wpAnyH_ready (rs := [6]) (by kernel_rfl) (by simp) ?_
        refine AllReadyH.cons (o := { dst := some 71, op := Go.Op.call { callee := Go.Callee.value (Go.Operand.func 18), args := #[Go.Operand.tmp 70], argTypes := #[37] }, type := 47, pos := "law.go:97", after := #[{ on := 5, ground := Go.Ground.data }, { on := 5, ground := Go.Ground.chain }], guard := none }) rfl (fun K' hK => ?_) (fun j hj => nomatch hj)
        rw [if_pos (by rfl)]
        refine wp_calls Try.func18 (by kernel_rfl) (by kernel_rfl) #[v2] rfl (by simp only [List.map_toArray, List.map_cons, List.map_nil]; rfl) ((H12.out _ _ hO.rd).mono ?_)
        rintro e z4 ⟨hBd, s12, rfl, hM12⟩
        refine ⟨_, rfl, hK _ _ (hB3.trans (hBd.mono hB3.size)) (fun hS => ?_)⟩
        have hB4 := hS
        replace hZ := blk_keep hBd (blk_lt hZ) hZ
        clear hS hBd hO
        try simp only [Act.put, List.setIfInBounds_toArray, List.set_cons_zero, List.set_cons_succ]
        refine wpAnyH_take (i := 7) (oi := { dst := some 64, op := Go.Op.move (Go.Operand.tmp 71), type := 47, pos := "law.go:97", after := #[{ on := 6, ground := Go.Ground.data }], guard := none }) (v := .tuple #[.agg (msgC m12.c s12), .int .i64 er12]) rfl (by kernel_rfl) (by kernel_rfl) (by kernel_rfl) (fun _ _ _ h => h) (Or.inl ⟨by rfl, ?_⟩) (by assumption) ?_
        · (intro W hSW; go_simp; (try with_reducible rfl))
        try simp only [Act.put, List.setIfInBounds_toArray, List.set_cons_zero, List.set_cons_succ]
        refine wpAnyH_take (i := 8) (oi := { dst := some 72, op := Go.Op.extract (Go.Operand.tmp 64) 0, type := 35, pos := "law.go:97", after := #[{ on := 7, ground := Go.Ground.data }], guard := none }) (v := .agg (msgC m12.c s12)) rfl (by kernel_rfl) (by kernel_rfl) (by kernel_rfl) (fun _ _ _ h => h) (Or.inl ⟨by rfl, ?_⟩) (by assumption) ?_
        · (intro W hSW; go_simp; (try with_reducible rfl))
        try simp only [Act.put, List.setIfInBounds_toArray, List.set_cons_zero, List.set_cons_succ]
        refine wpAnyH_take (i := 9) (oi := { dst := some 73, op := Go.Op.extract (Go.Operand.tmp 64) 1, type := 28, pos := "law.go:97", after := #[{ on := 7, ground := Go.Ground.data }, { on := 11, ground := Go.Ground.gcOnly Go.Departure.lateStores }], guard := none }) (v := .int .i64 er12) rfl (by kernel_rfl) (by kernel_rfl) (by kernel_rfl) (fun _ _ _ h => h) (Or.inl ⟨by rfl, ?_⟩) (by assumption) ?_
        · (intro W hSW; go_simp; (try with_reducible rfl))
        try simp only [Act.put, List.setIfInBounds_toArray, List.set_cons_zero, List.set_cons_succ]
        refine wpAnyH_ready (rs := [11]) (by kernel_rfl) (by simp) ?_
        refine AllReadyH.cons (o := { dst := none, op := Go.Op.store 35 (Go.Operand.tmp 12) (Go.Operand.tmp 72), type := 0, pos := "law.go:97", after := #[{ on := 10, ground := Go.Ground.data }, { on := 8, ground := Go.Ground.data }, { on := 6, ground := Go.Ground.chain }, { on := 0, ground := Go.Ground.phase }, { on := 1, ground := Go.Ground.phase }, { on := 2, ground := Go.Ground.phase }, { on := 3, ground := Go.Ground.phase }, { on := 4, ground := Go.Ground.phase }, { on := 5, ground := Go.Ground.phase }, { on := 6, ground := Go.Ground.phase }, { on := 7, ground := Go.Ground.phase }, { on := 8, ground := Go.Ground.phase }, { on := 9, ground := Go.Ground.textOnly Go.Departure.lateStores }, { on := 10, ground := Go.Ground.phase }], guard := none }) rfl (fun K' hK => ?_) (fun j hj => nomatch hj)
        rw [if_pos (by rfl)]
        refine wp_store_row 35 (.tmp 12) (.tmp 72) rfl g12 rfl (msgC m12.c s12) _ rfl 35 hZ rfl info_msg hM12.one (fun wz kz Oz => ?_)
        have hBz := below_only hB4 Oz hB4.size (fun k hk => by have hk' : k = g12 := hk; omega)
        refine hK _ _ hBz (fun hSz => ?_)
        try simp only [Act.put, List.setIfInBounds_toArray, List.set_cons_zero, List.set_cons_succ]
        refine wpAnyH_take (i := 12) (oi := { dst := some 13, op := Go.Op.assign (Go.Operand.tmp 73), type := 28, pos := "law.go:97", after := #[{ on := 9, ground := Go.Ground.data }, { on := 11, ground := Go.Ground.chain }, { on := 0, ground := Go.Ground.phase }, { on := 1, ground := Go.Ground.phase }, { on := 2, ground := Go.Ground.phase }, { on := 3, ground := Go.Ground.phase }, { on := 4, ground := Go.Ground.phase }, { on := 5, ground := Go.Ground.phase }, { on := 6, ground := Go.Ground.phase }, { on := 7, ground := Go.Ground.phase }, { on := 8, ground := Go.Ground.phase }, { on := 9, ground := Go.Ground.phase }, { on := 10, ground := Go.Ground.phase }, { on := 11, ground := Go.Ground.phase }], guard := none }) (v := .int .i64 er12) rfl (by kernel_rfl) (by kernel_rfl) (by kernel_rfl) (fun _ _ _ h => h) (Or.inl ⟨by rfl, ?_⟩) (by assumption) ?_
        · (intro W hSW; go_simp; (try with_reducible rfl))
        try simp only [Act.put, List.setIfInBounds_toArray, List.set_cons_zero, List.set_cons_succ]
        refine wpAnyH_done (by kernel_rfl) ?_ _
        have X8 := Aside0.mk ((hBz.block g8 (blk_lt HX14.out)).trans HX14.out)
        have X3 := Aside0.mk (FT2 wz hBz)
        have c1 : wz.cell? ⟨g3, 1, none⟩ = some (.int .u8 y) := blk_cell X3.out 1
        have c2 : wz.cell? ⟨g3, 2, none⟩ = some (.slice qA l.length qc) := blk_cell X3.out 2
        have hq1 := HE1.out
        have hq2 := HE2.out
        have HBz := Aside0.mk (HBW.out.trans (hBz.mono HBW.out.size))
        have HM := Aside0.mk HM10.out
        clear hBz hZ hG kz Oz hK hM12 hB4
        rcases HF.out with ⟨rfl, hy, rfl⟩ | ⟨rfl, hy, rfl, rfl⟩
        · subst hy
          go_wp2
          go_ret
          exact ⟨rfl, HBz.out⟩
        · have HS := Aside0.mk (same_zero (zero_any (W' := wz) HM.out))
          go_wp2_with (first | ((with_reducible refine gate_dst (N := 84) rfl ?_); refine gate_guard rfl ?_; refine load_row rfl 35 (.tmp 8) rfl g8 rfl (msgC zeroM.c s10) 35 X8.out _ Try.underlying35 rfl info_msg ?_) | (go_at_call 17; (with_reducible refine HS.out.mono ?_); rintro e wy ⟨rfl, hB⟩; have HBy := Aside0.mk (HBz.out.trans (hB.mono HBz.out.size)); have c3 : wy.cell? ⟨g3, 2, none⟩ = some (.slice qA l.length qc) := blk_cell (blk_keep hB (blk_lt X3.out) X3.out) 2; clear hB HS c1 c2) | fail)
          go_ret
          exact ⟨rfl, HBy.out⟩
    · rw [if_pos (by rfl)]
      refine wp_val (v := .pointer (some ⟨(z0).heap.size, 0, none⟩)) (w' := (z0).alloc (.cells (msgC zeroC nils) 35 (0, 0))) (by unfold execOp; simp only [Instr.alloc, Sem.run_bind, zero_msg, Result.andThen_ok]; rfl) (hK _ _ (below_alloc hB1 _) (fun hS => ?_))
      have hAl := below_alloc (Below.refl (z0).heap.size (z0)) (.cells (msgC zeroC nils) 35 (0, 0))
      have hZ := blk_new (z0) (.cells (msgC zeroC nils) 35 (0, 0))
      have hG := hB1.size
      have hB := hS
      have hN := hO.ne_new
      replace hO := hO.below hAl
      try simp only [Act.put, List.setIfInBounds_toArray, List.set_cons_zero, List.set_cons_succ]
      clear hS hAl
      generalize (z0).alloc (.cells (msgC zeroC nils) 35 (0, 0)) = z1 at *
      generalize (z0).heap.size = g12 at *
      refine wpAnyH_ready (rs := [2]) (by kernel_rfl) (by simp) ?_
      refine AllReadyH.cons (o := { dst := some 67, op := Go.Op.call { callee := Go.Callee.builtin Go.Builtin.append, args := #[Go.Operand.tmp 65, Go.Operand.tmp 66], argTypes := #[37, 37] }, type := 37, pos := "law.go:97", after := #[{ on := 0, ground := Go.Ground.data }, { on := 1, ground := Go.Ground.data }], guard := none }) rfl (fun K' hK => ?_) (fun j hj => nomatch hj)
      rw [if_pos (by rfl)]
      refine wp_append_bytes (ops := #[]) (w0 := w14) w14.heap.size rfl (.tmp 65) (.tmp 66) rfl _ _ [] B rfl rfl hO (HVV.out.below (HB14.out.trans (hB.mono HB14.out.size))) hB hB.size (Nat.le_trans HLen.out.1 (by decide)) (fun v1 z2 hO' hB2 hP => ?_)
      refine hK _ _ hB2 (fun _ => ?_)
      try simp only [Act.put, List.setIfInBounds_toArray, List.set_cons_zero, List.set_cons_succ]
      obtain ⟨hZ', hN'⟩ := hP _ _ hZ hN
      clear hZ hN
      have hZ := hZ'
      have hN := hN'
      clear hZ' hN'
      clear hO hP
      have hO := hO'
      clear hO'
      refine wpAnyH_ready (rs := [5]) (by kernel_rfl) (by simp) ?_
      refine AllReadyH.cons (o := { dst := some 70, op := Go.Op.call { callee := Go.Callee.builtin Go.Builtin.append, args := #[Go.Operand.tmp 67, Go.Operand.tmp 69], argTypes := #[37, 37] }, type := 37, pos := "law.go:97", after := #[{ on := 2, ground := Go.Ground.data }, { on := 4, ground := Go.Ground.data }, { on := 2, ground := Go.Ground.chain }], guard := none }) rfl (fun K' hK => ?_) (fun j hj => nomatch hj)
      rw [if_pos (by rfl)]
      refine wp_append_bytes (ops := #[]) (w0 := w14) w14.heap.size rfl (.tmp 67) (.tmp 69) rfl _ _ ([] ++ B) l rfl rfl hO (HQ.out _ (HBW.out.trans (hB2.mono HBW.out.size))) hB2 hB2.size (Nat.le_trans HLen.out.2 (by decide)) (fun v2 z3 hO' hB3 hP => ?_)
      refine hK _ _ hB3 (fun _ => ?_)
      try simp only [Act.put, List.setIfInBounds_toArray, List.set_cons_zero, List.set_cons_succ]
      obtain ⟨hZ', hN'⟩ := hP _ _ hZ hN
      clear hZ hN
      have hZ := hZ'
      have hN := hN'
      clear hZ' hN'
      clear hO hP
      have hO := hO'
      clear hO'
      refine wpAnyH_ready (rs := [6]) (by kernel_rfl) (by simp) ?_
      refine AllReadyH.cons (o := { dst := some 71, op := Go.Op.call { callee := Go.Callee.value (Go.Operand.func 18), args := #[Go.Operand.tmp 70], argTypes := #[37] }, type := 47, pos := "law.go:97", after := #[{ on := 5, ground := Go.Ground.data }, { on := 5, ground := Go.Ground.chain }], guard := none }) rfl (fun K' hK => ?_) (fun j hj => nomatch hj)
      rw [if_pos (by rfl)]
      refine wp_calls Try.func18 (by kernel_rfl) (by kernel_rfl) #[v2] rfl (by simp only [List.map_toArray, List.map_cons, List.map_nil]; rfl) ((H12.out _ _ hO.rd).mono ?_)
      rintro e z4 ⟨hBd, s12, rfl, hM12⟩
      refine ⟨_, rfl, hK _ _ (hB3.trans (hBd.mono hB3.size)) (fun hS => ?_)⟩
      have hB4 := hS
      replace hZ := blk_keep hBd (blk_lt hZ) hZ
      clear hS hBd hO
      try simp only [Act.put, List.setIfInBounds_toArray, List.set_cons_zero, List.set_cons_succ]
      refine wpAnyH_take (i := 7) (oi := { dst := some 64, op := Go.Op.move (Go.Operand.tmp 71), type := 47, pos := "law.go:97", after := #[{ on := 6, ground := Go.Ground.data }], guard := none }) (v := .tuple #[.agg (msgC m12.c s12), .int .i64 er12]) rfl (by kernel_rfl) (by kernel_rfl) (by kernel_rfl) (fun _ _ _ h => h) (Or.inl ⟨by rfl, ?_⟩) (by assumption) ?_
      · (intro W hSW; go_simp; (try with_reducible rfl))
      try simp only [Act.put, List.setIfInBounds_toArray, List.set_cons_zero, List.set_cons_succ]
      refine wpAnyH_take (i := 8) (oi := { dst := some 72, op := Go.Op.extract (Go.Operand.tmp 64) 0, type := 35, pos := "law.go:97", after := #[{ on := 7, ground := Go.Ground.data }], guard := none }) (v := .agg (msgC m12.c s12)) rfl (by kernel_rfl) (by kernel_rfl) (by kernel_rfl) (fun _ _ _ h => h) (Or.inl ⟨by rfl, ?_⟩) (by assumption) ?_
      · (intro W hSW; go_simp; (try with_reducible rfl))
      try simp only [Act.put, List.setIfInBounds_toArray, List.set_cons_zero, List.set_cons_succ]
      refine wpAnyH_take (i := 9) (oi := { dst := some 73, op := Go.Op.extract (Go.Operand.tmp 64) 1, type := 28, pos := "law.go:97", after := #[{ on := 7, ground := Go.Ground.data }, { on := 11, ground := Go.Ground.gcOnly Go.Departure.lateStores }], guard := none }) (v := .int .i64 er12) rfl (by kernel_rfl) (by kernel_rfl) (by kernel_rfl) (fun _ _ _ h => h) (Or.inl ⟨by rfl, ?_⟩) (by assumption) ?_
      · (intro W hSW; go_simp; (try with_reducible rfl))
      try simp only [Act.put, List.setIfInBounds_toArray, List.set_cons_zero, List.set_cons_succ]
      refine wpAnyH_ready (rs := [11]) (by kernel_rfl) (by simp) ?_
      refine AllReadyH.cons (o := { dst := none, op := Go.Op.store 35 (Go.Operand.tmp 12) (Go.Operand.tmp 72), type := 0, pos := "law.go:97", after := #[{ on := 10, ground := Go.Ground.data }, { on := 8, ground := Go.Ground.data }, { on := 6, ground := Go.Ground.chain }, { on := 0, ground := Go.Ground.phase }, { on := 1, ground := Go.Ground.phase }, { on := 2, ground := Go.Ground.phase }, { on := 3, ground := Go.Ground.phase }, { on := 4, ground := Go.Ground.phase }, { on := 5, ground := Go.Ground.phase }, { on := 6, ground := Go.Ground.phase }, { on := 7, ground := Go.Ground.phase }, { on := 8, ground := Go.Ground.phase }, { on := 9, ground := Go.Ground.textOnly Go.Departure.lateStores }, { on := 10, ground := Go.Ground.phase }], guard := none }) rfl (fun K' hK => ?_) (fun j hj => nomatch hj)
      rw [if_pos (by rfl)]
      refine wp_store_row 35 (.tmp 12) (.tmp 72) rfl g12 rfl (msgC m12.c s12) _ rfl 35 hZ rfl info_msg hM12.one (fun wz kz Oz => ?_)
      have hBz := below_only hB4 Oz hB4.size (fun k hk => by have hk' : k = g12 := hk; omega)
      refine hK _ _ hBz (fun hSz => ?_)
      try simp only [Act.put, List.setIfInBounds_toArray, List.set_cons_zero, List.set_cons_succ]
      refine wpAnyH_take (i := 12) (oi := { dst := some 13, op := Go.Op.assign (Go.Operand.tmp 73), type := 28, pos := "law.go:97", after := #[{ on := 9, ground := Go.Ground.data }, { on := 11, ground := Go.Ground.chain }, { on := 0, ground := Go.Ground.phase }, { on := 1, ground := Go.Ground.phase }, { on := 2, ground := Go.Ground.phase }, { on := 3, ground := Go.Ground.phase }, { on := 4, ground := Go.Ground.phase }, { on := 5, ground := Go.Ground.phase }, { on := 6, ground := Go.Ground.phase }, { on := 7, ground := Go.Ground.phase }, { on := 8, ground := Go.Ground.phase }, { on := 9, ground := Go.Ground.phase }, { on := 10, ground := Go.Ground.phase }, { on := 11, ground := Go.Ground.phase }], guard := none }) (v := .int .i64 er12) rfl (by kernel_rfl) (by kernel_rfl) (by kernel_rfl) (fun _ _ _ h => h) (Or.inl ⟨by rfl, ?_⟩) (by assumption) ?_
      · (intro W hSW; go_simp; (try with_reducible rfl))
      try simp only [Act.put, List.setIfInBounds_toArray, List.set_cons_zero, List.set_cons_succ]
      refine wpAnyH_done (by kernel_rfl) ?_ _
      have X8 := Aside0.mk ((hBz.block g8 (blk_lt HX14.out)).trans HX14.out)
      have X3 := Aside0.mk (FT2 wz hBz)
      have c1 : wz.cell? ⟨g3, 1, none⟩ = some (.int .u8 y) := blk_cell X3.out 1
      have c2 : wz.cell? ⟨g3, 2, none⟩ = some (.slice qA l.length qc) := blk_cell X3.out 2
      have hq1 := HE1.out
      have hq2 := HE2.out
      have HBz := Aside0.mk (HBW.out.trans (hBz.mono HBW.out.size))
      have HM := Aside0.mk HM10.out
      clear hBz hZ hG kz Oz hK hM12 hB4
      rcases HF.out with ⟨rfl, hy, rfl⟩ | ⟨rfl, hy, rfl, rfl⟩
      · subst hy
        go_wp2
        go_ret
        exact ⟨rfl, HBz.out⟩
      · have HS := Aside0.mk (same_zero (zero_any (W' := wz) HM.out))
        go_wp2_with (first | ((with_reducible refine gate_dst (N := 84) rfl ?_); refine gate_guard rfl ?_; refine load_row rfl 35 (.tmp 8) rfl g8 rfl (msgC zeroM.c s10) 35 X8.out _ Try.underlying35 rfl info_msg ?_) | (go_at_call 17; (with_reducible refine HS.out.mono ?_); rintro e wy ⟨rfl, hB⟩; have HBy := Aside0.mk (HBz.out.trans (hB.mono HBz.out.size)); have c3 : wy.cell? ⟨g3, 2, none⟩ = some (.slice qA l.length qc) := blk_cell (blk_keep hB (blk_lt X3.out) X3.out) 2; clear hB HS c1 c2) | fail)
        go_ret
        exact ⟨rfl, HBy.out⟩
  · rw [if_pos (by rfl)]
    refine wp_val (v := .pointer (some ⟨(w14.drew).heap.size, 0, none⟩)) (w' := (w14.drew).alloc (.cells (msgC zeroC nils) 35 (0, 0))) (by unfold execOp; simp only [Instr.alloc, Sem.run_bind, zero_msg, Result.andThen_ok]; rfl) (hK _ _ (below_alloc hHeld _) (fun hS => ?_))
    have hAl := below_alloc (Below.refl (w14.drew).heap.size (w14.drew)) (.cells (msgC zeroC nils) 35 (0, 0))
    have hZ := blk_new (w14.drew) (.cells (msgC zeroC nils) 35 (0, 0))
    have hG := hHeld.size
    have hB := hS
    try simp only [Act.put, List.setIfInBounds_toArray, List.set_cons_zero, List.set_cons_succ]
    clear hS hAl
    generalize (w14.drew).alloc (.cells (msgC zeroC nils) 35 (0, 0)) = z0 at *
    generalize (w14.drew).heap.size = g12 at *
    refine wpAnyH_ready (rs := [0]) (by kernel_rfl) (by simp) ?_
    refine AllReadyH.cons (o := { dst := some 65, op := Go.Op.buildSlice 37 0 #[], type := 37, pos := "law.go:97", after := #[], guard := none }) rfl (fun K' hK => ?_) (fun j hj => nomatch hj)
    rw [if_pos (by rfl)]
    refine wp_val (v := .slice (some ⟨(z0).heap.size, 0, none⟩) 0 0) (w' := (z0).alloc (.cells #[] 5 (0, 0))) (by go_simp) (hK _ _ (below_alloc hB _) (fun hS => ?_))
    have hAl := below_alloc (Below.refl (z0).heap.size (z0)) (.cells #[] 5 (0, 0))
    have hO := (OwnB.lit (z0)).low hB.size
    have hB1 := hS
    have hN : Value.ownBlock (.slice (some ⟨(z0).heap.size, 0, none⟩) 0 0) ≠ some g12 := fun e => by
      have := blk_lt hZ
      have e' : (z0).heap.size = g12 := by injection e
      omega
    replace hZ := blk_keep hAl (blk_lt hZ) hZ
    try simp only [Act.put, List.setIfInBounds_toArray, List.set_cons_zero, List.set_cons_succ]
    clear hS hAl
    generalize (z0).alloc (.cells #[] 5 (0, 0)) = z1 at *
    generalize (z0).heap.size = lit at *
    refine wpAnyH_ready (rs := [2]) (by kernel_rfl) (by simp) ?_
    refine AllReadyH.cons (o := { dst := some 67, op := Go.Op.call { callee := Go.Callee.builtin Go.Builtin.append, args := #[Go.Operand.tmp 65, Go.Operand.tmp 66], argTypes := #[37, 37] }, type := 37, pos := "law.go:97", after := #[{ on := 0, ground := Go.Ground.data }, { on := 1, ground := Go.Ground.data }], guard := none }) rfl (fun K' hK => ?_) (fun j hj => nomatch hj)
    rw [if_pos (by rfl)]
    refine wp_append_bytes (ops := #[]) (w0 := w14) w14.heap.size rfl (.tmp 65) (.tmp 66) rfl _ _ [] B rfl rfl hO (HVV.out.below (HB14.out.trans (hB1.mono HB14.out.size))) hB1 hB1.size (Nat.le_trans HLen.out.1 (by decide)) (fun v1 z2 hO' hB2 hP => ?_)
    refine hK _ _ hB2 (fun _ => ?_)
    try simp only [Act.put, List.setIfInBounds_toArray, List.set_cons_zero, List.set_cons_succ]
    obtain ⟨hZ', hN'⟩ := hP _ _ hZ hN
    clear hZ hN
    have hZ := hZ'
    have hN := hN'
    clear hZ' hN'
    clear hO hP
    have hO := hO'
    clear hO'
    refine wpAnyH_ready (rs := [5]) (by kernel_rfl) (by simp) ?_
    refine AllReadyH.cons (o := { dst := some 70, op := Go.Op.call { callee := Go.Callee.builtin Go.Builtin.append, args := #[Go.Operand.tmp 67, Go.Operand.tmp 69], argTypes := #[37, 37] }, type := 37, pos := "law.go:97", after := #[{ on := 2, ground := Go.Ground.data }, { on := 4, ground := Go.Ground.data }, { on := 2, ground := Go.Ground.chain }], guard := none }) rfl (fun K' hK => ?_) (fun j hj => nomatch hj)
    rw [if_pos (by rfl)]
    refine wp_append_bytes (ops := #[]) (w0 := w14) w14.heap.size rfl (.tmp 67) (.tmp 69) rfl _ _ ([] ++ B) l rfl rfl hO (HQ.out _ (HBW.out.trans (hB2.mono HBW.out.size))) hB2 hB2.size (Nat.le_trans HLen.out.2 (by decide)) (fun v2 z3 hO' hB3 hP => ?_)
    refine hK _ _ hB3 (fun _ => ?_)
    try simp only [Act.put, List.setIfInBounds_toArray, List.set_cons_zero, List.set_cons_succ]
    obtain ⟨hZ', hN'⟩ := hP _ _ hZ hN
    clear hZ hN
    have hZ := hZ'
    have hN := hN'
    clear hZ' hN'
    clear hO hP
    have hO := hO'
    clear hO'
    refine wpAnyH_ready (rs := [6]) (by kernel_rfl) (by simp) ?_
    refine AllReadyH.cons (o := { dst := some 71, op := Go.Op.call { callee := Go.Callee.value (Go.Operand.func 18), args := #[Go.Operand.tmp 70], argTypes := #[37] }, type := 47, pos := "law.go:97", after := #[{ on := 5, ground := Go.Ground.data }, { on := 5, ground := Go.Ground.chain }], guard := none }) rfl (fun K' hK => ?_) (fun j hj => nomatch hj)
    rw [if_pos (by rfl)]
    refine wp_calls Try.func18 (by kernel_rfl) (by kernel_rfl) #[v2] rfl (by simp only [List.map_toArray, List.map_cons, List.map_nil]; rfl) ((H12.out _ _ hO.rd).mono ?_)
    rintro e z4 ⟨hBd, s12, rfl, hM12⟩
    refine ⟨_, rfl, hK _ _ (hB3.trans (hBd.mono hB3.size)) (fun hS => ?_)⟩
    have hB4 := hS
    replace hZ := blk_keep hBd (blk_lt hZ) hZ
    clear hS hBd hO
    try simp only [Act.put, List.setIfInBounds_toArray, List.set_cons_zero, List.set_cons_succ]
    refine wpAnyH_take (i := 7) (oi := { dst := some 64, op := Go.Op.move (Go.Operand.tmp 71), type := 47, pos := "law.go:97", after := #[{ on := 6, ground := Go.Ground.data }], guard := none }) (v := .tuple #[.agg (msgC m12.c s12), .int .i64 er12]) rfl (by kernel_rfl) (by kernel_rfl) (by kernel_rfl) (fun _ _ _ h => h) (Or.inl ⟨by rfl, ?_⟩) (by assumption) ?_
    · (intro W hSW; go_simp; (try with_reducible rfl))
    try simp only [Act.put, List.setIfInBounds_toArray, List.set_cons_zero, List.set_cons_succ]
    refine wpAnyH_take (i := 8) (oi := { dst := some 72, op := Go.Op.extract (Go.Operand.tmp 64) 0, type := 35, pos := "law.go:97", after := #[{ on := 7, ground := Go.Ground.data }], guard := none }) (v := .agg (msgC m12.c s12)) rfl (by kernel_rfl) (by kernel_rfl) (by kernel_rfl) (fun _ _ _ h => h) (Or.inl ⟨by rfl, ?_⟩) (by assumption) ?_
    · (intro W hSW; go_simp; (try with_reducible rfl))
    try simp only [Act.put, List.setIfInBounds_toArray, List.set_cons_zero, List.set_cons_succ]
    refine wpAnyH_take (i := 9) (oi := { dst := some 73, op := Go.Op.extract (Go.Operand.tmp 64) 1, type := 28, pos := "law.go:97", after := #[{ on := 7, ground := Go.Ground.data }, { on := 11, ground := Go.Ground.gcOnly Go.Departure.lateStores }], guard := none }) (v := .int .i64 er12) rfl (by kernel_rfl) (by kernel_rfl) (by kernel_rfl) (fun _ _ _ h => h) (Or.inl ⟨by rfl, ?_⟩) (by assumption) ?_
    · (intro W hSW; go_simp; (try with_reducible rfl))
    try simp only [Act.put, List.setIfInBounds_toArray, List.set_cons_zero, List.set_cons_succ]
    refine wpAnyH_ready (rs := [11]) (by kernel_rfl) (by simp) ?_
    refine AllReadyH.cons (o := { dst := none, op := Go.Op.store 35 (Go.Operand.tmp 12) (Go.Operand.tmp 72), type := 0, pos := "law.go:97", after := #[{ on := 10, ground := Go.Ground.data }, { on := 8, ground := Go.Ground.data }, { on := 6, ground := Go.Ground.chain }, { on := 0, ground := Go.Ground.phase }, { on := 1, ground := Go.Ground.phase }, { on := 2, ground := Go.Ground.phase }, { on := 3, ground := Go.Ground.phase }, { on := 4, ground := Go.Ground.phase }, { on := 5, ground := Go.Ground.phase }, { on := 6, ground := Go.Ground.phase }, { on := 7, ground := Go.Ground.phase }, { on := 8, ground := Go.Ground.phase }, { on := 9, ground := Go.Ground.textOnly Go.Departure.lateStores }, { on := 10, ground := Go.Ground.phase }], guard := none }) rfl (fun K' hK => ?_) (fun j hj => nomatch hj)
    rw [if_pos (by rfl)]
    refine wp_store_row 35 (.tmp 12) (.tmp 72) rfl g12 rfl (msgC m12.c s12) _ rfl 35 hZ rfl info_msg hM12.one (fun wz kz Oz => ?_)
    have hBz := below_only hB4 Oz hB4.size (fun k hk => by have hk' : k = g12 := hk; omega)
    refine hK _ _ hBz (fun hSz => ?_)
    try simp only [Act.put, List.setIfInBounds_toArray, List.set_cons_zero, List.set_cons_succ]
    refine wpAnyH_take (i := 12) (oi := { dst := some 13, op := Go.Op.assign (Go.Operand.tmp 73), type := 28, pos := "law.go:97", after := #[{ on := 9, ground := Go.Ground.data }, { on := 11, ground := Go.Ground.chain }, { on := 0, ground := Go.Ground.phase }, { on := 1, ground := Go.Ground.phase }, { on := 2, ground := Go.Ground.phase }, { on := 3, ground := Go.Ground.phase }, { on := 4, ground := Go.Ground.phase }, { on := 5, ground := Go.Ground.phase }, { on := 6, ground := Go.Ground.phase }, { on := 7, ground := Go.Ground.phase }, { on := 8, ground := Go.Ground.phase }, { on := 9, ground := Go.Ground.phase }, { on := 10, ground := Go.Ground.phase }, { on := 11, ground := Go.Ground.phase }], guard := none }) (v := .int .i64 er12) rfl (by kernel_rfl) (by kernel_rfl) (by kernel_rfl) (fun _ _ _ h => h) (Or.inl ⟨by rfl, ?_⟩) (by assumption) ?_
    · (intro W hSW; go_simp; (try with_reducible rfl))
    try simp only [Act.put, List.setIfInBounds_toArray, List.set_cons_zero, List.set_cons_succ]
    refine wpAnyH_done (by kernel_rfl) ?_ _
    have X8 := Aside0.mk ((hBz.block g8 (blk_lt HX14.out)).trans HX14.out)
    have X3 := Aside0.mk (FT2 wz hBz)
    have c1 : wz.cell? ⟨g3, 1, none⟩ = some (.int .u8 y) := blk_cell X3.out 1
    have c2 : wz.cell? ⟨g3, 2, none⟩ = some (.slice qA l.length qc) := blk_cell X3.out 2
    have hq1 := HE1.out
    have hq2 := HE2.out
    have HBz := Aside0.mk (HBW.out.trans (hBz.mono HBW.out.size))
    have HM := Aside0.mk HM10.out
    clear hBz hZ hG kz Oz hK hM12 hB4
    rcases HF.out with ⟨rfl, hy, rfl⟩ | ⟨rfl, hy, rfl, rfl⟩
    · subst hy
      go_wp2
      go_ret
      exact ⟨rfl, HBz.out⟩
    · have HS := Aside0.mk (same_zero (zero_any (W' := wz) HM.out))
      go_wp2_with (first | ((with_reducible refine gate_dst (N := 84) rfl ?_); refine gate_guard rfl ?_; refine load_row rfl 35 (.tmp 8) rfl g8 rfl (msgC zeroM.c s10) 35 X8.out _ Try.underlying35 rfl info_msg ?_) | (go_at_call 17; (with_reducible refine HS.out.mono ?_); rintro e wy ⟨rfl, hB⟩; have HBy := Aside0.mk (HBz.out.trans (hB.mono HBz.out.size)); have c3 : wy.cell? ⟨g3, 2, none⟩ = some (.slice qA l.length qc) := blk_cell (blk_keep hB (blk_lt X3.out) X3.out) 2; clear hB HS c1 c2) | fail)
      go_ret
      exact ⟨rfl, HBy.out⟩
end Go.Proofs.Ytcbehfbfaonanaa.Wr
end

/- WireRefuses, whole. -/
section
namespace Go.Proofs.Ytcbehfbfaonanaa.Wr
open Go.RowKit Go.Proofs.YtcbehfbfaonanaaW.PrintWords Go.Proofs.YtcbehfbfaonanaaW.PrintLast Go.Proofs.YtcbehfbfaonanaaW.PrintMore Go.Proofs.Ytcbehfbfaonanaa.Pk
open Go.Proofs.Ytcbehfbfaonanaa.PFr (sealL openL ansE Ok x2)
set_option linter.unusedVariables false
set_option linter.unusedSimpArgs false

theorem isD_of {l : List Int} {m : M} {er : Int} (e : decM l = (m, er)) (hb : ∀ x ∈ l, Pk.IsB x) (hl : l.length ≤ 9000000000) (W : World) (v : Value) (h : BRd W v l) : Calls Try.prog 18 #[v] W (IsD m er W) := by
  have k := decode_d W v h hb hl
  rw [e] at k
  exact k
theorem refuses_c (w : World) (va : Value) (m : M) (sv : Nat → Value) (n y : Int) (q : Value) (l : List Int) (h : MsgRd w va m sv) (hs : Small m) (hq : BRd w q l) (hl : l.length ≤ 1048576) (hb : ∀ x ∈ l, Pk.IsB x) (hy : Pk.IsB y) :
    Calls Try.prog 5 #[va, .agg #[.int .i64 n, .int .u8 y, q]] w (IsYes w) := by
  by_cases hL : LightM m
  · by_cases hr : RightM m
    · by_cases hn : n < 0
      · exact re_neg w va n y q m sv h hs hL hr hn
      by_cases hf : ((sealL (payB m)).length : Int) ≤ n
      · exact re_far w va n y q m sv h hs hL hr (by omega) hf
      obtain ⟨i, rfl⟩ := Int.eq_ofNat_of_zero_le (show 0 ≤ n by omega)
      have ok := payB_ok h.typed hr
      have hp : ∀ x ∈ payB m, Pk.IsB x := payB_isB hs
      have hI : ∀ x ∈ sealL (payB m), Pk.IsB x := PFr.sealL_isB hp
      have hlen : (sealL (payB m)).length ≤ 1000000 := by rw [PFr.sealL_length]; have := ok; unfold Ok at this; omega
      have hi : i < (sealL (payB m)).length := by omega
      have hne : sealL (payB m) ≠ [] := fun e => by rw [e] at hi; simp at hi
      have hrd := rd_isB hI hi
      have hx := (PFr.x2_is (rd (sealL (payB m)) i) y hrd hy).1
      obtain ⟨fm, er10, m10, hd10, hF⟩ : ∃ (fm : Bool) (er10 : Int) (m10 : M), decM ((sealL (payB m)).set i (x2 (rd (sealL (payB m)) i) y)) = (m10, er10) ∧ ((fm = true ∧ y = 0 ∧ er10 = 0) ∨ (fm = false ∧ (y == 0) = false ∧ er10 = 2 ∧ m10 = zeroM)) := by
        by_cases h0 : y = 0
        · refine ⟨true, 0, rdM (payB m), ?_, .inl ⟨rfl, h0, rfl⟩⟩
          rw [(PFr.x2_same _ _ hrd hy).2 h0, set_same hi]
          exact dec_seal h.typed hr
        · refine ⟨false, 2, zeroM, dec_none (PFr.openL_turn ok hp hi hx (fun e => h0 ((PFr.x2_same _ _ hrd hy).1 e))), .inr ⟨rfl, beq_eq_false_iff_ne.2 h0, rfl, rfl⟩⟩
      obtain ⟨em, er12, m12, hd12, he1, he2⟩ : ∃ (em : Bool) (er12 : Int) (m12 : M), decM (sealL (payB m) ++ l) = (m12, er12) ∧ (er12 == 0) = em ∧ ((l.length : Int) == 0) = em := by
        by_cases h0 : l = []
        · subst h0
          exact ⟨true, 0, rdM (payB m), by rw [List.append_nil]; exact dec_seal h.typed hr, rfl, rfl⟩
        · refine ⟨false, 2, zeroM, dec_none (PFr.openL_more ok h0), rfl, beq_eq_false_iff_ne.2 (fun e => h0 (List.length_eq_zero_iff.1 (by omega)))⟩
      exact re_main w va i y q m sv l fm em er10 er12 m10 m12 hne h hs hL hq hi (by omega) (encY hs hr)
        (isD_of hd10 (set_isB hI hx i) (by rw [List.length_set]; omega))
        (isD_of (dec_none (PFr.openL_take ok hi)) (PFr.take_isB hI i) (by rw [List.length_take]; omega))
        (isD_of hd12 (PFr.app_isB hI hb) (by rw [List.length_append]; omega)) hF he1 he2
    · exact re_wrong w va n y q m sv h hs hL hr
  · exact re_heavy w va n y q m sv h hL
end Go.Proofs.Ytcbehfbfaonanaa.Wr
end

/- Bytes and a turn, opened. -/
section
namespace Go.Proofs.Ytcbehfbfaonanaa.Wr
open Go.RowKit Go.ChangeShapes Go.WideShapes Go.ChangeAt Go.Deep Go.Proofs.YtcbehfbfaonanaaW.PrintWords Go.Proofs.YtcbehfbfaonanaaW.PrintLast Go.Proofs.YtcbehfbfaonanaaW.PrintMore Go.Proofs.Ytcbehfbfaonanaa.Pk
set_option linter.unusedVariables false

theorem bulk_lits {H : Type} (k : IntKind) : ∀ zs : List Int, zs.length ≤ Rows.uptoBulkAll (lits (H := H) k zs)
  | [] => Nat.zero_le _
  | z :: r => by
    have h := bulk_lits (H := H) k r
    show r.length + 1 ≤ Rows.uptoBulk (.lit (.int k z) : DataW H) + Rows.uptoBulkAll (lits (H := H) k r)
    have e : Rows.uptoBulk (.lit (.int k z) : DataW H) = 1 := by simp [Rows.uptoBulk]
    omega
theorem isB_wf {x : Int} (h : (Lit.int .u8 x).wf = true) : Pk.IsB x := by
  simp [Lit.wf, IntKind.min, IntKind.max, IntKind.signed, IntKind.bits] at h
  unfold Pk.IsB
  omega
section
variable {H : Type} {enc : TypeId × Value → H} {W : World} {base : Nat} {spare : Nat → Bool} {held : Bool}
theorem bytes_lying {N fuel : Nat} {cs : List Value} {x : DataW H × List MemPlace} (h : DataW.trod enc Try.prog W base spare held fuel 37 cs = some x) (hN : Rows.uptoBulk x.1 ≤ N) : ∃ sv l, cs = [sv] ∧ BRd W sv l ∧ l.length ≤ N ∧ ∀ x ∈ l, Pk.IsB x := by
  rcases open_ints Try.underlying37 Try.underlying5 (by kernel_rfl) h with ⟨hcs, _⟩ | ⟨y, l, c, zs, hcs, _, hl, hm, hz, hx, hcell, hwz⟩
  · exact ⟨_, [], hcs, ⟨none, 0, rfl, ⟨rfl, by simp, fun h => absurd h (by simp)⟩, Nat.le_refl _⟩, Nat.zero_le _, fun x hx => nomatch hx⟩
  · have hlz : l ≤ zs.length := by rw [hz]; split <;> omega
    have hlen : (zs.take l).length = l := by rw [List.length_take]; omega
    obtain ⟨hd, _⟩ := Prod.mk.inj hx
    refine ⟨_, zs.take l, hcs, ⟨some y, c, by rw [hlen], ?_, by rw [hlen]; exact hl⟩, ?_, fun x hx => isB_wf (hwz x (List.mem_of_mem_take hx))⟩
    · rw [hlen]
      refine c_of_reads ⟨hlen, by unfold maxLen at hm; omega, fun _ => ⟨y, rfl, fun i hi => ?_⟩⟩
      rw [hcell i (by omega)]
      simp only [List.getD_eq_getElem?_getD, List.getElem?_take]
      rw [if_pos hi]
    · have e : Rows.uptoBulk (.slice (lits .u8 (zs.take l)) (lits .u8 (zs.drop l)) : DataW H) = Rows.uptoBulkAll (lits (H := H) .u8 (zs.take l)) + Rows.uptoBulkAll (lits (H := H) .u8 (zs.drop l)) + 1 := by simp [Rows.uptoBulk]
      have h1 := bulk_lits (H := H) .u8 (zs.take l)
      rw [hd, e] at hN
      omega
set_option maxRecDepth 100000 in
theorem open_turn {N b0 : Nat} {v : Value} {d : DataW H} {p : List MemPlace} (hv : Value.okWide Try.prog W .any b0 51 v) (h : DataW.Trod enc Try.prog W base spare held 51 v d p) (hN : Rows.uptoBulk d ≤ N) :
    ∃ n y sv l, v = .agg #[.int .i64 n, .int .u8 y, sv] ∧ BRd W sv l ∧ l.length ≤ N ∧ (∀ x ∈ l, Pk.IsB x) ∧ Pk.IsB y ∧ (Lit.int .i64 n).wf = true := by
  obtain ⟨arr, rfl, _⟩ := okWide_struct Try.underlying51 hv
  obtain ⟨fuel, hf⟩ := h
  obtain ⟨xs, m, rfl, hx, hl, hxl, hg⟩ := DataW.trod_struct Try.underlying51 hf
  have hlen : arr.toList.length = 3 := hl.trans (by kernel_rfl)
  have hxs : xs.length = 3 := hxl
  obtain ⟨hd, _⟩ := Prod.mk.inj hx
  subst hd
  have hN' : Rows.uptoBulkAll (xs.map (·.1)) + 1 ≤ N := by rw [← bulk_agg]; exact hN
  obtain ⟨cs, rfl⟩ : ∃ cs : List Value, arr = cs.toArray := ⟨arr.toList, by simp⟩
  have hlen' : cs.length = 3 := by simpa using hlen
  obtain ⟨c0, c1, c2, rfl⟩ : ∃ a b c, cs = [a, b, c] := by
    match cs, hlen' with
    | [a, b, c], _ => exact ⟨a, b, c, rfl⟩
  obtain ⟨x0, x1, x2, rfl⟩ : ∃ a b c, xs = [a, b, c] := by
    match xs, hxs with
    | [a, b, c], _ => exact ⟨a, b, c, rfl⟩
  have h0 : DataW.trod enc Try.prog W base spare held m 3 [c0] = some x0 := hg 0 _ rfl
  have h1 : DataW.trod enc Try.prog W base spare held m 5 [c1] = some x1 := hg 1 _ rfl
  have h2 : DataW.trod enc Try.prog W base spare held m 37 [c2] = some x2 := hg 2 _ rfl
  obtain ⟨z0, e0, _, w0⟩ := DataW.trod_int Try.underlying3 h0
  obtain ⟨z1, e1, _, w1⟩ := DataW.trod_int Try.underlying5 h1
  have hb : Rows.uptoBulk x2.1 ≤ N := by
    have := bulk_mem (ds := [x0, x1, x2].map (·.1)) (d := x2.1) (by simp)
    omega
  obtain ⟨sv, l, e2, k1, k2, k3⟩ := bytes_lying h2 hb
  simp only [List.cons.injEq, and_true] at e0 e1 e2
  subst e0 e1 e2
  exact ⟨z0, z1, _, l, rfl, k1, k2, k3, isB_wf w1, w0⟩
end
end Go.Proofs.Ytcbehfbfaonanaa.Wr
end
