/- Part 1 of the texts that walk the program and tell its laws, joined in the order of their building. No conditions. -/
import Derived.Below
import Derived.Deep.Draws
import Derived.Deep.AppendLies
import Derived.Maps.AppendAt
import Derived.OwnWalk
import Derived.Laws.BytesArg
import Derived.Laws.MakeOwn
import Derived.Laws.OwnMore
import Derived.Deep.OwnRows
import Derived.Tactics
import Derived.Lib.ConvBytes
import Derived.Laws.Slices
import Derived.WalkKit
import Derived.KernelRfl
import Derived.RowKit3
import Derived.Deep.LoopGhost
import Derived.Deep.QuietTactic
import Derived.BigQuiet
import Derived.WideLaws
import Derived.Deep.DeepCutAuto
import Derived.Deep.CutBlock
import Derived.Deep.RegionHeld3
import Derived.Laws.Rows
import Derived.Lib.AppendStr
import Derived.ArgAppend
import Derived.Laws.IdiomCopy
import Derived.RowKit
import Derived.OrdersHeld
import Derived.Laws.BitsLemmas
import Derived.Test.YtcbehfbfaonanaaProg
import Derived.Lib.SlBytesConst
import Derived.Outline

section
set_option linter.unusedVariables false
set_option linter.unusedSimpArgs false
namespace Go.Proofs.YtcbehfbfaonanaaW.PrintWords
open Go.RowKit

/-- A fact that the walk's simp doesn't look into. -/
structure Aside0 (p : Prop) : Prop where mk :: (out : p)
/-- The world is the old one, some orders having been drawn. -/
structure Drawn0 (w w' : World) : Prop where mk :: (out : ∃ n, w' = w.drewN n)
theorem Drawn0.refl (w : World) : Drawn0 w w := ⟨⟨0, rfl⟩⟩
theorem Drawn0.step {w w' : World} (h : Drawn0 w w') (n : Nat) : Drawn0 w (w'.drewN n) := by
  obtain ⟨m, rfl⟩ := h
  exact ⟨⟨m + n, World.drewN_drewN ..⟩⟩
theorem Drawn0.grown {w w' : World} (h : Drawn0 w w') : Grown w w' := by
  obtain ⟨n, rfl⟩ := h
  induction n with
  | zero => exact Grown.refl _
  | succ n ih => rw [← World.drew_drewN]; exact Grown.drew ih
theorem Drawn0.below {w w' : World} (h : Drawn0 w w') : Below w.heap.size w w' := by
  obtain ⟨n, rfl⟩ := h
  induction n with
  | zero => exact Below.refl _ _
  | succ n ih => rw [← World.drew_drewN]; exact ih.drew


/-! ### 1. Values and lists -/
def rd (xs : List Int) (i : Int) : Int := xs.getD i.toNat 0
def nums (k : IntKind) (xs : List Int) : List Value := xs.map fun x => .int k x
theorem below_alloc {w W : World} (h : Below w.heap.size w W) (o : Obj) : Below w.heap.size w (W.alloc o) := h.alloc h.size o
theorem below_drew {B : Nat} {w W : World} (h : Below B w W) : Below B w W.drew := ⟨h.os, h.tape, h.output, h.size, h.block⟩
theorem pw_below_drewN {B : Nat} {w W : World} (h : Below B w W) (n : Nat) : Below B w (W.drewN n) := ⟨h.os, h.tape, h.output, h.size, h.block⟩
theorem below_then {B : Nat} {w w1 w2 : World} (h : Below B w w1) (hB : B ≤ w1.heap.size) (k : Below w1.heap.size w1 w2) : Below B w w2 :=
  h.trans ⟨k.os, k.tape, k.output, k.size, fun i hi => k.block i (Nat.lt_of_lt_of_le hi hB)⟩
theorem grown_of_below {w w1 : World} (h : Below w.heap.size w w1) (row : Option Nat) : w.grownBy w1 row := ⟨h.os, h.tape, h.output, h.size, fun i hi _ => h.block i hi⟩
theorem pw_cell_below {w w1 : World} (h : Below w.heap.size w w1) {a : Addr} {v : Value} (hc : w.cell? a = some v) : w1.cell? a = some v := (h.cell (World.block_lt_of_cell? w a hc)).trans hc

theorem add_plain (g j : Nat) : (⟨g, 0, none⟩ : Addr).add j = ⟨g, j, none⟩ := by unfold Addr.add; split <;> simp_all

/-! ### 3. A slice of whole numbers that is read; nil, empty and other slices alike -/
def ReadsInt (w : World) (k : IntKind) (A : Option Addr) (n : Nat) (xs : List Int) : Prop :=
  xs.length = n ∧ n ≤ 9223372036854775807 ∧ (0 < n → ∃ ad, A = some ad ∧ ∀ j, j < n → w.cell? (ad.add j) = some (.int k (xs.getD j 0)))
theorem ReadsInt.at_ {w : World} {k : IntKind} {A : Option Addr} {n : Nat} {xs : List Int} (h : ReadsInt w k A n xs) (i : Int) (h0 : 0 ≤ i) (h1 : i < n) : ∃ ad, A = some ad ∧ w.cell? (ad.add i.toNat) = some (.int k (rd xs i)) := by
  obtain ⟨ad, e, hc⟩ := h.2.2 (by omega)
  exact ⟨ad, e, hc _ (by omega)⟩
theorem ReadsInt.below {w w1 : World} {k : IntKind} {A : Option Addr} {n : Nat} {xs : List Int} (h : ReadsInt w k A n xs) (hb : Below w.heap.size w w1) : ReadsInt w1 k A n xs :=
  ⟨h.1, h.2.1, fun hn => by
    obtain ⟨ad, e, hc⟩ := h.2.2 hn
    exact ⟨ad, e, fun j hj => pw_cell_below hb (hc j hj)⟩⟩

/-! ### 4. A row of the call's own -/
theorem own_nil (W : World) (base : Nat) (e : TypeId) (size : Nat) : W.ownsRow base e size (.slice none 0 0) 0 [] := ⟨by simp, .inl ⟨rfl, rfl⟩⟩
theorem own_base {w : World} {base : Nat} {e : TypeId} {size n : Nat} {v : Value} {xs : List Value} (h : w.ownsRow base e size v n xs) (k : Nat) (hk : v.ownBlock = some k) : base ≤ k := by
  rcases h.2 with ⟨rfl, _⟩ | ⟨g, cap, cur, rfl, hb, _⟩
  · simp [Value.ownBlock] at hk
  · have : g = k := by simpa [Value.ownBlock] using hk
    omega
theorem own_lt {w : World} {base : Nat} {e : TypeId} {size n : Nat} {v : Value} {xs : List Value} (h : w.ownsRow base e size v n xs) (k : Nat) (hk : v.ownBlock = some k) : k < w.heap.size := by
  rcases h.2 with ⟨rfl, _⟩ | ⟨g, cap, cur, rfl, hb, hh, _⟩
  · simp [Value.ownBlock] at hk
  · have : g = k := by simpa [Value.ownBlock] using hk
    subst this
    exact (Array.getElem?_eq_some_iff.1 hh).1
theorem pw_own_below {w w1 : World} {base : Nat} {e : TypeId} {size n : Nat} {v : Value} {xs : List Value} (h : w.ownsRow base e size v n xs) (hb : Below w.heap.size w w1) : w1.ownsRow base e size v n xs :=
  h.kept (grown_of_below hb none) (by cases v.ownBlock <;> simp)
/-- What is written is another row: this one lives on. -/
theorem own_other {w w1 : World} {base : Nat} {e : TypeId} {size n : Nat} {v : Value} {xs : List Value} (h : w.ownsRow base e size v n xs) {row : Option Nat} (hg : w.grownBy w1 row) (hne : v.ownBlock = none ∨ v.ownBlock ≠ row) : w1.ownsRow base e size v n xs := h.kept hg hne
theorem own_reads {w : World} {base n : Nat} {e : TypeId} {k : IntKind} {v : Value} {xs : List Int} (h : w.ownsRow base e 1 v n (nums k xs)) : ∃ A c, v = .slice A n c ∧ ReadsInt w k A n xs := by
  have hl : xs.length = n := by have := h.1; simp [nums] at this; exact this
  rcases Nat.eq_zero_or_pos n with h0 | h0
  · rcases h.2 with ⟨rfl, rfl⟩ | ⟨g, cap, cur, rfl, _⟩
    · exact ⟨none, 0, rfl, hl, by omega, fun hp => absurd hp (by omega)⟩
    · exact ⟨_, cap, rfl, hl, by omega, fun hp => absurd hp (by omega)⟩
  · obtain ⟨g, cap, rfl, _, _⟩ := h.form h0
    have hm : n ≤ 9223372036854775807 := by
      rcases h.2 with ⟨_, h1⟩ | ⟨g', cap', cur, he, _, _, h1, h2, _⟩
      · omega
      · simp only [maxLen] at h2
        omega
    refine ⟨_, cap, rfl, hl, hm, fun _ => ⟨_, rfl, fun j hj => h.cells (g := g) rfl j _ ?_⟩⟩
    simp [nums, List.getElem?_eq_getElem (show j < xs.length by omega), List.getD_eq_getElem?_getD]
/-- The shape of whatever is owned. -/
theorem own_slice {w : World} {base n : Nat} {e : TypeId} {size : Nat} {v : Value} {xs : List Value} (h : w.ownsRow base e size v n xs) : ∃ A c, v = .slice A n c := by
  rcases h.2 with ⟨rfl, rfl⟩ | ⟨g, cap, cur, rfl, _⟩
  · exact ⟨none, 0, rfl⟩
  · exact ⟨_, cap, rfl⟩
section
variable {P : Program} {ops : Array Oper} {rest : List Oper} {o : Oper} {a : Act} {Q : Exit → Act → World → Prop}

end

/-! ### 6. make([]T, n), n an Int; a literal -/
section
variable {P : Program}
end
theorem own_lit (W : World) (base : Nat) (e : TypeId) (k : IntKind) (xs : List Int) (hb : base ≤ W.heap.size) (hm : xs.length ≤ 9223372036854775807) :
    (W.alloc (.cells (nums k xs).toArray e)).ownsRow base e 1 (.slice (some ⟨W.heap.size, 0, none⟩) xs.length xs.length) xs.length (nums k xs) := by
  have h := World.ownsRow_lit (base := base) (e := e) (size := 1) W (nums k xs).toArray xs.length hb (by simpa [maxLen] using hm) (by simp [nums])
  simpa using h

/-! ### 7. v[i] read and v[i] = x, v a row of the call's own: 'obtain ⟨g, cap, rfl, hgb, hgl⟩ := HO.out.form (by omega)' first -/
section
variable {P : Program} {ops : Array Oper} {rest : List Oper} {o : Oper} {a : Act} {Q : Exit → Act → World → Prop}
theorem print_append_row {w0 W : World} (base : Nat) (hgd : o.guard = none) (s x : Operand) (t e : TypeId) (k : IntKind) (bytes : Nat)
    (ho : o.op = .call { callee := .builtin .append, args := #[s, x], argTypes := #[t, t] })
    (ht : P.underlying t = some (.slice e)) (hinfo : (P.info? e).map (fun i => (i.zero, i.size, i.bytes)) = some (some (.int k 0), 1, bytes)) (hb0 : 0 < bytes)
    (v : Value) (xs ys : List Int) (A : Option Addr) (m c : Nat) (hs : a.eval s = v) (hx : a.eval x = .slice A m c)
    (HO : W.ownsRow base e 1 v xs.length (nums k xs)) (HR : ReadsInt W k A m ys) (HB : Below base w0 W) (hbase : base ≤ W.heap.size) (hl : (xs.length + m) * bytes ≤ 140737488355328)
    (h : ∀ v1 w1, w1.ownsRow base e 1 v1 (xs ++ ys).length (nums k (xs ++ ys)) → Below base w0 w1 → W.grownBy w1 v.ownBlock → (v1.ownBlock = v.ownBlock ∨ ∃ b, v1.ownBlock = some b ∧ W.heap.size ≤ b) → wpList P ops Q rest (a.put o.dst v1) w1) :
    wpList P ops Q (o :: rest) a W := by
  obtain ⟨i0, hi, hzz⟩ := Option.map_eq_some_iff.1 hinfo
  simp only [Prod.mk.injEq] at hzz
  obtain ⟨hz0, hz1, hz2⟩ := hzz
  have hm : ys.length = m := HR.1
  have hlen : xs.length + m ≤ 140737488355328 := Nat.le_trans (Nat.le_mul_of_pos_right _ hb0) hl
  have hrun : ∃ v1 w1, (Builtin.append_ #[t, t] o.type #[v, .slice A m c]).run P W = .ok v1 w1 ∧ w1.ownsRow base e 1 v1 (xs ++ ys).length (nums k (xs ++ ys)) ∧ W.grownBy w1 v.ownBlock ∧ (v1.ownBlock = v.ownBlock ∨ v1.ownBlock = some W.heap.size) := by
    rcases A with _ | ad
    · have h0 : m = 0 := by
        rcases Nat.eq_zero_or_pos m with h0 | h0
        · exact h0
        · obtain ⟨ad, h, _⟩ := HR.2.2 h0
          cases h
      subst h0
      obtain rfl : ys = [] := List.eq_nil_of_length_eq_zero hm
      refine ⟨v, W, ?_, by simpa using HO, World.grownBy.refl W _, .inl rfl⟩
      rcases HO.2 with ⟨rfl, hn⟩ | ⟨g, cap, cur, rfl, _, _, hnc, _⟩
      · simp [Builtin.append_, run_underlying ht, sizeOf, typeInfo, hi, Builtin.lenOf, Builtin.firstCells]
      · simp [Builtin.append_, run_underlying ht, sizeOf, typeInfo, hi, Builtin.lenOf, Builtin.firstCells, hnc, storeCells]
    · have hcells : ∀ j u, (nums k ys)[j]? = some u → W.cell? (ad.add j) = some u := by
        intro j u hu
        have hj : j < ys.length := by
          rcases Nat.lt_or_ge j ys.length with h | h
          · exact h
          · simp [nums, List.getElem?_eq_none h] at hu
        obtain ⟨ad', h', hc⟩ := HR.2.2 (by omega)
        injection h' with h'
        subst h'
        have := hc j (by omega)
        simp [nums, List.getElem?_eq_getElem hj] at hu
        subst hu
        rw [this]
        simp [List.getD_eq_getElem?_getD, List.getElem?_eq_getElem hj]
      obtain ⟨v1, w1, hr, h2, h3, _, h5⟩ := run_append_own_at (P := P) W base t o.type e i0 (.int k 0) 1 bytes ht hi hz0 hz1 hz2 rfl (by omega) v xs.length (nums k xs) HO ad m c (nums k ys) (by simp [nums, hm]) hcells
        (by intro u hu; simp only [nums, List.mem_map] at hu; obtain ⟨q, _, rfl⟩ := hu; rfl) (by simp only [maxLen]; omega) hl hbase
      exact ⟨v1, w1, hr, by simpa [nums, hm] using h2, h3, h5⟩
  obtain ⟨v1, w1, hr, hown, hg, hat⟩ := hrun
  refine wpList_plain hgd fun K hK => ?_
  unfold Oper.wp execOp
  simp only [ho, resolve, invoke, builtin, Sem.run_bind, Sem.run_pure, Result.andThen_ok, List.map_toArray, List.map_cons, List.map_nil, hs, hx, hr]
  refine hK _ _ (h v1 w1 hown (HB.grown hg hbase (own_base HO)) hg ?_)
  rcases hat with hat | hat
  · exact .inl hat
  · exact .inr ⟨_, hat, Nat.le_refl _⟩
end

/-! ### 9. []byte(s): a slice that is read (its row bears a conversion's mark: no row of one's own); cuts of a slice that is read -/
def bytesOf (s : ByteArray) : List Int := s.data.toList.map fun b => (b.toNat : Int)
theorem data_length (s : ByteArray) : s.data.toList.length = s.size := by rw [Array.length_toList]; rfl
theorem bytesOf_length (s : ByteArray) : (bytesOf s).length = s.size := by rw [bytesOf, List.length_map, data_length]
/-- Laid ahead: 'have kb := fun W => print_bytes (P := A.prog) SRC DST E A.underlyingSRC A.underlyingDST A.underlyingE s W'. -/
theorem print_bytes {P : Program} (src dst e : TypeId) {u : TypeDesc} (hs : P.underlying src = some u) (hd : P.underlying dst = some (.slice e)) (he : P.underlying e = some (.int .u8)) (s : ByteArray) (W : World) :
    (convert src dst (.string s)).run P W = .ok (.slice (some ⟨W.heap.size, 0, none⟩) s.size (grownCap W s.size 0 e)) (Lib.bytesWorld W e s) := Lib.run_convert_string_bytes W src dst e s hs hd he
theorem bytes_reads (W : World) (e : TypeId) (s : ByteArray) (hs : s.size ≤ 9223372036854775807) : ReadsInt (Lib.bytesWorld W e s) .u8 (some ⟨W.heap.size, 0, none⟩) s.size (bytesOf s) := by
  refine ⟨bytesOf_length s, hs, fun _ => ⟨_, rfl, fun j hj => ?_⟩⟩
  rw [add_plain, Lib.bytesWorld_cell W e s j hj]
  have h' : j < s.data.toList.length := by rw [data_length]; exact hj
  simp [bytesOf, List.getD_eq_getElem?_getD, List.getElem?_eq_getElem h']
theorem bytes_below {B : Nat} {w W : World} (h : Below B w W) (hB : B ≤ W.heap.size) (e : TypeId) (s : ByteArray) : Below B w (Lib.bytesWorld W e s) :=
  h.trans ⟨rfl, rfl, rfl, by rw [Lib.bytesWorld_size]; omega, fun i hi => Lib.bytesWorld_at_old W e s i (by omega)⟩
/-- 'xs[:k]' and 'xs[k:]' of a slice that is read; the address of the second as_ the walk has it. -/
theorem ReadsInt.take_ {w : World} {k : IntKind} {A : Option Addr} {n : Nat} {xs : List Int} (h : ReadsInt w k A n xs) (i : Nat) (hi : i ≤ n) : ReadsInt w k A i (xs.take i) := by
  refine ⟨by rw [List.length_take, h.1]; omega, by have := h.2.1; omega, fun hp => ?_⟩
  obtain ⟨ad, e, hc⟩ := h.2.2 (by omega)
  refine ⟨ad, e, fun j hj => ?_⟩
  rw [hc j (by omega)]
  simp [List.getD_eq_getElem?_getD, hj]
/-- Where the first answers, the second answers the same. -/
def LeO {α : Type} (a b : Option α) : Prop := ∀ r, a = some r → b = some r
theorem LeO.refl {α : Type} (a : Option α) : LeO a a := fun _ h => h
theorem LeO.none {α : Type} (b : Option α) : LeO Option.none b := fun _ h => by cases h
theorem LeO.trans {α : Type} {a b c : Option α} (h : LeO a b) (k : LeO b c) : LeO a c := fun r hr => k r (h r hr)
theorem LeO.ite {α : Type} {c : Prop} [Decidable c] {a a' b b' : Option α} (h : LeO a a') (k : LeO b b') : LeO (if c then a else b) (if c then a' else b') := by
  split
  · exact h
  · exact k
theorem LeO.bind {α β : Type} {a a' : Option α} {f f' : α → Option β} (h : LeO a a') (k : ∀ x, LeO (f x) (f' x)) : LeO (a.bind f) (a'.bind f') := by
  intro r hr
  obtain ⟨x, hx, hf⟩ := Option.bind_eq_some_iff.1 hr
  exact Option.bind_eq_some_iff.2 ⟨x, h x hx, k x r hf⟩
theorem LeO.map {α β : Type} {a a' : Option α} (f : α → β) (h : LeO a a') : LeO (a.map f) (a'.map f) := by
  intro r hr
  obtain ⟨x, hx, hf⟩ := Option.map_eq_some_iff.1 hr
  exact Option.map_eq_some_iff.2 ⟨x, h x hx, hf⟩
theorem more_rounds {α : Type} {g : Nat → Option α} (h : ∀ k, LeO (g k) (g (k + 1))) (k : Nat) : ∀ j, LeO (g k) (g (k + j))
  | 0 => LeO.refl _
  | j + 1 => (more_rounds h k j).trans (h (k + j))
theorem at_rounds {α : Type} {g : Nat → Option α} (h : ∀ k, LeO (g k) (g (k + 1))) {k k' : Nat} (hk : k ≤ k') {r : α} (hr : g k = some r) : g k' = some r := by
  have := more_rounds h k (k' - k) r hr
  rwa [Nat.add_sub_cancel' hk] at this
def Reps {α : Type} (R : α → List Value → Prop) (size : Nat) (ps : List α) (cs : List Value) : Prop :=
  cs.length = ps.length * size ∧ ∀ j p, ps[j]? = some p → R p ((cs.drop (j * size)).take size)
theorem Reps.none {α : Type} (R : α → List Value → Prop) (size : Nat) : Reps R size [] [] := ⟨by simp, fun j p h => by simp at h⟩
theorem Reps.snoc {α : Type} {R : α → List Value → Prop} {size : Nat} {ps : List α} {cs c : List Value} {p : α} (h : Reps R size ps cs) (hp : R p c) (hc : c.length = size) : Reps R size (ps ++ [p]) (cs ++ c) := by
  refine ⟨by rw [List.length_append, h.1, hc, List.length_append, List.length_singleton, Nat.add_mul, Nat.one_mul], fun j q hq => ?_⟩
  rcases Nat.lt_or_ge j ps.length with hj | hj
  · rw [List.getElem?_append_left hj] at hq
    have h1 : j * size + size ≤ cs.length := by rw [h.1, ← Nat.succ_mul]; exact Nat.mul_le_mul_right _ hj
    have h2 := h.2 j q hq
    rw [List.drop_append_of_le_length (by omega), List.take_append_of_le_length (by rw [List.length_drop]; omega)]
    exact h2
  · have hj' : j = ps.length := by
      have := (List.getElem?_eq_some_iff.1 hq).1
      rw [List.length_append, List.length_singleton] at this
      omega
    subst hj'
    have hq' : p = q := by simpa using hq
    subst hq'
    rw [← h.1, List.drop_left, ← hc, List.take_length]
    exact hp
theorem Reps.imp_ {α : Type} {R R' : α → List Value → Prop} {size : Nat} {ps : List α} {cs : List Value} (h : Reps R size ps cs) (hR : ∀ p c, R p c → R' p c) : Reps R' size ps cs := ⟨h.1, fun j p hj => hR _ _ (h.2 j p hj)⟩

def ReadsRow {α : Type} (R : α → List Value → Prop) (size : Nat) (w : World) (A : Option Addr) (n : Nat) (ps : List α) : Prop :=
  ps.length = n ∧ n ≤ 9223372036854775807 ∧ (0 < n → ∃ ad, A = some ad ∧ ∀ j p, ps[j]? = some p → ∃ c, c.length = size ∧ R p c ∧ ∀ i u, c[i]? = some u → w.cell? (ad.add (j * size + i)) = some u)
theorem ReadsRow.get_ {α : Type} {R : α → List Value → Prop} {size : Nat} {w : World} {A : Option Addr} {n : Nat} {ps : List α} (h : ReadsRow R size w A n ps) (d : α) (i : Int) (h0 : 0 ≤ i) (h1 : i < n) :
    ∃ ad c, A = some ad ∧ c.length = size ∧ R (ps.getD i.toNat d) c ∧ ∀ j u, c[j]? = some u → w.cell? (ad.add (i.toNat * size + j)) = some u := by
  obtain ⟨ad, e, hc⟩ := h.2.2 (by omega)
  have hl : i.toNat < ps.length := by have := h.1; omega
  obtain ⟨c, hs, hr, hcell⟩ := hc i.toNat _ (List.getElem?_eq_getElem hl)
  refine ⟨ad, c, e, hs, ?_, hcell⟩
  rw [List.getD_eq_getElem?_getD, List.getElem?_eq_getElem hl]
  exact hr
theorem ReadsRow.imp_ {α : Type} {R R' : α → List Value → Prop} {size : Nat} {w w1 : World} {A : Option Addr} {n : Nat} {ps : List α} (h : ReadsRow R size w A n ps) (hb : Below w.heap.size w w1) (hR : ∀ p c, R p c → R' p c) : ReadsRow R' size w1 A n ps :=
  ⟨h.1, h.2.1, fun hn => by
    obtain ⟨ad, e, hc⟩ := h.2.2 hn
    refine ⟨ad, e, fun j p hj => ?_⟩
    obtain ⟨c, hs, hr, hcell⟩ := hc j p hj
    exact ⟨c, hs, hR _ _ hr, fun i u hu => pw_cell_below hb (hcell i u hu)⟩⟩
theorem own_reads_row {α : Type} {R : α → List Value → Prop} {w : World} {base n size : Nat} {e : TypeId} {v : Value} {ps : List α} {cs : List Value} (h : w.ownsRow base e size v n cs) (hR : Reps R size ps cs) (hn : ps.length = n) :
    ∃ A c, v = .slice A n c ∧ ReadsRow R size w A n ps := by
  rcases Nat.eq_zero_or_pos n with h0 | h0
  · rcases h.2 with ⟨rfl, rfl⟩ | ⟨g, cap, cur, rfl, _⟩
    · exact ⟨none, 0, rfl, hn, by omega, fun hp => absurd hp (by omega)⟩
    · exact ⟨_, cap, rfl, hn, by omega, fun hp => absurd hp (by omega)⟩
  · obtain ⟨g, cap, rfl, _, _⟩ := h.form h0
    have hm : n ≤ 9223372036854775807 := by
      rcases h.2 with ⟨_, h1⟩ | ⟨g', cap', cur, he, _, _, h1, h2, _⟩
      · omega
      · simp only [maxLen] at h2
        omega
    refine ⟨_, cap, rfl, hn, hm, fun _ => ⟨_, rfl, fun j p hj => ⟨(cs.drop (j * size)).take size, ?_, hR.2 j p hj, fun i u hu => ?_⟩⟩⟩
    · have hjl := (List.getElem?_eq_some_iff.1 hj).1
      have h1 : j * size + size ≤ cs.length := by rw [hR.1, ← Nat.succ_mul]; exact Nat.mul_le_mul_right _ hjl
      rw [List.length_take, List.length_drop]
      omega
    · refine h.cells (g := g) rfl _ u ?_
      rw [List.getElem?_take] at hu
      split at hu
      · rw [List.getElem?_drop] at hu
        exact hu
      · cases hu
/-- A field's address as_ the walk spells it. -/
theorem add_field (ad : Addr) (m j : Nat) (hj : 0 < j) : ad.add (m + j) = ⟨(ad.add m).block, (ad.add m).off + j, none⟩ := by
  unfold Addr.add
  by_cases hm : m = 0
  · subst hm
    simp [Nat.ne_of_gt hj]
  · simp [hm, Nat.add_assoc]

section
variable {P : Program} {ops : Array Oper} {rest : List Oper} {o : Oper} {a : Act} {Q : Exit → Act → World → Prop}
/-- append(v, x), x of several cells; behind 'at_builtin'; the goal's world is 'W.alloc' of the variadic's box. -/
theorem print_append_cells {w0 W : World} (base : Nat) (hgd : o.guard = none) (s x : Operand) (t e : TypeId) (z : Value) (size bytes : Nat)
    (ho : o.op = .call { callee := .builtin .append, args := #[s, x], argTypes := #[t, t] })
    (ht : P.underlying t = some (.slice e)) (hinfo : (P.info? e).map (fun i => (i.zero, i.size, i.bytes)) = some (some z, size, bytes)) (hz : z.cells.size = size) (hs0 : 0 < size) (hb0 : 0 < bytes)
    (v : Value) (n : Nat) (xs ys : List Value) (hs : a.eval s = v) (hx : a.eval x = .slice (some ⟨W.heap.size, 0, none⟩) 1 1) (hys : ys.length = size) (h1 : ∀ u ∈ ys, u.oneCell' = true)
    (HO : W.ownsRow base e size v n xs) (HB : Below base w0 W) (hbase : base ≤ W.heap.size) (hl : (n + 1) * bytes ≤ 140737488355328)
    (h : ∀ v1 w1, w1.ownsRow base e size v1 (n + 1) (xs ++ ys) → Below base w0 w1 → W.grownBy w1 v.ownBlock → (v1.ownBlock = v.ownBlock ∨ ∃ b, v1.ownBlock = some b ∧ W.heap.size ≤ b) → wpList P ops Q rest (a.put o.dst v1) w1) :
    wpList P ops Q (o :: rest) a (W.alloc (.cells ys.toArray e)) := by
  obtain ⟨i0, hi, hzz⟩ := Option.map_eq_some_iff.1 hinfo
  simp only [Prod.mk.injEq] at hzz
  obtain ⟨hz0, hz1, hz2⟩ := hzz
  have hlen : n + 1 ≤ 140737488355328 := Nat.le_trans (Nat.le_mul_of_pos_right _ hb0) hl
  refine wpList_append_own_at (W.alloc (.cells ys.toArray e)) hgd s x t ho base e i0 z size bytes ht hi hz0 hz1 hz2 hz hs0 v n xs hs (HO.alloc _) ⟨W.heap.size, 0, none⟩ 1 1 ys hx (by rw [hys]; simp)
    (by simpa using World.news_of_block (cs := ys.toArray) (t := e) (fr := (0, 0)) (heap_alloc_new W (.cells ys.toArray e))) h1 (by simp only [maxLen]; omega) hl (by simp; omega) ?_
  intro v1 w1 hown hg _ hat
  refine h v1 w1 hown ((HB.alloc hbase _).grown hg (by simp; omega) (own_base HO)) (World.grownBy.trans (World.grownBy_alloc W _ _) hg) ?_
  rcases hat with hat | hat
  · exact .inl hat
  · exact .inr ⟨_, hat, by simp⟩
end

/-! ### 12. A block of one's own that is a state: its cells, what a store leaves -/
theorem own_ne {w : World} {base : Nat} {e t : TypeId} {size n g : Nat} {v : Value} {xs : List Value} {cs : Array Value} (h : w.ownsRow base e size v n xs) (hg : w.heap[g]? = some (.cells cs t (0, 0))) (hne : e ≠ t) : some g ≠ v.ownBlock := by
  rcases h.2 with ⟨rfl, _⟩ | ⟨g', cap, cur, rfl, _, hh, _⟩
  · simp [Value.ownBlock]
  · intro he
    have : g = g' := by simpa [Value.ownBlock] using he
    subst this
    rw [hg] at hh
    injection hh with hh
    injection hh with _ ht
    exact hne ht.symm
theorem own_setCell {w : World} {base : Nat} {e : TypeId} {size n : Nat} {v : Value} {xs : List Value} (h : w.ownsRow base e size v n xs) {p : Addr} (hne : some p.block ≠ v.ownBlock) (u : Value) : (w.setCell p u).ownsRow base e size v n xs := by
  obtain ⟨h1, h2⟩ := h
  refine ⟨h1, ?_⟩
  rcases h2 with h2 | ⟨g, cap, cur, rfl, hg, hh, r⟩
  · exact .inl h2
  · exact .inr ⟨g, cap, cur, rfl, hg, by rw [Below.heap_setCell _ _ _ _ (fun e => hne (by rw [e]; rfl))]; exact hh, r⟩
theorem blk_set {w : World} {g : Nat} {t : TypeId} {cs : Array Value} (h : w.heap[g]? = some (.cells cs t (0, 0))) (i : Nat) (u : Value) : (w.setCell ⟨g, i, none⟩ u).heap[g]? = some (.cells (cs.setIfInBounds i u) t (0, 0)) := by
  simp [World.setCell, Array.getElem?_modify, h]
theorem blk_far {w : World} {g : Nat} {t : TypeId} {cs : Array Value} (h : w.heap[g]? = some (.cells cs t (0, 0))) {p : Addr} (hp : g ≠ p.block) (u : Value) : (w.setCell p u).heap[g]? = some (.cells cs t (0, 0)) := (Below.heap_setCell w p u g hp).trans h
theorem blk_lt {w : World} {g : Nat} {o : Obj} (h : w.heap[g]? = some o) : g < w.heap.size := (Array.getElem?_eq_some_iff.1 h).1
theorem blk_cell {w : World} {g : Nat} {t : TypeId} {cs : Array Value} (h : w.heap[g]? = some (.cells cs t (0, 0))) (i : Nat) : w.cell? ⟨g, i, none⟩ = cs[i]? := cell_of_row w g i cs t (0, 0) h
theorem blk_frozen {w : World} {g : Nat} {t : TypeId} {cs : Array Value} (h : w.heap[g]? = some (.cells cs t (0, 0))) (i : Nat) : w.frozen? ⟨g, i, none⟩ = false := by simp [World.frozen?, h]
theorem blk_grown {w w1 : World} {g : Nat} {o : Obj} {row : Option Nat} (h : w.heap[g]? = some o) (hg : w.grownBy w1 row) (hne : some g ≠ row) : w1.heap[g]? = some o := (hg.block g (blk_lt h) hne).trans h
def KeepBut (w w' : World) (g : Nat) (row : Option Nat) : Prop := w.heap.size ≤ w'.heap.size ∧ ∀ i, i < w.heap.size → i ≠ g → some i ≠ row → w'.heap[i]? = w.heap[i]?
theorem KeepBut.refl (w : World) (g : Nat) (row : Option Nat) : KeepBut w w g row := ⟨Nat.le_refl _, fun _ _ _ _ => rfl⟩
theorem KeepBut.of_below {w w1 : World} (h : Below w.heap.size w w1) (g : Nat) (row : Option Nat) : KeepBut w w1 g row := ⟨h.size, fun i hi _ _ => h.block i hi⟩
theorem KeepBut.trans {w w1 w2 : World} {g : Nat} {row row1 : Option Nat} (h : KeepBut w w1 g row) (k : KeepBut w1 w2 g row1) (hr : row1 = row ∨ ∃ b, row1 = some b ∧ w.heap.size ≤ b) : KeepBut w w2 g row :=
  ⟨Nat.le_trans h.1 k.1, fun i hi hg hn => by
    refine (k.2 i (Nat.lt_of_lt_of_le hi h.1) hg ?_).trans (h.2 i hi hg hn)
    rcases hr with rfl | ⟨b, rfl, hb⟩
    · exact hn
    · intro e
      injection e with e
      omega⟩
/-- Another block, another row: they live on. -/
theorem KeepBut.blk {w w1 : World} {g g' : Nat} {row : Option Nat} {o : Obj} (h : KeepBut w w1 g row) (hb : w.heap[g']? = some o) (hg : g' ≠ g) (hr : some g' ≠ row) : w1.heap[g']? = some o := (h.2 g' (blk_lt hb) hg hr).trans hb
theorem KeepBut.own {w w1 : World} {g : Nat} {row : Option Nat} {base : Nat} {e : TypeId} {size n : Nat} {v : Value} {xs : List Value} (h : KeepBut w w1 g row) (ho : w.ownsRow base e size v n xs) (hg : v.ownBlock ≠ some g) (hr : v.ownBlock = none ∨ v.ownBlock ≠ row) : w1.ownsRow base e size v n xs := by
  obtain ⟨h1, h2⟩ := ho
  refine ⟨h1, ?_⟩
  rcases h2 with h2 | ⟨b, cap, cur, rfl, hb, hh, r⟩
  · exact .inl h2
  · refine .inr ⟨b, cap, cur, rfl, hb, h.blk hh ?_ ?_, r⟩
    · intro e
      exact hg (by rw [← e]; rfl)
    · rcases hr with hr | hr
      · simp [Value.ownBlock] at hr
      · exact hr
/-! ### 10b. From some number of rounds on -/
def Ev {α : Type} (g : Nat → Option α) (r : α) : Prop := ∃ K, ∀ k, K ≤ k → g k = some r
theorem Ev.of {α : Type} {g : Nat → Option α} {r : α} (hg : ∀ k, LeO (g k) (g (k + 1))) {k : Nat} (h : g k = some r) : Ev g r := ⟨k, fun _ hk => at_rounds hg hk h⟩
theorem Ev.now {α : Type} (r : α) : Ev (fun _ => some r) r := ⟨0, fun _ _ => rfl⟩
theorem Ev.rounds {α : Type} {g : Nat → Option α} {r : α} (h : Ev g r) : ∃ k, g k = some r := by
  obtain ⟨K, h⟩ := h
  exact ⟨K, h K (Nat.le_refl _)⟩
theorem Ev.bind {α β : Type} {g : Nat → Option α} {f : Nat → α → Option β} {a : α} {r : β} (h : Ev g a) (k : Ev (fun n => f n a) r) : Ev (fun n => (g n).bind (f n)) r := by
  obtain ⟨K, h⟩ := h
  obtain ⟨K', k⟩ := k
  refine ⟨max K K', fun n hn => ?_⟩
  have h1 := h n (by omega)
  have h2 := k n (by omega)
  simp only [h1, Option.bind_some]
  exact h2
/-- One round of a loop. -/
theorem Ev.step {α : Type} {g f : Nat → Option α} {r : α} (h : ∀ k, g (k + 1) = f k) (k : Ev f r) : Ev g r := by
  obtain ⟨K, k⟩ := k
  refine ⟨K + 1, fun n hn => ?_⟩
  obtain ⟨m, rfl⟩ : ∃ m, n = m + 1 := ⟨n - 1, by omega⟩
  rw [h]
  exact k m (by omega)
theorem Ev.congr {α : Type} {g f : Nat → Option α} {r : α} (h : ∀ k, g k = f k) (k : Ev f r) : Ev g r := by
  obtain ⟨K, k⟩ := k
  exact ⟨K, fun n hn => (h n).trans (k n hn)⟩
/-! ### 14. append as_ one step of a region that draws its order: for 'go_region_law' (and a region walked by hand) -/
section
variable {P : Program} {ops : Array Oper} {o : Oper} {a : Act} {Q : Exit → Act → World → Prop} {K : Act → World → Prop}
end
/-! ### 15. A row's base may be lowered -/
theorem own_weaken {w : World} {base base' : Nat} {e : TypeId} {size n : Nat} {v : Value} {xs : List Value} (h : w.ownsRow base e size v n xs) (hb : base' ≤ base) : w.ownsRow base' e size v n xs := by
  obtain ⟨h1, h2⟩ := h
  refine ⟨h1, ?_⟩
  rcases h2 with h2 | ⟨g, cap, cur, rfl, hg, r⟩
  · exact .inl h2
  · exact .inr ⟨g, cap, cur, rfl, Nat.le_trans hb hg, r⟩
/-! ### 16. Parts 3 to 9 for ANY element of one cell: 'enc' (Value.int k, Value.string, Value.bool), a default 'd' -/
section
variable {α : Type} {enc : α → Value} {d : α}
def rdOf (d : α) (xs : List α) (i : Int) : α := xs.getD i.toNat d
def ReadsOf (enc : α → Value) (d : α) (w : World) (A : Option Addr) (n : Nat) (xs : List α) : Prop :=
  xs.length = n ∧ n ≤ 9223372036854775807 ∧ (0 < n → ∃ ad, A = some ad ∧ ∀ j, j < n → w.cell? (ad.add j) = some (enc (xs.getD j d)))
theorem ReadsOf.at_ {w : World} {A : Option Addr} {n : Nat} {xs : List α} (h : ReadsOf enc d w A n xs) (i : Int) (h0 : 0 ≤ i) (h1 : i < n) : ∃ ad, A = some ad ∧ w.cell? (ad.add i.toNat) = some (enc (rdOf d xs i)) := by
  obtain ⟨ad, e, hc⟩ := h.2.2 (by omega)
  exact ⟨ad, e, hc _ (by omega)⟩
theorem ReadsOf.below {w w1 : World} {A : Option Addr} {n : Nat} {xs : List α} (h : ReadsOf enc d w A n xs) (hb : Below w.heap.size w w1) : ReadsOf enc d w1 A n xs :=
  ⟨h.1, h.2.1, fun hn => by
    obtain ⟨ad, e, hc⟩ := h.2.2 hn
    exact ⟨ad, e, fun j hj => pw_cell_below hb (hc j hj)⟩⟩
theorem ReadsOf.take_ {w : World} {A : Option Addr} {n : Nat} {xs : List α} (h : ReadsOf enc d w A n xs) (i : Nat) (hi : i ≤ n) : ReadsOf enc d w A i (xs.take i) := by
  refine ⟨by rw [List.length_take, h.1]; omega, by have := h.2.1; omega, fun hp => ?_⟩
  obtain ⟨ad, e, hc⟩ := h.2.2 (by omega)
  refine ⟨ad, e, fun j hj => ?_⟩
  rw [hc j (by omega)]
  simp [List.getD_eq_getElem?_getD, hj]
end
section
variable {α : Type} {P : Program} {ops : Array Oper} {rest : List Oper} {o : Oper} {a : Act} {Q : Exit → Act → World → Prop}
end

/-! ### 17. Rows of one element type held at once: no two share a block -/
theorem blk_new (w : World) (o : Obj) : (w.alloc o).heap[w.heap.size]? = some o := heap_alloc_new w o
/-! ### 19. Results that lie in memory beside others -/
section
variable {P : Program}
theorem results_ct {fn : Func} {p u : Tmp} {ty : TypeId} (h : fn.results = #[.cell p ty, .tmp u]) (tmps : Array Value) (w : World) (g : Nat) (t : TypeId) (cs : Array Value) (fr : Nat × Nat) (d : TypeDesc)
    (hp : tmps.getD p undef = .pointer (some ⟨g, 0, none⟩)) (hg : w.heap[g]? = some (.cells cs t fr))
    (hu : P.underlying ty = some d) (hd : (match d with | .struct _ | .array _ _ => true | _ => false) = true) (hi : (P.info? ty).map (·.size) = some cs.size) :
    (results fn tmps).run P w = .ok (.tuple #[.agg cs, tmps.getD u undef]) w := by
  have hp' : tmps[p]?.getD undef = .pointer (some ⟨g, 0, none⟩) := by simpa using hp
  simp [results, h, hp', asAddr, run_loadVar_row w g t ty cs fr d hg hu hd hi]
end
/-! ### 20. Rows of elements of any kind: R is what an element's cells say -/
theorem own_le {w : World} {base n m c size : Nat} {e : TypeId} {A : Option Addr} {xs : List Value} (h : w.ownsRow base e size (.slice A m c) n xs) : m ≤ c := by
  rcases h.2 with ⟨he, _⟩ | ⟨g, cap, cur, he, _, _, hnc, _⟩
  · injection he with _ h2 h3
    omega
  · injection he with _ h2 h3
    omega
def OwnRow {α : Type} (R : α → List Value → Prop) (e : TypeId) (size : Nat) (w : World) (base : Nat) (v : Value) (ps : List α) : Prop :=
  ∃ inner, w.ownsRow base e size v ps.length inner ∧ Reps R size ps inner
section
variable {α : Type} {R R' : α → List Value → Prop} {e : TypeId} {size : Nat} {w w1 : World} {base : Nat} {v : Value} {ps : List α}
theorem OwnRow.none_ (R : α → List Value → Prop) (e : TypeId) (size : Nat) (w : World) (base : Nat) : OwnRow R e size w base (.slice none 0 0) [] := ⟨[], own_nil _ _ _ _, Reps.none _ _⟩
theorem OwnRow.imp_ (h : OwnRow R e size w base v ps) (hR : ∀ p c, R p c → R' p c) : OwnRow R' e size w base v ps := by
  obtain ⟨inner, ho, hr⟩ := h
  exact ⟨inner, ho, hr.imp_ hR⟩
theorem OwnRow.below (h : OwnRow R e size w base v ps) (hb : Below w.heap.size w w1) : OwnRow R e size w1 base v ps := by
  obtain ⟨inner, ho, hr⟩ := h
  exact ⟨inner, pw_own_below ho hb, hr⟩
theorem OwnRow.other (h : OwnRow R e size w base v ps) {row : Option Nat} (hg : w.grownBy w1 row) (hne : v.ownBlock = none ∨ v.ownBlock ≠ row) : OwnRow R e size w1 base v ps := by
  obtain ⟨inner, ho, hr⟩ := h
  exact ⟨inner, own_other ho hg hne, hr⟩
theorem OwnRow.keep (h : OwnRow R e size w base v ps) {g : Nat} {t : TypeId} {cells : Array Value} (hb : w.heap[g]? = some (.cells cells t (0, 0))) (ht : e ≠ t) (hk : KeepBut w w1 g none) : OwnRow R e size w1 base v ps := by
  obtain ⟨inner, ho, hr⟩ := h
  exact ⟨inner, hk.own ho (Ne.symm (own_ne ho hb ht)) (by cases v.ownBlock <;> simp), hr⟩
theorem OwnRow.reads (h : OwnRow R e size w base v ps) : ∃ A c, v = .slice A ps.length c ∧ ps.length ≤ c ∧ ReadsRow R size w A ps.length ps := by
  obtain ⟨inner, ho, hr⟩ := h
  obtain ⟨A, c, rfl, hrow⟩ := own_reads_row ho hr rfl
  exact ⟨A, c, rfl, own_le ho, hrow⟩
/-- A literal: the elements' cells one behind the other. -/
theorem OwnRow.lit (W : World) (base : Nat) {inner : List Value} (hr : Reps R size ps inner) (hb : base ≤ W.heap.size) (hm : ps.length ≤ 9223372036854775807) :
    OwnRow R e size (W.alloc (.cells inner.toArray e)) base (.slice (some ⟨W.heap.size, 0, none⟩) ps.length ps.length) ps := by
  have h := World.ownsRow_lit (base := base) (e := e) (size := size) W inner.toArray ps.length hb (by simpa [maxLen] using hm) (by simpa using hr.1)
  exact ⟨inner, by simpa using h, hr⟩
end
section
variable {P : Program} {ops : Array Oper} {rest : List Oper} {o : Oper} {a : Act} {Q : Exit → Act → World → Prop} {α : Type} {R : α → List Value → Prop}
/-- append(v, x): x's cells are cs. R is that of the world AHEAD; move it over hg ('OwnRow.imp_'). -/
theorem OwnRow.append {w0 W : World} (base : Nat) (hgd : o.guard = none) (s x : Operand) (t e : TypeId) (z : Value) (size bytes : Nat)
    (ho : o.op = .call { callee := .builtin .append, args := #[s, x], argTypes := #[t, t] })
    (ht : P.underlying t = some (.slice e)) (hinfo : (P.info? e).map (fun i => (i.zero, i.size, i.bytes)) = some (some z, size, bytes)) (hz : z.cells.size = size) (hs0 : 0 < size) (hb0 : 0 < bytes)
    (v : Value) (ps : List α) (p : α) (cs : List Value) (hs : a.eval s = v) (hx : a.eval x = .slice (some ⟨W.heap.size, 0, none⟩) 1 1) (hp : R p cs) (hcs : cs.length = size) (h1 : ∀ u ∈ cs, u.oneCell' = true)
    (HO : OwnRow R e size W base v ps) (HB : Below base w0 W) (hbase : base ≤ W.heap.size) (hl : (ps.length + 1) * bytes ≤ 140737488355328)
    (h : ∀ v1 w1, OwnRow R e size w1 base v1 (ps ++ [p]) → Below base w0 w1 → W.grownBy w1 v.ownBlock → (v1.ownBlock = v.ownBlock ∨ ∃ b, v1.ownBlock = some b ∧ W.heap.size ≤ b) → wpList P ops Q rest (a.put o.dst v1) w1) :
    wpList P ops Q (o :: rest) a (W.alloc (.cells cs.toArray e)) := by
  obtain ⟨inner, hown, hr⟩ := HO
  refine print_append_cells base hgd s x t e z size bytes ho ht hinfo hz hs0 hb0 v ps.length inner cs hs hx hcs h1 hown HB hbase hl ?_
  intro v1 w1 hown1 hb1 hg1 hat1
  exact h v1 w1 ⟨inner ++ cs, by rw [List.length_append, List.length_singleton]; exact hown1, hr.snoc hp hcs⟩ hb1 hg1 hat1
end
section
variable {P : Program} {ops : Array Oper} {o : Oper} {a : Act} {Q : Exit → Act → World → Prop} {K : Act → World → Prop} {α : Type} {R : α → List Value → Prop}
end
/-- What is read as_ a row has its cells one behind the other. -/
theorem ReadsRow.inner_ {α : Type} {R : α → List Value → Prop} {size : Nat} {w : World} {ad : Addr} {n : Nat} {ps : List α} (h : ReadsRow R size w (some ad) n ps) :
    ∃ inner, Reps R size ps inner ∧ ∀ j u, inner[j]? = some u → w.cell? (ad.add j) = some u := by
  have key : ∀ m, m ≤ ps.length → ∃ inner, Reps R size (ps.take m) inner ∧ ∀ j u, inner[j]? = some u → w.cell? (ad.add j) = some u := by
    intro m
    induction m with
    | zero => exact fun _ => ⟨[], Reps.none _ _, fun j u hu => by simp at hu⟩
    | succ m ih =>
      intro hm
      obtain ⟨inner, hr, hc⟩ := ih (by omega)
      obtain ⟨ad', he, hcell⟩ := h.2.2 (by have := h.1; omega)
      injection he with he
      subst he
      obtain ⟨c, hcl, hp, hcc⟩ := hcell m _ (List.getElem?_eq_getElem (show m < ps.length by omega))
      refine ⟨inner ++ c, ?_, fun j u hu => ?_⟩
      · rw [List.take_succ_eq_append_getElem (show m < ps.length by omega)]
        exact hr.snoc hp hcl
      · have hil : inner.length = m * size := by rw [hr.1, List.length_take, Nat.min_eq_left (by omega)]
        rcases Nat.lt_or_ge j inner.length with hj | hj
        · rw [List.getElem?_append_left hj] at hu
          exact hc j u hu
        · rw [List.getElem?_append_right hj] at hu
          have := hcc (j - inner.length) u hu
          rwa [hil, Nat.add_sub_cancel' (by omega)] at this
  obtain ⟨inner, hr, hc⟩ := key ps.length (Nat.le_refl _)
  rw [List.take_length] at hr
  exact ⟨inner, hr, hc⟩
/-! ### 21. Cuts of a slice that came in, lengths spelled as_ the lists' -/
section
variable {α : Type} {P : Program}
end

/-! ### 22. append([]byte, s...), s a string; behind 'at_builtin'. (No word on where the new row lies: two rows of bytes at once don't go by it.) -/
section
variable {P : Program} {ops : Array Oper} {rest : List Oper} {o : Oper} {a : Act} {Q : Exit → Act → World → Prop}
end
/-! ### 23. KINDS: what a value's cells say, read (K) and made (M), kind by kind; every mover proved once -/
/-- ok: which blocks the rows inside may be ('not the row that is being written'). -/
structure Kd (α : Type) where
  sz : Nat
  E : List Nat
  K : World → α → List Value → Prop
  M : World → Nat → (Nat → Prop) → α → List Value → Prop
  K_len : ∀ {w x cs}, K w x cs → cs.length = sz
  K_one : ∀ {w x cs}, K w x cs → ∀ u ∈ cs, u.oneCell' = true
  K_below : ∀ {w w1 : World} {x cs}, Below w.heap.size w w1 → K w x cs → K w1 x cs
  K_of_M : ∀ {w base ok x cs}, M w base ok x cs → K w x cs
  M_mono : ∀ {w base ok ok' x cs}, (∀ k, ok k → ok' k) → M w base ok x cs → M w base ok' x cs
  M_bound : ∀ {w : World} {base ok x cs}, M w base ok x cs → M w base (fun k => ok k ∧ base ≤ k ∧ k < w.heap.size ∧ ∃ q, q ∈ E ∧ ∃ cells, w.heap[k]? = some (.cells cells q (0, 0))) x cs
  M_move : ∀ {w w1 : World} {base ok x cs}, (∀ k, ok k → w1.heap[k]? = w.heap[k]?) → M w base ok x cs → M w1 base ok x cs
  M_lower : ∀ {w base base' ok x cs}, base' ≤ base → M w base ok x cs → M w base' ok x cs

theorem own_move {w w1 : World} {base : Nat} {e : TypeId} {size n : Nat} {v : Value} {xs : List Value} (h : w.ownsRow base e size v n xs) (hm : ∀ k, v.ownBlock = some k → w1.heap[k]? = w.heap[k]?) : w1.ownsRow base e size v n xs := by
  obtain ⟨h1, h2⟩ := h
  refine ⟨h1, ?_⟩
  rcases h2 with h2 | ⟨g, cap, cur, rfl, hg, hh, r⟩
  · exact .inl h2
  · exact .inr ⟨g, cap, cur, rfl, hg, (hm g (by simp [Value.ownBlock])).trans hh, r⟩
theorem own_typed {w : World} {base : Nat} {e : TypeId} {size n : Nat} {v : Value} {xs : List Value} (h : w.ownsRow base e size v n xs) (k : Nat) (hk : v.ownBlock = some k) : ∃ cells, w.heap[k]? = some (.cells cells e (0, 0)) := by
  rcases h.2 with ⟨rfl, _⟩ | ⟨g, cap, cur, rfl, hg, hh, r⟩
  · simp [Value.ownBlock] at hk
  · have : g = k := by simpa [Value.ownBlock] using hk
    subst this
    exact ⟨cur, hh⟩

namespace Kd
/-- A row of elements that is read. -/
def C {α : Type} (d : Kd α) (w : World) (A : Option Addr) (n : Nat) (xs : List α) : Prop := ReadsRow (d.K w) d.sz w A n xs
/-- A row of elements (type e) of the call's own; the elements' rows are not this one. -/
def R {α : Type} (d : Kd α) (e : Nat) (w : World) (base : Nat) (ok : Nat → Prop) (v : Value) (xs : List α) : Prop :=
  (∀ k, v.ownBlock = some k → ok k) ∧ OwnRow (d.M w base (fun k => ok k ∧ some k ≠ v.ownBlock)) e d.sz w base v xs
section
variable {α : Type} {d : Kd α} {e : Nat} {w w1 : World} {base : Nat} {ok ok' : Nat → Prop} {v : Value} {xs : List α}
theorem C_below {A : Option Addr} {n : Nat} (h : d.C w A n xs) (hb : Below w.heap.size w w1) : d.C w1 A n xs := ReadsRow.imp_ h hb (fun _ _ hp => d.K_below hb hp)
theorem R_nil (d : Kd α) (e : Nat) (w : World) (base : Nat) (ok : Nat → Prop) : d.R e w base ok (.slice none 0 0) [] := ⟨fun k hk => by simp [Value.ownBlock] at hk, OwnRow.none_ _ _ _ _ _⟩
theorem R_mono (h : d.R e w base ok v xs) (hok : ∀ k, ok k → ok' k) : d.R e w base ok' v xs := ⟨fun k hk => hok k (h.1 k hk), h.2.imp_ (fun _ _ hp => d.M_mono (fun k hk => ⟨hok k hk.1, hk.2⟩) hp)⟩
theorem R_bound (h : d.R e w base ok v xs) : d.R e w base (fun k => ok k ∧ base ≤ k ∧ k < w.heap.size ∧ ∃ q, q ∈ e :: d.E ∧ ∃ cells, w.heap[k]? = some (.cells cells q (0, 0))) v xs := by
  obtain ⟨h0, inner, ho, hr⟩ := h
  refine ⟨fun k hk => ?_, inner, ho, hr.imp_ (fun _ _ hp => d.M_mono (fun k hk => ?_) (d.M_bound hp))⟩
  · obtain ⟨cells, hc⟩ := own_typed ho k hk
    exact ⟨h0 k hk, own_base ho k hk, own_lt ho k hk, e, List.mem_cons_self, cells, hc⟩
  · obtain ⟨⟨h1, h2⟩, h3, h4, q, hq, hc⟩ := hk
    exact ⟨⟨h1, h3, h4, q, List.mem_cons_of_mem _ hq, hc⟩, h2⟩
theorem R_move (h : d.R e w base ok v xs) (hm : ∀ k, ok k → w1.heap[k]? = w.heap[k]?) : d.R e w1 base ok v xs := by
  obtain ⟨h0, inner, ho, hr⟩ := h
  exact ⟨h0, inner, own_move ho (fun k hk => hm k (h0 k hk)), hr.imp_ (fun _ _ hp => d.M_move (fun k hk => hm k hk.1) hp)⟩
theorem R_lower {base' : Nat} (h : d.R e w base ok v xs) (hb : base' ≤ base) : d.R e w base' ok v xs := by
  obtain ⟨h0, inner, ho, hr⟩ := h
  exact ⟨h0, inner, own_weaken ho hb, hr.imp_ (fun _ _ hp => d.M_lower hb hp)⟩
/-- Any mover: what is ok, and a block of w's, stays. -/
theorem R_step (h : d.R e w base ok v xs) (hm : ∀ k, ok k → k < w.heap.size → w1.heap[k]? = w.heap[k]?) : d.R e w1 base ok v xs :=
  R_mono (R_move (R_bound h) (fun k hk => hm k hk.1 hk.2.2.1)) (fun _ hk => hk.1)
theorem M_step {x : α} {cs : List Value} (h : d.M w base ok x cs) (hm : ∀ k, ok k → k < w.heap.size → w1.heap[k]? = w.heap[k]?) : d.M w1 base ok x cs :=
  d.M_mono (fun _ hk => hk.1) (d.M_move (fun k hk => hm k hk.1 hk.2.2.1) (d.M_bound h))
theorem R_below (h : d.R e w base ok v xs) (hb : Below w.heap.size w w1) : d.R e w1 base ok v xs := R_step h (fun k _ hk => hb.block k hk)
theorem M_below {x : α} {cs : List Value} (h : d.M w base ok x cs) (hb : Below w.heap.size w w1) : d.M w1 base ok x cs := M_step h (fun k _ hk => hb.block k hk)
theorem R_reads (h : d.R e w base ok v xs) : ∃ A c, v = .slice A xs.length c ∧ xs.length ≤ c ∧ d.C w A xs.length xs := by
  obtain ⟨A, c, he, hl, hr⟩ := OwnRow.reads h.2
  exact ⟨A, c, he, hl, hr.imp_ (Below.refl _ _) (fun _ _ hp => d.K_of_M hp)⟩
theorem R_slice (h : d.R e w base ok v xs) : ∃ A c, v = .slice A xs.length c := by
  obtain ⟨A, c, he, _⟩ := R_reads h
  exact ⟨A, c, he⟩
theorem R_own (h : d.R e w base ok v xs) : ∃ inner, w.ownsRow base e d.sz v xs.length inner := by
  obtain ⟨_, inner, ho, _⟩ := h
  exact ⟨inner, ho⟩
end

/-! #### the kinds -/
def scalar {α : Type} (enc : α → Value) (h1 : ∀ x, (enc x).oneCell' = true) : Kd α where
  sz := 1
  E := []
  K := fun _ x cs => cs = [enc x]
  M := fun _ _ _ x cs => cs = [enc x]
  K_len := fun h => by rw [h]; rfl
  K_one := fun h u hu => by
    rw [h] at hu
    rw [List.mem_singleton.1 hu]
    exact h1 _
  K_below := fun _ h => h
  K_of_M := fun h => h
  M_mono := fun _ h => h
  M_bound := fun h => h
  M_move := fun _ h => h
  M_lower := fun _ h => h
def int (k : IntKind) : Kd Int := scalar (Value.int k) (fun _ => rfl)
def bool : Kd Bool := scalar Value.bool (fun _ => rfl)
def string : Kd ByteArray := scalar Value.string (fun _ => rfl)
def slice {α : Type} (e : Nat) (d : Kd α) : Kd (List α) where
  sz := 1
  E := e :: d.E
  K := fun w xs cs => ∃ A c, cs = [.slice A xs.length c] ∧ xs.length ≤ c ∧ d.C w A xs.length xs
  M := fun w base ok xs cs => ∃ v, cs = [v] ∧ d.R e w base ok v xs
  K_len := by
    rintro w x cs ⟨A, c, rfl, _⟩
    rfl
  K_one := by
    rintro w x cs ⟨A, c, rfl, _⟩ u hu
    rw [List.mem_singleton.1 hu]
    rfl
  K_below := by
    rintro w w1 x cs hb ⟨A, c, rfl, hl, hr⟩
    exact ⟨A, c, rfl, hl, C_below hr hb⟩
  K_of_M := by
    rintro w base ok x cs ⟨v, rfl, h⟩
    obtain ⟨A, c, rfl, hl, hr⟩ := R_reads h
    exact ⟨A, c, rfl, hl, hr⟩
  M_mono := by
    rintro w base ok ok' x cs hok ⟨v, rfl, h⟩
    exact ⟨v, rfl, R_mono h hok⟩
  M_bound := by
    rintro w base ok x cs ⟨v, rfl, h⟩
    exact ⟨v, rfl, R_bound h⟩
  M_move := by
    rintro w w1 base ok x cs hm ⟨v, rfl, h⟩
    exact ⟨v, rfl, R_move h hm⟩
  M_lower := by
    rintro w base base' ok x cs hb ⟨v, rfl, h⟩
    exact ⟨v, rfl, R_lower h hb⟩
/-- Two in line. -/
def pair {α β : Type} (a : Kd α) (b : Kd β) : Kd (α × β) where
  sz := a.sz + b.sz
  E := a.E ++ b.E
  K := fun w x cs => ∃ c0 c1, cs = c0 ++ c1 ∧ a.K w x.1 c0 ∧ b.K w x.2 c1
  M := fun w base ok x cs => ∃ c0 c1, cs = c0 ++ c1 ∧ a.M w base ok x.1 c0 ∧ b.M w base ok x.2 c1
  K_len := by
    rintro w x cs ⟨c0, c1, rfl, h0, h1⟩
    rw [List.length_append, a.K_len h0, b.K_len h1]
  K_one := by
    rintro w x cs ⟨c0, c1, rfl, h0, h1⟩ u hu
    rcases List.mem_append.1 hu with hu | hu
    · exact a.K_one h0 u hu
    · exact b.K_one h1 u hu
  K_below := by
    rintro w w1 x cs hb ⟨c0, c1, rfl, h0, h1⟩
    exact ⟨c0, c1, rfl, a.K_below hb h0, b.K_below hb h1⟩
  K_of_M := by
    rintro w base ok x cs ⟨c0, c1, rfl, h0, h1⟩
    exact ⟨c0, c1, rfl, a.K_of_M h0, b.K_of_M h1⟩
  M_mono := by
    rintro w base ok ok' x cs hok ⟨c0, c1, rfl, h0, h1⟩
    exact ⟨c0, c1, rfl, a.M_mono hok h0, b.M_mono hok h1⟩
  M_bound := by
    rintro w base ok x cs ⟨c0, c1, rfl, h0, h1⟩
    refine ⟨c0, c1, rfl, a.M_mono ?_ (a.M_bound h0), b.M_mono ?_ (b.M_bound h1)⟩
    · rintro k ⟨h2, h3, h4, q, hq, hc⟩
      exact ⟨h2, h3, h4, q, List.mem_append_left _ hq, hc⟩
    · rintro k ⟨h2, h3, h4, q, hq, hc⟩
      exact ⟨h2, h3, h4, q, List.mem_append_right _ hq, hc⟩
  M_move := by
    rintro w w1 base ok x cs hm ⟨c0, c1, rfl, h0, h1⟩
    exact ⟨c0, c1, rfl, a.M_move hm h0, b.M_move hm h1⟩
  M_lower := by
    rintro w base base' ok x cs hb ⟨c0, c1, rfl, h0, h1⟩
    exact ⟨c0, c1, rfl, a.M_lower hb h0, b.M_lower hb h1⟩
/-- A Lean structure by its fields. -/
def iso {α β : Type} (d : Kd α) (f : β → α) : Kd β where
  sz := d.sz
  E := d.E
  K := fun w x cs => d.K w (f x) cs
  M := fun w base ok x cs => d.M w base ok (f x) cs
  K_len := d.K_len
  K_one := d.K_one
  K_below := d.K_below
  K_of_M := d.K_of_M
  M_mono := d.M_mono
  M_bound := d.M_bound
  M_move := d.M_move
  M_lower := d.M_lower
/-- Nothing is of this kind: where the nesting's depth is used up. -/
def bot {α : Type} (sz : Nat) (E : List Nat) : Kd α where
  sz := sz
  E := E
  K := fun _ _ _ => False
  M := fun _ _ _ _ _ => False
  K_len := fun h => h.elim
  K_one := fun h => h.elim
  K_below := fun _ h => h
  K_of_M := fun h => h
  M_mono := fun _ h => h
  M_bound := fun h => h
  M_move := fun _ h => h
  M_lower := fun _ h => h
/-- A type nested in itself: nested at most n deep .. -/
def upto {α : Type} (F : Kd α → Kd α) (sz : Nat) (E : List Nat) : Nat → Kd α
  | 0 => bot sz E
  | n + 1 => F (upto F sz E n)
theorem C_get {α : Type} {d : Kd α} {w : World} {A : Option Addr} {n : Nat} {xs : List α} (h : d.C w A n xs) (z : α) (i : Int) (h0 : 0 ≤ i) (h1 : i < n) :
    ∃ ad c, A = some ad ∧ c.length = d.sz ∧ d.K w (xs.getD i.toNat z) c ∧ ∀ j u, c[j]? = some u → w.cell? (ad.add (i.toNat * d.sz + j)) = some u := ReadsRow.get_ h z i h0 h1
section
variable {P : Program} {ops : Array Oper} {rest : List Oper} {o : Oper} {a : Act} {Q : Exit → Act → World → Prop} {α : Type}
end
section
variable {P : Program} {ops : Array Oper} {o : Oper} {a : Act} {Q : Exit → Act → World → Prop} {Kc : Act → World → Prop} {α : Type}
end
theorem C_of_reads {α : Type} {enc : α → Value} {d : α} {h1 : ∀ x, (enc x).oneCell' = true} {w : World} {A : Option Addr} {n : Nat} {xs : List α} (h : ReadsOf enc d w A n xs) : (scalar enc h1).C w A n xs := by
  refine ⟨h.1, h.2.1, fun hn => ?_⟩
  obtain ⟨ad, e, hc⟩ := h.2.2 hn
  refine ⟨ad, e, fun j p hj => ⟨[enc p], rfl, rfl, fun i u hu => ?_⟩⟩
  obtain ⟨hl, hp⟩ := List.getElem?_eq_some_iff.1 hj
  have h2 := hc j (by have := h.1; omega)
  rw [List.getD_eq_getElem?_getD, hj] at h2
  cases i with
  | zero =>
    have : enc p = u := by simpa using hu
    subst this
    simpa [scalar] using h2
  | succ i => simp at hu
theorem reads_of_C {α : Type} {enc : α → Value} {d : α} {h1 : ∀ x, (enc x).oneCell' = true} {w : World} {A : Option Addr} {n : Nat} {xs : List α} (h : (scalar enc h1).C w A n xs) : ReadsOf enc d w A n xs := by
  refine ⟨h.1, h.2.1, fun hn => ?_⟩
  obtain ⟨ad, e, hc⟩ := h.2.2 hn
  refine ⟨ad, e, fun j hj => ?_⟩
  have hl : j < xs.length := by have := h.1; omega
  obtain ⟨c, _, hK, hcell⟩ := hc j _ (List.getElem?_eq_getElem hl)
  have hK' : c = [enc xs[j]] := hK
  subst hK'
  have := hcell 0 _ rfl
  simpa [scalar, List.getD_eq_getElem?_getD, List.getElem?_eq_getElem hl] using this
end Kd
/-! ### 24. Kinds nested in themselves -/
namespace Kd
section
variable {α : Type} {F : Kd α → Kd α} {sz : Nat} {E : List Nat} {hs : ∀ n, (upto F sz E n).sz = sz} {hE : ∀ n q, q ∈ (upto F sz E n).E → q ∈ E}
end
end Kd
/-! ### 25. What is held while another row is written: 'ok' says that its rows are none of that row's block -/
namespace Kd
/-- Behind an append to v (it left v1): what is held apart from v is held apart from v1. -/
theorem R_after {α : Type} {d : Kd α} {e base : Nat} {ok : Nat → Prop} {W w1 : World} {u v v1 : Value} {xs : List α} (h : d.R e W base (fun k => ok k ∧ some k ≠ v.ownBlock) u xs) (hg : W.grownBy w1 v.ownBlock) (hat : v1.ownBlock = v.ownBlock ∨ ∃ b, v1.ownBlock = some b ∧ W.heap.size ≤ b) : d.R e w1 base (fun k => ok k ∧ some k ≠ v1.ownBlock) u xs := by
  refine R_mono (R_move (R_bound h) (fun k hk => hg.block k hk.2.2.1 hk.1.2)) (fun k hk => ⟨hk.1.1, ?_⟩)
  rcases hat with hat | ⟨b, hb, hle⟩
  · rw [hat]; exact hk.1.2
  · rw [hb]
    intro he
    injection he with he
    have := hk.2.2.1
    omega
end Kd
/-! ### 26. Words for a printer that takes every slice by its kind -/
namespace Kd
section
variable {α β : Type} {d : Kd α} {d' : Kd β} {e e' : Nat} {w w1 W : World} {base b b' : Nat} {ok ok' okv oku : Nat → Prop} {v u : Value} {xs : List α} {ys : List β}
theorem R_alloc (h : d.R e w base ok v xs) (o : Obj) : d.R e (w.alloc o) base ok v xs := R_below h (below_alloc (Below.refl _ _) o)
theorem R_drew (h : d.R e w base ok v xs) : d.R e w.drew base ok v xs := R_below h (below_drew (Below.refl _ _))
theorem R_drewN (h : d.R e w base ok v xs) (m : Nat) : d.R e (w.drewN m) base ok v xs := R_below h (pw_below_drewN (Below.refl _ _) m)
theorem C_alloc {A : Option Addr} {n : Nat} (h : d.C w A n xs) (o : Obj) : d.C (w.alloc o) A n xs := C_below h (below_alloc (Below.refl _ _) o)
theorem C_drew {A : Option Addr} {n : Nat} (h : d.C w A n xs) : d.C w.drew A n xs := C_below h (below_drew (Below.refl _ _))
theorem C_drewN {A : Option Addr} {n : Nat} (h : d.C w A n xs) (m : Nat) : d.C (w.drewN m) A n xs := C_below h (pw_below_drewN (Below.refl _ _) m)
theorem C_nil (d : Kd α) (w : World) : d.C w none ([] : List α).length [] := ⟨rfl, by simp, fun h => absurd h (Nat.lt_irrefl 0)⟩
theorem R_reads' {A : Option Addr} {n c : Nat} (h : d.R e w base ok (.slice A n c) xs) : n = xs.length ∧ n ≤ c ∧ d.C w A xs.length xs := by
  obtain ⟨A', c', he, hl, hr⟩ := R_reads h
  injection he with h1 h2 h3
  subst h1
  exact ⟨h2, by omega, hr⟩
theorem R_lt (h : d.R e w base ok v xs) : ∀ k, v.ownBlock = some k → k < w.heap.size := by
  obtain ⟨inner, ho⟩ := R_own h
  exact own_lt ho
theorem R_base (h : d.R e w base ok v xs) : ∀ k, v.ownBlock = some k → base ≤ k := by
  obtain ⟨inner, ho⟩ := R_own h
  exact own_base ho
end
/-! #### scalars -/
section
variable {w W : World} {A : Option Addr} {n : Nat}
theorem at_int {k : IntKind} {xs : List Int} (h : (Kd.int k).C w A n xs) (i : Int) (h0 : 0 ≤ i) (h1 : i < n) : ∃ ad, A = some ad ∧ w.cell? (ad.add i.toNat) = some (.int k (rd xs i)) :=
  ReadsOf.at_ (reads_of_C (enc := Value.int k) (d := (0 : Int)) (h1 := fun _ => rfl) h) i h0 h1
variable {α : Type} {enc : α → Value} {h1 : ∀ x, (enc x).oneCell' = true} {e base g cap : Nat} {ok : Nat → Prop} {xs : List α}
end

/-! #### events: a letter for what make and a literal leave -/
section
variable {P : Program} {ops : Array Oper} {rest : List Oper} {o : Oper} {a : Act} {Q : Exit → Act → World → Prop}
theorem event_run {W w1 : World} {v : Value} (hgd : o.guard = none) (hrun : (execOp a.eval o).run P W = .ok (.value v) w1) (h : wpList P ops Q rest (a.put o.dst v) w1) : wpList P ops Q (o :: rest) a W := by
  refine wpList_plain hgd fun K hK => ?_
  unfold Oper.wp
  rw [hrun]
  exact hK _ _ h
variable {α : Type}
/-- A literal '[]T{..}': inner its cells. 'hd' picks the operation; 'hrun' by '(by go_simp; rfl)'. -/
theorem R_lit (d : Kd α) {w0 W : World} (base e : Nat) (hgd : o.guard = none) {N : Tmp} (_hd : o.dst = some N) {xs : List α} {inner : List Value} {ok okp : Nat → Prop}
    (hrun : (execOp a.eval o).run P W = .ok (.value (.slice (some ⟨W.heap.size, 0, none⟩) xs.length xs.length)) (W.alloc (.cells inner.toArray e)))
    (hrep : Reps (d.M W base okp) d.sz xs inner) (hok : ∀ k, okp k → ok k) (hfresh : ok W.heap.size) (HB : Below base w0 W) (hbase : base ≤ W.heap.size) (hm : xs.length ≤ 9223372036854775807)
    (h : ∀ v1 w1, d.R e w1 base ok v1 xs → Below base w0 w1 → W.grownBy w1 none → (∃ b, v1.ownBlock = some b ∧ W.heap.size ≤ b) → wpList P ops Q rest (a.put o.dst v1) w1) : wpList P ops Q (o :: rest) a W := by
  refine event_run hgd hrun (h _ _ ⟨fun k hk => ?_, inner, ?_, ?_⟩ (HB.alloc hbase _) (World.grownBy_alloc W _ none) ⟨W.heap.size, by simp [Value.ownBlock], Nat.le_refl _⟩)
  · have : W.heap.size = k := by simpa [Value.ownBlock] using hk
    subst this
    exact hfresh
  · have h2 := World.ownsRow_lit (base := base) (e := e) (size := d.sz) W inner.toArray xs.length hbase (by simpa [maxLen] using hm) (by simpa using hrep.1)
    simpa using h2
  · refine hrep.imp_ (fun p c hp => d.M_mono (fun k hk => ⟨hok k hk.1, fun he => ?_⟩) (M_below (d.M_bound hp) (below_alloc (Below.refl _ _) _)))
    have h3 : k = W.heap.size := by simpa [Value.ownBlock] using he
    have := hk.2.2.1
    omega
end
end Kd
/-! ### 27. Cuts of a row of one's own: 'xs = xs[:n]' stays a row (R_take); 'xs = xs[k:]' is a row that begins inside its block (Kd.Q), append goes on it too -/
section
variable {P : Program}
theorem cut_to (t e : TypeId) (kh : IntKind) {i : TypeInfo} (ht : P.underlying t = some (.slice e)) (hi : P.info? e = some i) (A : Option Addr) (n c : Nat) (j : Int) (h0 : 0 ≤ j) (hm : j ≤ n) (hc : n ≤ c) :
    ∀ W : World, (Instr.slice t (.slice A n c) none (some (.int kh j)) none).run P W = .ok (.slice A j.toNat c) W := by
  intro W
  have hel : P.elem t = e := by simp [Program.elem, ht]
  have hu : P.underlying t = some (.slice (P.elem t)) := by rw [hel]; exact ht
  have ha : (A.map fun x => x.add 0) = A := by cases A <;> simp [Addr.add]
  rw [run_slice_h W t A n c hu kh j h0 (by omega), hel]
  simp [sizeOf, typeInfo, hi, sliced, Result.andThen, ha]
theorem cut_from (t e : TypeId) (kl : IntKind) {i : TypeInfo} (ht : P.underlying t = some (.slice e)) (hi : P.info? e = some i) (size : Nat) (hsz : i.size = size) (A : Option Addr) (n c : Nat) (j : Int) (h0 : 0 ≤ j) (hm : j ≤ n) :
    ∀ W : World, (Instr.slice t (.slice A n c) (some (.int kl j)) none none).run P W = .ok (.slice (if c = j.toNat then A else A.map (·.add (j.toNat * size))) (n - j.toNat) (c - j.toNat)) W := by
  intro W
  have hel : P.elem t = e := by simp [Program.elem, ht]
  have hu : P.underlying t = some (.slice (P.elem t)) := by rw [hel]; exact ht
  rw [run_slice_l W t A n c hu kl j h0 hm, hel]
  simp [sizeOf, typeInfo, hi, hsz, sliced, Result.andThen]
end
/-- A row of one's own that may begin inside its block. -/
def QRow (w : World) (base : Nat) (e : TypeId) (size : Nat) (v : Value) (n : Nat) (xs : List Value) : Prop :=
  xs.length = n * size ∧
  ((n = 0 ∧ ∃ A, v = .slice A 0 0 ∧ ∀ a, A = some a → base ≤ a.block ∧ ∃ cur, w.heap[a.block]? = some (.cells cur e (0, 0))) ∨
   ∃ g off cap cur, v = .slice (some ⟨g, off * size, none⟩) n cap ∧ base ≤ g ∧ w.heap[g]? = some (.cells cur e (0, 0)) ∧ n ≤ cap ∧ off + cap ≤ maxLen ∧ cur.size = (off + cap) * size ∧ (cur.toList.drop (off * size)).take (n * size) = xs)
section
variable {w w1 : World} {base n size : Nat} {e : TypeId} {v : Value} {xs : List Value}
theorem q_of_own (h : w.ownsRow base e size v n xs) : QRow w base e size v n xs := by
  obtain ⟨h1, h2⟩ := h
  refine ⟨h1, ?_⟩
  rcases h2 with ⟨rfl, h0⟩ | ⟨g, cap, cur, rfl, hb, hh, hnc, hcm, hcs, ht⟩
  · exact .inl ⟨h0, none, rfl, fun a ha => by cases ha⟩
  · exact .inr ⟨g, 0, cap, cur, by rw [Nat.zero_mul], hb, hh, hnc, by rw [Nat.zero_add]; exact hcm, by rw [Nat.zero_add]; exact hcs, by rw [Nat.zero_mul, List.drop_zero]; exact ht⟩
end
section
variable {P : Program}
end
/-! ### 28. The kinds' words for cuts: R_take; Q (a row that may begin inside its block) with all of R's movers -/
namespace Kd
def Q {α : Type} (d : Kd α) (e : Nat) (w : World) (base : Nat) (ok : Nat → Prop) (v : Value) (xs : List α) : Prop :=
  (∀ k, v.ownBlock = some k → ok k) ∧ ∃ inner, QRow w base e d.sz v xs.length inner ∧ Reps (d.M w base (fun k => ok k ∧ some k ≠ v.ownBlock)) d.sz xs inner
section
variable {α : Type} {d : Kd α} {e : Nat} {w w1 W : World} {base : Nat} {ok ok' : Nat → Prop} {v : Value} {xs : List α}
theorem Q_of_R (h : d.R e w base ok v xs) : d.Q e w base ok v xs := by
  obtain ⟨h0, inner, ho, hr⟩ := h
  exact ⟨h0, inner, q_of_own ho, hr⟩
theorem Q_nil (d : Kd α) (e : Nat) (w : World) (base : Nat) (ok : Nat → Prop) : d.Q e w base ok (.slice none 0 0) [] := Q_of_R (R_nil d e w base ok)
end
section
variable {P : Program} {ops : Array Oper} {rest : List Oper} {o : Oper} {a : Act} {Q' : Exit → Act → World → Prop} {Kc : Act → World → Prop} {α : Type}
end
end Kd
/-! ### 29. Movers that ask of another row no more than they need: for R and for Q -/
namespace Kd
section
variable {α : Type} {d : Kd α} {e e' : Nat} {w w1 W : World} {base : Nat} {ok : Nat → Prop} {u v : Value} {xs : List α}
theorem R_elder' (hu : d.R e W base ok u xs) (hbase : ∀ k, v.ownBlock = some k → W.heap.size ≤ k) (hb : Below W.heap.size W w1) : d.R e w1 base (fun k => ok k ∧ some k ≠ v.ownBlock) u xs :=
  R_mono (R_move (R_bound hu) (fun k hk => hb.block k hk.2.2.1)) (fun k hk => ⟨hk.1, fun he => by have := hbase k he.symm; have := hk.2.2.1; omega⟩)
theorem R_new' (h : d.R e w1 W.heap.size ok v xs) (hlt : ∀ k, u.ownBlock = some k → k < W.heap.size) : d.R e w1 W.heap.size (fun k => ok k ∧ some k ≠ u.ownBlock) v xs :=
  R_mono (R_bound h) (fun k hk => ⟨hk.1, fun he => by have := hlt k he.symm; have := hk.2.1; omega⟩)

theorem fresh' (hlt : ∀ k, u.ownBlock = some k → k < W.heap.size) : ∀ k, W.heap.size ≤ k → some k ≠ u.ownBlock := fun k hk he => by have := hlt k he.symm; omega
end
end Kd
namespace Kd
section
variable {α : Type} {d : Kd α} {e base g n cap : Nat} {ok okp : Nat → Prop} {W : World} {xs : List α}
end
end Kd
/-! ### 31. What came in, put into what is made: 'fixed d w0' (read in w0, whatever happens since), 'or_ a b', 'mix' (a slice that came in, or one that is made) -/
namespace Kd
section
variable {α : Type} {F : Kd α → Kd α} {sz : Nat} {E : List Nat} {hs : ∀ n, (upto F sz E n).sz = sz} {hE : ∀ n q, q ∈ (upto F sz E n).E → q ∈ E}
end
end Kd
/-! ### 32. A whole row appended, of elements of any kind; copy onto a row of scalars of one's own -/
namespace Kd
theorem reps_append {α : Type} {R : α → List Value → Prop} {size : Nat} {ps qs : List α} {cs ds : List Value} (h : Reps R size ps cs) (h' : Reps R size qs ds) : Reps R size (ps ++ qs) (cs ++ ds) := by
  refine ⟨by rw [List.length_append, List.length_append, h.1, h'.1, Nat.add_mul], fun j p hj => ?_⟩
  rcases Nat.lt_or_ge j ps.length with hlt | hge
  · rw [List.getElem?_append_left hlt] at hj
    have hle : j * size + size ≤ cs.length := by rw [h.1, ← Nat.succ_mul]; exact Nat.mul_le_mul_right _ hlt
    rw [List.drop_append_of_le_length (by omega), List.take_append_of_le_length (by rw [List.length_drop]; omega)]
    exact h.2 j p hj
  · rw [List.getElem?_append_right hge] at hj
    have h2 := h'.2 (j - ps.length) p hj
    have hle : ps.length * size ≤ j * size := Nat.mul_le_mul_right _ hge
    rw [List.drop_append, List.drop_eq_nil_of_le (by rw [h.1]; exact hle), List.nil_append, h.1, ← Nat.sub_mul]
    exact h2
section
variable {P : Program} {ops : Array Oper} {rest : List Oper} {o : Oper} {a : Act} {Q : Exit → Act → World → Prop} {α : Type}
/-- append(v, ys...): Rr is what is known of a read element's cells (d.K W; or k<T>.K w0 for a row that came in), hKM: it may stand as_ made. -/
theorem R_append_rows (d : Kd α) {Rr : α → List Value → Prop} {w0 W : World} (base : Nat) (hgd : o.guard = none) (s x : Operand) (t e : TypeId) (z : Value) (bytes : Nat)
    (ho : o.op = .call { callee := .builtin .append, args := #[s, x], argTypes := #[t, t] })
    (ht : P.underlying t = some (.slice e)) (hinfo : (P.info? e).map (fun i => (i.zero, i.size, i.bytes)) = some (some z, d.sz, bytes)) (hz : z.cells.size = d.sz) (hs0 : 0 < d.sz) (hb0 : 0 < bytes)
    (v : Value) (xs ys : List α) (A : Option Addr) (m c : Nat) (ok okp : Nat → Prop) (hs : a.eval s = v) (hx : a.eval x = .slice A m c)
    (HO : d.R e W base ok v xs) (HR : ReadsRow Rr d.sz W A m ys) (hKM : ∀ x cs, Rr x cs → d.M W base okp x cs) (hokp : ∀ k, okp k → ok k ∧ some k ≠ v.ownBlock) (hfresh : ∀ k, W.heap.size ≤ k → ok k)
    (HB : Below base w0 W) (hbase : base ≤ W.heap.size) (hl : (xs.length + m) * bytes ≤ 140737488355328)
    (h : ∀ v1 w1, d.R e w1 base ok v1 (xs ++ ys) → Below base w0 w1 → W.grownBy w1 v.ownBlock → (v1.ownBlock = v.ownBlock ∨ ∃ b, v1.ownBlock = some b ∧ W.heap.size ≤ b) → wpList P ops Q rest (a.put o.dst v1) w1) :
    wpList P ops Q (o :: rest) a W := by
  obtain ⟨i0, hi, hzz⟩ := Option.map_eq_some_iff.1 hinfo
  simp only [Prod.mk.injEq] at hzz
  obtain ⟨hz0, hz1, hz2⟩ := hzz
  have hm : ys.length = m := HR.1
  have hlen : xs.length + m ≤ 140737488355328 := Nat.le_trans (Nat.le_mul_of_pos_right _ hb0) hl
  obtain ⟨hok, inner, hown, hr⟩ := HO
  have hrun : ∃ v1 w1, (Builtin.append_ #[t, t] o.type #[v, .slice A m c]).run P W = .ok v1 w1 ∧ d.R e w1 base ok v1 (xs ++ ys) ∧ W.grownBy w1 v.ownBlock ∧ (v1.ownBlock = v.ownBlock ∨ ∃ b, v1.ownBlock = some b ∧ W.heap.size ≤ b) := by
    rcases A with _ | ad
    · have h0 : m = 0 := by
        rcases Nat.eq_zero_or_pos m with h0 | h0
        · exact h0
        · obtain ⟨ad, h, _⟩ := HR.2.2 h0
          cases h
      subst h0
      obtain rfl : ys = [] := List.eq_nil_of_length_eq_zero hm
      refine ⟨v, W, ?_, by rw [List.append_nil]; exact ⟨hok, inner, hown, hr⟩, World.grownBy.refl W _, .inl rfl⟩
      rcases hown.2 with ⟨rfl, hn⟩ | ⟨g, cap, cur, rfl, _, _, hnc, _⟩
      · simp [Builtin.append_, run_underlying ht, sizeOf, typeInfo, hi, Builtin.lenOf, Builtin.firstCells]
      · simp [Builtin.append_, run_underlying ht, sizeOf, typeInfo, hi, Builtin.lenOf, Builtin.firstCells, hnc, storeCells]
    · obtain ⟨news, hnr, hnc⟩ := ReadsRow.inner_ HR
      have hnM : Reps (d.M W base okp) d.sz ys news := hnr.imp_ (fun p c hp => hKM p c hp)
      have hone : ∀ u ∈ news, u.oneCell' = true := by
        intro u hu
        obtain ⟨q, hq, rfl⟩ := List.mem_iff_getElem.1 hu
        have hql : q / d.sz < ys.length := by
          rw [Nat.div_lt_iff_lt_mul hs0]
          rw [← hnM.1]
          exact hq
        have hc := hnM.2 (q / d.sz) _ (List.getElem?_eq_getElem hql)
        refine d.K_one (d.K_of_M hc) _ ?_
        rw [List.mem_iff_getElem?]
        refine ⟨q % d.sz, ?_⟩
        rw [List.getElem?_take, if_pos (Nat.mod_lt _ hs0), List.getElem?_drop, Nat.mul_comm, Nat.div_add_mod, List.getElem?_eq_getElem hq]
      obtain ⟨v1, w1, hrun, h2, hg, _, hat⟩ := run_append_own_at (P := P) W base t o.type e i0 z d.sz bytes ht hi hz0 hz1 hz2 hz hs0 v xs.length inner hown ad m c news (by rw [hnM.1, hm]) hnc hone (by simp only [maxLen]; omega) hl hbase
      have hat' : v1.ownBlock = v.ownBlock ∨ ∃ b, v1.ownBlock = some b ∧ W.heap.size ≤ b := by
        rcases hat with hat | hat
        · exact .inl hat
        · exact .inr ⟨_, hat, Nat.le_refl _⟩
      have hne : ∀ k, some k ≠ v.ownBlock → k < W.heap.size → some k ≠ v1.ownBlock := by
        intro k hk hlt
        rcases hat' with hat | ⟨b, hb, hle⟩
        · rw [hat]; exact hk
        · rw [hb]
          intro he
          injection he with he
          omega
      have step : ∀ {q : α} {c : List Value} {o : Nat → Prop}, d.M W base o q c → (∀ k, o k → ok k ∧ some k ≠ v.ownBlock) → d.M w1 base (fun k => ok k ∧ some k ≠ v1.ownBlock) q c := by
        intro q c o hq ho
        have h1 := d.M_move (w1 := w1) (fun k hk => hg.block k hk.2.2.1 (ho k hk.1).2) (d.M_bound hq)
        exact d.M_mono (fun k hk => ⟨(ho k hk.1).1, hne k (ho k hk.1).2 hk.2.2.1⟩) h1
      refine ⟨v1, w1, hrun, ⟨fun k hk => ?_, inner ++ news, by rw [List.length_append, hm]; exact h2, reps_append (hr.imp_ (fun _ _ hq => step hq (fun _ hk => hk))) (hnM.imp_ (fun _ _ hq => step hq hokp))⟩, hg, hat'⟩
      rcases hat' with hat | ⟨b, hb, hle⟩
      · exact hok k (hat ▸ hk)
      · rw [hb] at hk
        injection hk with hk
        exact hfresh k (by omega)
  obtain ⟨v1, w1, hr1, h1, hg, hat⟩ := hrun
  refine wpList_plain hgd fun K hK => ?_
  unfold Oper.wp execOp
  simp only [ho, resolve, invoke, builtin, Sem.run_bind, Sem.run_pure, Result.andThen_ok, List.map_toArray, List.map_cons, List.map_nil, hs, hx, hr1]
  exact hK _ _ (h v1 w1 h1 (HB.grown hg hbase (own_base hown)) hg hat)
end
end Kd
/-! ### 33. A store into a row of one's own, as_ an event: no go_simp -/
namespace Kd
section
variable {P : Program} {ops : Array Oper} {rest : List Oper} {o : Oper} {a : Act} {Q : Exit → Act → World → Prop} {α : Type}
end
end Kd
/-! ### 34. Cuts that are only read, of any row -/
theorem add_add (a : Addr) (i j : Nat) : (a.add i).add j = a.add (i + j) := by
  unfold Addr.add
  by_cases h1 : i = 0 <;> by_cases h2 : j = 0 <;> simp [h1, h2, Nat.add_assoc]
namespace Kd
section
variable {α : Type} {k : Kd α} {w : World} {A : Option Addr} {xs : List α} {m c : Nat}
theorem C_take (h : k.C w A xs.length xs) (hm : m ≤ xs.length) : k.C w A (xs.take m).length (xs.take m) := by
  have hl : (xs.take m).length = m := by rw [List.length_take]; omega
  refine ⟨rfl, by rw [hl]; have := h.2.1; omega, fun hp => ?_⟩
  obtain ⟨ad, e, hc⟩ := h.2.2 (by omega)
  refine ⟨ad, e, fun j p hj => hc j p ?_⟩
  rw [List.getElem?_take] at hj
  split at hj
  · exact hj
  · cases hj
theorem C_drop (h : k.C w A xs.length xs) (hm : m ≤ xs.length) (hc : xs.length ≤ c) : k.C w (if c = m then A else A.map (·.add (m * k.sz))) (xs.drop m).length (xs.drop m) := by
  have hl : (xs.drop m).length = xs.length - m := List.length_drop
  refine ⟨rfl, by rw [hl]; have := h.2.1; omega, fun hp => ?_⟩
  rw [hl] at hp
  obtain ⟨ad, rfl, hcell⟩ := h.2.2 (by omega)
  rw [if_neg (by omega)]
  refine ⟨ad.add (m * k.sz), rfl, fun j p hj => ?_⟩
  rw [List.getElem?_drop] at hj
  obtain ⟨cs, h1, h2, h3⟩ := hcell (m + j) p hj
  refine ⟨cs, h1, h2, fun i u hu => ?_⟩
  rw [add_add, show m * k.sz + (j * k.sz + i) = (m + j) * k.sz + i by rw [Nat.add_mul]; omega]
  exact h3 i u hu
theorem C_mid {lo hi : Nat} (h : k.C w A xs.length xs) (h1 : lo ≤ hi) (h2 : hi ≤ xs.length) (hc : xs.length ≤ c) : k.C w (if c = lo then A else A.map (·.add (lo * k.sz))) ((xs.take hi).drop lo).length ((xs.take hi).drop lo) := by
  have hl : (xs.take hi).length = hi := by rw [List.length_take]; omega
  exact C_drop (C_take h h2) (by omega) (by omega)
end
end Kd
section
variable {P : Program}
theorem cut_mid (t e : TypeId) (kl kh : IntKind) {i : TypeInfo} (ht : P.underlying t = some (.slice e)) (hi : P.info? e = some i) (size : Nat) (hsz : i.size = size) (A : Option Addr) (n c : Nat) (lo hi' : Int) (h0 : 0 ≤ lo) (h1 : lo ≤ hi') (h2 : hi' ≤ n) (hc : n ≤ c) :
    ∀ W : World, (Instr.slice t (.slice A n c) (some (.int kl lo)) (some (.int kh hi')) none).run P W = .ok (.slice (if c = lo.toNat then A else A.map (·.add (lo.toNat * size))) (hi'.toNat - lo.toNat) (c - lo.toNat)) W := by
  intro W
  have hel : P.elem t = e := by simp [Program.elem, ht]
  have hu : P.underlying t = some (.slice (P.elem t)) := by rw [hel]; exact ht
  rw [run_slice_lh W t A n c hu kl kh lo hi' h0 h1 (by omega), hel]
  simp [sizeOf, typeInfo, hi, hsz, sliced, Result.andThen]
end
/-! ### 35. string(b), b read (a cut too) -/
theorem string_of_reads {P : Program} {w : World} {src dst e : TypeId} {A : Option Addr} {n c : Nat} {xs : List Int} (hs : P.underlying src = some (.slice e)) (he : P.underlying e = some (.int .u8)) (hd : P.underlying dst = some .string)
    (h : ReadsInt w .u8 A n xs) : (convert src dst (.slice A n c)).run P w = .ok (.string (strOfNums xs)) w := by
  have hn : xs.length = n := h.1
  rcases A with _ | ad
  · have h0 : n = 0 := by
      rcases Nat.eq_zero_or_pos n with h0 | h0
      · exact h0
      · obtain ⟨ad, h', _⟩ := h.2.2 h0
        cases h'
    subst h0
    obtain rfl : xs = [] := List.eq_nil_of_length_eq_zero hn
    exact run_convert_bytes_nil w src e hs he 0 c dst hd
  · have hl : (loadCells ad n).run P w = .ok (xs.map (Value.int .u8)).toArray w := by
      have := run_loadCells_list (P := P) w ad (xs.map (Value.int .u8)) (fun j v hj => by
        have hjl : j < xs.length := by
          rcases Nat.lt_or_ge j xs.length with h' | h'
          · exact h'
          · rw [List.getElem?_eq_none (by rw [List.length_map]; exact h')] at hj
            cases hj
        obtain ⟨ad', he', hc⟩ := h.2.2 (by omega)
        injection he' with he'
        subst he'
        rw [hc j (by omega)]
        rw [List.getElem?_map, List.getElem?_eq_getElem hjl] at hj
        simp at hj
        subst hj
        simp [List.getD_eq_getElem?_getD, List.getElem?_eq_getElem hjl])
      simpa [hn] using this
    rw [run_convert_bytes_string w src dst e _ n c hs he hd, run_bytesToString w ad n c xs hl, foldl_push_bytes]
    simp [strOfNums, ByteArray.empty, ByteArray.emptyWithCapacity]
    rfl
theorem Kd.C_string {P : Program} {w : World} {src dst e : TypeId} {A : Option Addr} {n c : Nat} {xs : List Int} (hs : P.underlying src = some (.slice e)) (he : P.underlying e = some (.int .u8)) (hd : P.underlying dst = some .string)
    (h : (Kd.int .u8).C w A n xs) : (convert src dst (.slice A n c)).run P w = .ok (.string (strOfNums xs)) w :=
  string_of_reads hs he hd (Kd.reads_of_C (enc := Value.int .u8) (d := (0 : Int)) (h1 := fun _ => rfl) h)
/-! ### 6. What the printer adds -/
theorem below_size {w W : World} (h : Below w.heap.size w W) : w.heap.size ≤ W.heap.size := h.size
theorem below_step {w W w2 : World} (h : Below w.heap.size w W) (k : Below W.heap.size W w2) : Below w.heap.size w w2 := below_then h h.size k
theorem own_reads' {W : World} {base n c : Nat} {e : TypeId} {k : IntKind} {A : Option Addr} {xs : List Int} (h : W.ownsRow base e 1 (.slice A n c) n (nums k xs)) : ReadsInt W k A n xs := by
  obtain ⟨A', c', he, hr⟩ := own_reads h
  injection he with hA
  rw [hA]; exact hr
theorem ReadsInt.nil (W : World) (k : IntKind) : ReadsInt W k none ([] : List Int).length [] := ⟨rfl, by simp, fun h => absurd h (Nat.lt_irrefl 0)⟩
theorem ReadsInt.drewN {W : World} {k : IntKind} {A : Option Addr} {n : Nat} {xs : List Int} (h : ReadsInt W k A n xs) (m : Nat) : ReadsInt (W.drewN m) k A n xs := h
theorem ReadsInt.allocS {W : World} {k : IntKind} {A : Option Addr} {n : Nat} {xs : List Int} (h : ReadsInt W k A n xs) (o : Obj) : ReadsInt (W.alloc o) k A n xs := h.below (below_alloc (Below.refl _ _) o)
theorem keep_cell {w W : World} {g : Nat} (h : KeepBut w W g none) {a : Addr} {v : Value} (hc : w.cell? a = some v) (hne : a.block ≠ g) : W.cell? a = some v := by
  have := h.2 a.block (World.block_lt_of_cell? w a hc) hne (by simp)
  simpa [World.cell?, this] using hc
theorem add_block (a : Addr) (i : Nat) : (a.add i).block = a.block := by unfold Addr.add; split <;> rfl
theorem ReadsOf.nil {α : Type} (enc : α → Value) (d : α) (W : World) : ReadsOf enc d W none ([] : List α).length [] := ⟨rfl, by simp, fun h => absurd h (Nat.lt_irrefl 0)⟩
theorem ReadsOf.drewN {α : Type} {enc : α → Value} {d : α} {W : World} {A : Option Addr} {n : Nat} {xs : List α} (h : ReadsOf enc d W A n xs) (m : Nat) : ReadsOf enc d (W.drewN m) A n xs := h
theorem ReadsOf.allocS {α : Type} {enc : α → Value} {d : α} {W : World} {A : Option Addr} {n : Nat} {xs : List α} (h : ReadsOf enc d W A n xs) (o : Obj) : ReadsOf enc d (W.alloc o) A n xs := h.below (below_alloc (Below.refl _ _) o)
theorem ReadsInt.keep {w W : World} {k : IntKind} {A : Option Addr} {n g : Nat} {xs : List Int} (h : ReadsInt w k A n xs) (hk : KeepBut w W g none) (hf : ∀ ad, A = some ad → 0 < n → ad.block ≠ g) : ReadsInt W k A n xs :=
  ⟨h.1, h.2.1, fun hn => by
    obtain ⟨ad, e, hc⟩ := h.2.2 hn
    exact ⟨ad, e, fun j hj => keep_cell hk (hc j hj) (by rw [add_block]; exact hf ad e hn)⟩⟩
theorem ReadsOf.keep {α : Type} {enc : α → Value} {d : α} {w W : World} {A : Option Addr} {n g : Nat} {xs : List α} (h : ReadsOf enc d w A n xs) (hk : KeepBut w W g none) (hf : ∀ ad, A = some ad → 0 < n → ad.block ≠ g) : ReadsOf enc d W A n xs :=
  ⟨h.1, h.2.1, fun hn => by
    obtain ⟨ad, e, hc⟩ := h.2.2 hn
    exact ⟨ad, e, fun j hj => keep_cell hk (hc j hj) (by rw [add_block]; exact hf ad e hn)⟩⟩
theorem below_drew1 {base : Nat} {w W : World} (h : Below base w W) : Below base w W.drew := h.drew
namespace Kd
section
variable {α β : Type} {d : Kd α} {d' : Kd β} {e e' base base' n : Nat} {ok ok' : Nat → Prop} {w W w1 W1 : World} {v u : Value} {xs : List α} {ys : List β} {A : Option Addr} {c : Nat}
end
section
variable {α : Type} {enc : α → Value} {h1 : ∀ x, (enc x).oneCell' = true} {w W : World} {A : Option Addr} {n g : Nat} {xs : List α}
end
end Kd
namespace Kd
section
variable {α : Type} {d : Kd α} {e base g : Nat} {ok : Nat → Prop} {w w1 : World} {v : Value} {xs : List α} {o : Obj}
end
end Kd
section
variable {P : Program} {ops : Array Oper} {rest : List Oper} {o : Oper} {a : Act} {Q : Exit → Act → World → Prop}
end
namespace Kd
section
variable {α : Type} {enc : α → Value} {h1 : ∀ x, (enc x).oneCell' = true} {e base g n cap : Nat} {ok : Nat → Prop} {W : World} {xs : List α}
end
end Kd
section
variable {P : Program} {ops : Array Oper} {rest : List Oper} {o : Oper} {a : Act} {Q : Exit → Act → World → Prop}
end
namespace Kd
section
variable {α : Type} {enc : α → Value} {h1 : ∀ x, (enc x).oneCell' = true} {e base g n cap : Nat} {ok : Nat → Prop} {W : World} {xs : List α}
end
end Kd
section
variable {P : Program} {ops : Array Oper} {rest : List Oper} {o : Oper} {a : Act} {Q : Exit → Act → World → Prop} {W : World}
theorem gate_dst {N : Tmp} (_hN : o.dst = some N) (h : wpList P ops Q (o :: rest) a W) : wpList P ops Q (o :: rest) a W := h
theorem gate_store {t : TypeId} {p : Tmp} {v : Operand} (_ho : o.op = .store t (.tmp p) v) (h : wpList P ops Q (o :: rest) a W) : wpList P ops Q (o :: rest) a W := h
end
/-! ### 36. Events as_ one step of a region that draws (for one_, two_, three_) -/
section
variable {P : Program} {ops : Array Oper} {o : Oper} {a : Act} {Q : Exit → Act → World → Prop} {Kc : Act → World → Prop}
namespace Kd
variable {α : Type}
end Kd
end
/-! ### 37. Results of any shape -/
section
variable {P : Program} {tmps : Array Value} {w : World}
end
/-! ### 38. 'out = append(out[:k], out[k+1:]...)': an element taken out of a row of one's own, in place -/
namespace Kd
section
variable {P : Program} {α : Type}
end
section
variable {P : Program} {ops : Array Oper} {rest : List Oper} {o : Oper} {a : Act} {Q : Exit → Act → World → Prop} {Kc : Act → World → Prop} {α : Type}
end
end Kd

end Go.Proofs.YtcbehfbfaonanaaW.PrintWords
end

/- PRINTED WORDS, second file: A REGION THAT DRAWS ITS ORDER, WALKED BY HAND, where its last store writes what its own loads read ('x.f = append(x.f, f(i))'). Plain theorems; no macro, no elab. A claim may hold it (turn the namespace's name). A load may be taken first in every world that meets S; behind the operations of ds nothing is shown; sound because each of ds waits for what is taken (Region.lastB). The kernel checks it. By an AI agent of Go's test side, Mon Nov 16 2026. No person has read it. -/
section
namespace Go.Proofs.YtcbehfbfaonanaaW.PrintLast

section
variable {P : Program} {ops : Array Oper} {Q : Exit → Act → World → Prop} {md : Region.Mode} {S : World → Prop} {ds : List Nat}

/-- Operation d waits for operation i, by a chain of at most 'fuel' edges. -/
def Region.reachB (md : Region.Mode) (ops : Array Oper) (i : Nat) : Nat → Nat → Bool
  | 0, _ => false
  | fuel + 1, d => match ops[d]? with
    | some o => o.after.any fun e => Region.binds md e && (e.on == i || Region.reachB md ops i fuel e.on)
    | none => false

/-- What is listed is closed under the edges. -/
def Region.closedB (md : Region.Mode) (ops : Array Oper) (listed : Array Bool) : Bool :=
  (List.range ops.size).all fun j => !listed.getD j false || match ops[j]? with
    | some o => o.after.all fun e => !Region.binds md e || listed.getD e.on false
    | none => true

/-- Each of ds that has not come up yet waits for number i. -/
def Region.lastB (md : Region.Mode) (ops : Array Oper) (listed : Array Bool) (ds : List Nat) (i : Nat) : Bool :=
  ds.all fun d => listed.getD d true || Region.reachB md ops i ops.size d

def ListedClosed (md : Region.Mode) (ops : Array Oper) (listed : Array Bool) : Prop :=
  ∀ j oj, ops[j]? = some oj → listed.getD j false = true → ∀ e ∈ oj.after, Region.binds md e = true → listed.getD e.on false = true

theorem Region.closedB_spec {listed : Array Bool} (h : Region.closedB md ops listed = true) : ListedClosed md ops listed := by
  intro j oj hj hl e he hb
  have hlt : j < ops.size := (Array.getElem?_eq_some_iff.1 hj).1
  have h1 := List.all_eq_true.1 h j (List.mem_range.2 hlt)
  simp only [hl, hj, Bool.not_true, Bool.false_or] at h1
  have h2 := Array.all_eq_true_iff_forall_mem.1 h1 e he
  simpa [hb] using h2

theorem ListedClosed.set {listed : Array Bool} {i : Nat} (h : ListedClosed md ops listed) (hi : i ∈ Region.ready md ops listed) : ListedClosed md ops (listed.setIfInBounds i true) := by
  obtain ⟨_, oi, hoi, hall⟩ := mem_ready.1 hi
  intro j oj hj hl e he hb
  by_cases hij : i = j
  · subst hij
    have : oj = oi := Option.some.inj (hj.symm.trans hoi)
    subst this
    exact getD_set_true (hall e he hb)
  · rw [getD_set_ne false hij] at hl
    exact getD_set_true (h j oj hj hl e he hb)

theorem Region.reach_listed {listed : Array Bool} {i : Nat} (hc : ListedClosed md ops listed) : ∀ (fuel d : Nat), Region.reachB md ops i fuel d = true → listed.getD d false = true → listed.getD i false = true
  | 0, _, h, _ => by simp [Region.reachB] at h
  | fuel + 1, d, h, hl => by
    unfold Region.reachB at h
    cases ho : ops[d]? with
    | none => rw [ho] at h; simp at h
    | some o =>
      rw [ho] at h
      obtain ⟨e, he, h1⟩ := Array.any_eq_true'.1 h
      simp only [Bool.and_eq_true, Bool.or_eq_true, beq_iff_eq] at h1
      have hle := hc d o ho hl e he h1.1
      rcases h1.2 with h2 | h2
      · rw [← h2]; exact hle
      · exact Region.reach_listed hc fuel e.on h2 hle

/-- What waits for i cannot come up before i is listed. -/
theorem Region.reach_not_ready {listed : Array Bool} {i d fuel : Nat} (hc : ListedClosed md ops listed) (hr : Region.reachB md ops i fuel d = true) (hun : listed.getD i true = false) : d ∉ Region.ready md ops listed := by
  intro hd
  obtain ⟨_, o, ho, hall⟩ := mem_ready.1 hd
  have hi : listed.getD i false = true := by
    cases fuel with
    | zero => simp [Region.reachB] at hr
    | succ n =>
      unfold Region.reachB at hr
      rw [ho] at hr
      obtain ⟨e, he, h1⟩ := Array.any_eq_true'.1 hr
      simp only [Bool.and_eq_true, Bool.or_eq_true, beq_iff_eq] at h1
      have hle := hall e he h1.1
      rcases h1.2 with h2 | h2
      · rw [← h2]; exact hle
      · exact Region.reach_listed hc n e.on h2 hle
  rcases Nat.lt_or_ge i listed.size with h' | h'
  · simp [h'] at hun hi
    rw [hun] at hi
    cases hi
  · simp [Array.getElem?_eq_none h'] at hun

/-- Whatever order is picked from here on, AND 'S' HOLDS BEHIND EVERY OPERATION THAT IS CARRIED OUT, those of ds apart. -/
def wpAnyLast (P : Program) (md : Region.Mode) (ops : Array Oper) (Q : Exit → Act → World → Prop) (S : World → Prop) (ds : List Nat) : Nat → Array Bool → Act → World → Prop
  | 0, listed, a, w => Region.ready md ops listed = [] ∧ Q .normal a w
  | fuel + 1, listed, a, w =>
    (Region.ready md ops listed = [] → Q .normal a w) ∧
    ∀ i ∈ Region.ready md ops listed, wpOp P ops Q i (fun a' w' => (i ∉ ds → S w → S w') ∧ wpAnyLast P md ops Q S ds fuel (listed.setIfInBounds i true) a' w') a w

theorem wpAny_of_last : ∀ (fuel : Nat) (listed : Array Bool) (a : Act) (w : World), wpAnyLast P md ops Q S ds fuel listed a w → wpAny P md ops Q fuel listed a w
  | 0, _, _, _, h => h
  | fuel + 1, _, _, _, h => ⟨h.1, fun i hi => wpOp_mono (fun a' w' h' => wpAny_of_last fuel _ a' w' h'.2) (h.2 i hi)⟩

theorem wpAnyLast_first {i : Nat} {oi : Oper} {v : Value} (hi : ops[i]? = some oi) (hsel : ∀ (j : Nat) (o : Oper) cs b, ops[j]? = some o → o.op ≠ .select cs b)
    (hQ : ∀ c a w, Q (.panic c) (a.put oi.dst v) w → Q (.panic c) a w) (n : Nat) :
    ∀ (fuel : Nat) (listed : Array Bool) (a : Act) (w : World),
      (∀ j oj, ops[j]? = some oj → j ≠ i → listed.getD j true = false → (∀ e ∈ oj.after, Region.binds md e = true → e.on ≠ i) → oi.apart ops oj = true) →
      ListedClosed md ops listed → (∀ d ∈ ds, listed.getD d true = false → Region.reachB md ops i n d = true) →
      i ∈ Region.ready md ops listed → YieldsIf P ops S oi v a → S w →
      wpAnyLast P md ops Q S ds fuel (listed.setIfInBounds i true) (a.put oi.dst v) w → wpAnyLast P md ops Q S ds (fuel + 1) listed a w := by
  intro fuel
  induction fuel with
  | zero =>
    intro listed a w _ _ _ hr hy hS H
    refine ⟨fun h => (by rw [h] at hr; cases hr), fun j hj => ?_⟩
    by_cases hji : j = i
    · subst hji; exact hy.wpOp hi hS ⟨fun _ h => h, H⟩
    · have := ready_mono hj hji
      rw [H.1] at this
      cases this
  | succ fuel ih =>
    intro listed a w hfree hc hd hr hy hS H
    refine ⟨fun h => (by rw [h] at hr; cases hr), fun j hj => ?_⟩
    by_cases hji : j = i
    · subst hji; exact hy.wpOp hi hS ⟨fun _ h => h, H⟩
    · have h1 := H.2 j (ready_mono hj hji)
      obtain ⟨hjun, oj, hoj, hall⟩ := mem_ready.1 hj
      have hiun := (mem_ready.1 hr).1
      have hnot : ∀ e ∈ oj.after, Region.binds md e = true → e.on ≠ i := fun e he hb heq => by
        have h1 := hall e he hb
        rw [heq] at h1
        rcases Nat.lt_or_ge i listed.size with h' | h'
        · simp [h'] at hiun h1; rw [hiun] at h1; cases h1
        · simp [Array.getElem?_eq_none h'] at h1
      have hjd : j ∉ ds := fun hm => Region.reach_not_ready hc (hd j hm hjun) hiun hj
      have h2 := wpOp_putIf hoj (hfree j oj hoj hji hjun hnot) (fun cs b => hsel i oi cs b hi) (fun cs b => hsel j oj cs b hoj) hQ hy h1
      have hfree' : ∀ k ok, ops[k]? = some ok → k ≠ i → (listed.setIfInBounds j true).getD k true = false →
          (∀ e ∈ ok.after, Region.binds md e = true → e.on ≠ i) → oi.apart ops ok = true := fun k ok hk hki hun hno => by
        refine hfree k ok hk hki ?_ hno
        by_cases hjk : j = k
        · subst hjk; exact hjun
        · rw [getD_set_ne true hjk] at hun; exact hun
      have hd' : ∀ d ∈ ds, (listed.setIfInBounds j true).getD d true = false → Region.reachB md ops i n d = true := fun d hm hun => by
        refine hd d hm ?_
        by_cases hjk : j = d
        · subst hjk; exact hjun
        · rw [getD_set_ne true hjk] at hun; exact hun
      refine wpOp_mono (fun a' w' h3 => ⟨h3.2.1, ih (listed.setIfInBounds j true) a' w' hfree' (hc.set hj) hd' (ready_mono hr (Ne.symm hji)) h3.1 (h3.2.1 hjd hS) ?_⟩) h2
      rw [Array.setIfInBounds_comm _ _ hji]
      exact h3.2.2

/-- Take number 'i' first, which yields whatever the world: no S is asked for, nor that anything waits for it. -/
theorem wpAnyLast_any {i : Nat} {oi : Oper} {v : Value} (hi : ops[i]? = some oi) (hsel : ∀ (j : Nat) (o : Oper) cs b, ops[j]? = some o → o.op ≠ .select cs b)
    (hQ : ∀ c a w, Q (.panic c) (a.put oi.dst v) w → Q (.panic c) a w) :
    ∀ (fuel : Nat) (listed : Array Bool) (a : Act) (w : World),
      (∀ j oj, ops[j]? = some oj → j ≠ i → listed.getD j true = false → (∀ e ∈ oj.after, Region.binds md e = true → e.on ≠ i) → oi.apart ops oj = true) →
      i ∈ Region.ready md ops listed → Yields P ops oi v a →
      wpAnyLast P md ops Q S ds fuel (listed.setIfInBounds i true) (a.put oi.dst v) w → wpAnyLast P md ops Q S ds (fuel + 1) listed a w := by
  intro fuel
  induction fuel with
  | zero =>
    intro listed a w _ hr hy H
    refine ⟨fun h => (by rw [h] at hr; cases hr), fun j hj => ?_⟩
    by_cases hji : j = i
    · subst hji; exact (hy.yieldsIf (S := fun _ => True)).wpOp hi trivial ⟨fun _ h => h, H⟩
    · have := ready_mono hj hji
      rw [H.1] at this
      cases this
  | succ fuel ih =>
    intro listed a w hfree hr hy H
    refine ⟨fun h => (by rw [h] at hr; cases hr), fun j hj => ?_⟩
    by_cases hji : j = i
    · subst hji; exact (hy.yieldsIf (S := fun _ => True)).wpOp hi trivial ⟨fun _ h => h, H⟩
    · have h1 := H.2 j (ready_mono hj hji)
      obtain ⟨hjun, oj, hoj, hall⟩ := mem_ready.1 hj
      have hiun := (mem_ready.1 hr).1
      have hnot : ∀ e ∈ oj.after, Region.binds md e = true → e.on ≠ i := fun e he hb heq => by
        have h1 := hall e he hb
        rw [heq] at h1
        rcases Nat.lt_or_ge i listed.size with h' | h'
        · simp [h'] at hiun h1; rw [hiun] at h1; cases h1
        · simp [Array.getElem?_eq_none h'] at h1
      have h2 := wpOp_put hoj (hfree j oj hoj hji hjun hnot) (fun cs b => hsel i oi cs b hi) (fun cs b => hsel j oj cs b hoj) hQ hy h1
      have hfree' : ∀ k ok, ops[k]? = some ok → k ≠ i → (listed.setIfInBounds j true).getD k true = false →
          (∀ e ∈ ok.after, Region.binds md e = true → e.on ≠ i) → oi.apart ops ok = true := fun k ok hk hki hun hno => by
        refine hfree k ok hk hki ?_ hno
        by_cases hjk : j = k
        · subst hjk; exact hjun
        · rw [getD_set_ne true hjk] at hun; exact hun
      refine wpOp_mono (fun a' w' h3 => ⟨h3.2.1, ih (listed.setIfInBounds j true) a' w' hfree' (ready_mono hr (Ne.symm hji)) h3.1 ?_⟩) h2
      rw [Array.setIfInBounds_comm _ _ hji]
      exact h3.2.2

/-- Take number 'i' first. -/
theorem wpAnyLast_take {i : Nat} {oi : Oper} {v : Value} {fuel : Nat} {listed : Array Bool} {a : Act} {w : World} (hi : ops[i]? = some oi)
    (hs : Region.noSelect ops = true) (hf : Region.free md ops listed i = true) (hr : (Region.ready md ops listed).contains i = true)
    (hc : Region.closedB md ops listed = true) (hl : Region.lastB md ops listed ds i = true)
    (hQ : ∀ c a w, Q (.panic c) (a.put oi.dst v) w → Q (.panic c) a w) (hy : YieldsIf P ops S oi v a) (hS : S w)
    (h : wpAnyLast P md ops Q S ds fuel (listed.setIfInBounds i true) (a.put oi.dst v) w) : wpAnyLast P md ops Q S ds (fuel + 1) listed a w :=
  wpAnyLast_first hi (Region.noSelect_spec hs) hQ ops.size fuel listed a w (Region.free_spec hi hf) (Region.closedB_spec hc)
    (fun d hm hun => by have := List.all_eq_true.1 hl d hm; rw [hun] at this; simpa using this) (by simpa using hr) hy hS h

theorem wpAnyLast_all {rs : List Nat} {fuel : Nat} {listed : Array Bool} {a : Act} {w : World} (hr : Region.ready md ops listed = rs) (hne : rs ≠ [])
    (h : ∀ i ∈ rs, wpOp P ops Q i (fun a' w' => (i ∉ ds → S w → S w') ∧ wpAnyLast P md ops Q S ds fuel (listed.setIfInBounds i true) a' w') a w) : wpAnyLast P md ops Q S ds (fuel + 1) listed a w :=
  ⟨fun h0 => absurd (hr ▸ h0) hne, hr ▸ h⟩

theorem wpAnyLast_done {listed : Array Bool} {a : Act} {w : World} (hr : Region.ready md ops listed = []) (h : Q .normal a w) :
    ∀ fuel, wpAnyLast P md ops Q S ds fuel listed a w
  | 0 => ⟨hr, h⟩
  | _ + 1 => ⟨fun _ => h, by rw [hr]; simp⟩

theorem wp_region_last {id : Nat} {a : Act} {w : World} (hm : P.follows .mixedOrders = true)
    (h : wpAnyLast P .any ops Q S ds ops.size (Array.replicate ops.size false) a { w with drawn := w.drawn + 1 }) : (Code.region id ops true).wp P Q a w :=
  wp_region_any hm (wpAny_of_last _ _ _ _ h)

end

section
variable {P : Program} {ops : Array Oper} {Q : Exit → Act → World → Prop} {md : Region.Mode} {S : World → Prop} {ds : List Nat}

def AllReadyL (P : Program) (md : Region.Mode) (ops : Array Oper) (Q : Exit → Act → World → Prop) (S : World → Prop) (ds : List Nat) (fuel : Nat) (listed : Array Bool) (a : Act) (w : World) (rs : List Nat) : Prop :=
  ∀ i ∈ rs, wpOp P ops Q i (fun a' w' => (i ∉ ds → S w → S w') ∧ wpAnyLast P md ops Q S ds fuel (listed.setIfInBounds i true) a' w') a w
theorem AllReadyL.nil {fuel : Nat} {listed : Array Bool} {a : Act} {w : World} : AllReadyL P md ops Q S ds fuel listed a w [] := fun _ h => by cases h
theorem AllReadyL.cons {fuel : Nat} {listed : Array Bool} {a : Act} {w : World} {i : Nat} {o : Oper} {rs : List Nat} (ho : ops[i]? = some o) (hd : i ∉ ds)
    (h : ∀ K' : Act → World → Prop, Shut (∀ a w, S w → (S w → wpAnyLast P md ops Q S ds fuel (listed.setIfInBounds i true) a w) → K' a w) → if Region.wanted o (yielded ops a.tmps) = true then Oper.wp P o a w K' Q else K' (a.put o.dst undef) w)
    (hs : AllReadyL P md ops Q S ds fuel listed a w rs) : AllReadyL P md ops Q S ds fuel listed a w (i :: rs) := fun j hj => by
  rcases List.mem_cons.1 hj with rfl | hj
  · exact wpOp_step ho (fun K' hK => h K' (fun a w hS hW => hK a w ⟨fun _ _ => hS, hW hS⟩))
  · exact hs j hj
theorem wpAnyLast_ready {rs : List Nat} {fuel : Nat} {listed : Array Bool} {a : Act} {w : World} (hr : Region.ready md ops listed = rs) (hne : rs ≠ [])
    (h : AllReadyL P md ops Q S ds fuel listed a w rs) : wpAnyLast P md ops Q S ds (fuel + 1) listed a w := wpAnyLast_all hr hne h
/-- THE SAME STEPS WITH WHAT HAS COME UP WRITTEN OUT (a literal array of Bools) and one check a step: quicker, and what is printed stays short. -/
theorem start_ {id n : Nat} {a : Act} {w : World} (l : Array Bool) (hm : P.follows .mixedOrders = true) (hn : ops.size = n) (hl : Array.replicate n false = l) (hS : S w.drew)
    (h : S w.drew → wpAnyLast P .any ops Q S ds n l a w.drew) : (Code.region id ops true).wp P Q a w := by
  subst hn
  subst hl
  exact wp_region_last hm (h hS)
def takeB (md : Region.Mode) (ops : Array Oper) (ds : List Nat) (l l' : Array Bool) (i : Nat) : Bool :=
  Region.noSelect ops && Region.free md ops l i && (Region.ready md ops l).contains i && Region.closedB md ops l && Region.lastB md ops l ds i && (l.setIfInBounds i true == l')
theorem take_ {i : Nat} {N : Option Tmp} {oi : Oper} {v : Value} {fuel : Nat} {l : Array Bool} {a : Act} {w : World} (l' : Array Bool) (hi : ops[i]? = some oi) (hN : oi.dst = N) (hc : takeB md ops ds l l' i = true)
    (hQ : ∀ c a w, Q (.panic c) (a.put oi.dst v) w → Q (.panic c) a w) (hy : YieldsIf P ops S oi v a) (hS : S w) {a' : Act} (ha : a.put N v = a')
    (h : wpAnyLast P md ops Q S ds fuel l' a' w) : wpAnyLast P md ops Q S ds (fuel + 1) l a w := by
  subst ha
  subst hN
  simp only [takeB, Bool.and_eq_true, beq_iff_eq] at hc
  obtain ⟨⟨⟨⟨⟨h1, h2⟩, h3⟩, h4⟩, h5⟩, h6⟩ := hc
  subst h6
  exact wpAnyLast_take hi h1 h2 h3 h4 h5 hQ hy hS h
def anyB (md : Region.Mode) (ops : Array Oper) (l l' : Array Bool) (i : Nat) : Bool :=
  Region.noSelect ops && Region.free md ops l i && (Region.ready md ops l).contains i && (l.setIfInBounds i true == l')
/-- An operation that yields in every world (a move, a number, an address): taken first wherever it may come up, behind a store too. -/
theorem pure_ {i : Nat} {N : Option Tmp} {oi : Oper} {v : Value} {fuel : Nat} {l : Array Bool} {a : Act} {w : World} (l' : Array Bool) (hi : ops[i]? = some oi) (hN : oi.dst = N) (hc : anyB md ops l l' i = true)
    (hQ : ∀ c a w, Q (.panic c) (a.put oi.dst v) w → Q (.panic c) a w) (hy : Yields P ops oi v a) {a' : Act} (ha : a.put N v = a')
    (h : wpAnyLast P md ops Q S ds fuel l' a' w) : wpAnyLast P md ops Q S ds (fuel + 1) l a w := by
  subst ha
  subst hN
  simp only [anyB, Bool.and_eq_true, beq_iff_eq] at hc
  obtain ⟨⟨⟨h1, h2⟩, h3⟩, h6⟩ := hc
  subst h6
  exact wpAnyLast_any hi (Region.noSelect_spec h1) hQ fuel l a w (Region.free_spec hi h2) (by simpa using h3) hy h
def readyB (md : Region.Mode) (ops : Array Oper) (l l' : Array Bool) (i : Nat) : Bool := (Region.ready md ops l == [i]) && (l.setIfInBounds i true == l')
/-- One operation alone may come up now (a call, a build, an append ..): it is run, S is shown behind it. -/
theorem one_ {i : Nat} {N : Option Tmp} {oi : Oper} {fuel : Nat} {l : Array Bool} {a : Act} {w : World} (l' : Array Bool) (hi : ops[i]? = some oi) (hN : oi.dst = N) (hc : readyB md ops l l' i = true) (hd : i ∉ ds)
    (h : ∀ K : Act → World → Prop, Shut (∀ a' w', S w' → (S w' → wpAnyLast P md ops Q S ds fuel l' a' w') → K a' w') → if Region.wanted oi (yielded ops a.tmps) = true then Oper.wp P oi a w K Q else K (a.put N undef) w) :
    wpAnyLast P md ops Q S ds (fuel + 1) l a w := by
  subst hN
  simp only [readyB, Bool.and_eq_true, beq_iff_eq] at hc
  obtain ⟨h1, h2⟩ := hc
  subst h2
  exact wpAnyLast_ready h1 (by simp) (AllReadyL.cons hi hd (fun K hK => h K hK) AllReadyL.nil)
theorem done_ {l : Array Bool} {a : Act} {w : World} {n : Nat} (hr : (Region.ready md ops l == []) = true) (h : Q .normal a w) : wpAnyLast P md ops Q S ds n l a w := wpAnyLast_done (by simpa using hr) h n
/-! ### Several operations that write or call may come up: each order is walked, what follows is shown once (join_) -/
/-- The act with some destinations filled. -/
def putAll : Act → List (Tmp × Value) → Act
  | a, [] => a
  | a, (n, v) :: r => putAll (a.put (some n) v) r
/-- What follows, once: s the values that the orders leave, F what is known of them and of the world. -/
theorem join_ {σ : Type} {fuel : Nat} {l : Array Bool} {a : Act} {w : World} (fuel' : Nat) (l' : Array Bool) (ns : σ → List (Tmp × Value)) (F : σ → World → Prop)
    (hcont : ∀ s w', F s w' → wpAnyLast P md ops Q S ds fuel' l' (putAll a (ns s)) w')
    (h : (∀ s w', F s w' → wpAnyLast P md ops Q S ds fuel' l' (putAll a (ns s)) w') → wpAnyLast P md ops Q S ds fuel l a w) : wpAnyLast P md ops Q S ds fuel l a w := h hcont
/-- The act written out. -/
theorem norm_ {fuel : Nat} {l : Array Bool} {a a' : Act} {w : World} (ha : a = a') (h : wpAnyLast P md ops Q S ds fuel l a' w) : wpAnyLast P md ops Q S ds fuel l a w := by
  subst ha
  exact h
/-- A call of a Go function, by its contract. -/
theorem call_ {oi : Oper} {N : Option Tmp} {a : Act} {w : World} {K : Act → World → Prop} (f : FuncId) (args : Array Value) (hw : Region.wanted oi (yielded ops a.tmps) = true) (hN : oi.dst = N) (hrun : (execOp a.eval oi).run P w = .ok (.enter f args) w)
    (h : Calls P f args w fun e w' => ∃ v, e = .returned v ∧ K (a.put N v) w') : if Region.wanted oi (yielded ops a.tmps) = true then Oper.wp P oi a w K Q else K (a.put N undef) w := by
  rw [if_pos hw]
  subst hN
  unfold Oper.wp
  rw [hrun, Oper.upon_enter]
  refine h.mono fun e w'' hh => ?_
  obtain ⟨v, rfl, hk⟩ := hh
  exact hk
theorem enters_ {f : FuncId} {fn : Func} (hf : P.funcs[f]? = some fn) (hname : (fn.name == "runtime.NumGoroutine") = false) (hb : fn.body.isSome = true) (args : Array Value) (w : World) : (callFunc f args).run P w = .ok (.enter f args) w := by
  have h1 : fn.name ≠ "runtime.NumGoroutine" := by simpa using hname
  obtain ⟨c, hc⟩ := Option.isSome_iff_exists.1 hb
  simp [callFunc, hf, h1, hc]
/-- The same, the operation's run shown here: 'goes_ A.func3 (by kernel_rfl) rfl #[..] (by rfl) rfl rfl (by rfl) ?_'. -/
theorem goes_ {oi : Oper} {N : Option Tmp} {a : Act} {w : World} {K : Act → World → Prop} {f : FuncId} {fn : Func} {oas : Array Operand} {ts : Array TypeId} (hf : P.funcs[f]? = some fn) (hname : (fn.name == "runtime.NumGoroutine") = false) (hb : fn.body.isSome = true) (args : Array Value)
    (hw : Region.wanted oi (yielded ops a.tmps) = true) (hN : oi.dst = N) (hop : oi.op = .call { callee := .value (.func f), args := oas, argTypes := ts }) (hargs : oas.map a.eval = args)
    (h : Calls P f args w fun e w' => ∃ v, e = .returned v ∧ K (a.put N v) w') : if Region.wanted oi (yielded ops a.tmps) = true then Oper.wp P oi a w K Q else K (a.put N undef) w := by
  refine call_ f args hw hN ?_ h
  have he := enters_ hf hname hb args w
  unfold execOp
  simp [hop, resolve, Deferred.ofValue, invoke, Act.eval, hargs, he]
/-- A call in a plain region, oas an arm of go_wp2_with ('hd' first: it fails at once at another operation). -/
theorem goesL_ {rest : List Oper} {oi : Oper} {a : Act} {w : World} (N : Option Tmp) (hd : oi.dst = N) (hg : oi.guard = none) {f : FuncId} {fn : Func} {oas : Array Operand} {ts : Array TypeId} (hf : P.funcs[f]? = some fn) (hname : (fn.name == "runtime.NumGoroutine") = false) (hb : fn.body.isSome = true) (args : Array Value)
    (hop : oi.op = .call { callee := .value (.func f), args := oas, argTypes := ts }) (hargs : oas.map a.eval = args)
    (h : Calls P f args w fun e w' => ∃ v, e = .returned v ∧ wpList P ops Q rest (a.put N v) w') : wpList P ops Q (oi :: rest) a w := by
  refine wpList_plain hg fun K hK => ?_
  have he := enters_ hf hname hb args w
  have hrun : (execOp a.eval oi).run P w = .ok (.enter f args) w := by
    unfold execOp
    simp [hop, resolve, Deferred.ofValue, invoke, Act.eval, hargs, he]
  unfold Oper.wp
  rw [hrun, Oper.upon_enter]
  refine h.mono fun e w'' hh => ?_
  obtain ⟨v, rfl, hk⟩ := hh
  subst hd
  exact hK _ _ hk
theorem i64_w (n : Int) : IntKind.i64.wrap n = Go.RowKit.wrap64 n := by unfold Go.RowKit.wrap64; exact IntKind.wrap_i64 n
theorem i32_w (n : Int) : IntKind.i32.wrap n = Go.RowKit.wrap32 n := by unfold Go.RowKit.wrap32; exact IntKind.wrap_i32 n
end
end Go.Proofs.YtcbehfbfaonanaaW.PrintLast
end


section
/-! ### 40. Elements whose inner rows lie apart: what is stored into one says nothing of the others.
   S: oas R, with an owner function f (block to element's index). H: oas S with a hole: of element i its cells alone are told, its blocks are oki. -/
namespace Go.Proofs.YtcbehfbfaonanaaW.PrintWords
open Go.RowKit
namespace Kd
/-- An element with its index: its blocks are those that f gives to it. -/
def tag {α : Type} (f : Nat → Nat) (d : Kd α) : Kd (α × Nat) where
  sz := d.sz
  E := d.E
  K := fun w x cs => d.K w x.1 cs
  M := fun w base ok x cs => d.M w base (fun k => ok k ∧ f k = x.2) x.1 cs
  K_len := fun h => d.K_len h
  K_one := fun h => d.K_one h
  K_below := fun hb h => d.K_below hb h
  K_of_M := fun h => d.K_of_M h
  M_mono := fun hok h => d.M_mono (fun k hk => ⟨hok k hk.1, hk.2⟩) h
  M_bound := fun h => d.M_mono (fun _ hk => ⟨⟨hk.1.1, hk.2⟩, hk.1.2⟩) (d.M_bound h)
  M_move := fun hm h => d.M_move (fun k hk => hm k hk.1) h
  M_lower := fun hb h => d.M_lower hb h
/-- The cells themselves. -/
def raw (sz : Nat) : Kd (List Value) where
  sz := sz
  E := []
  K := fun _ x cs => cs = x ∧ cs.length = sz ∧ ∀ u ∈ cs, u.oneCell' = true
  M := fun _ _ _ x cs => cs = x ∧ cs.length = sz ∧ ∀ u ∈ cs, u.oneCell' = true
  K_len := fun h => h.2.1
  K_one := fun h => h.2.2
  K_below := fun _ h => h
  K_of_M := fun h => h
  M_mono := fun _ h => h
  M_bound := fun h => h
  M_move := fun _ h => h
  M_lower := fun _ h => h
/-- A row of elements (type e) of the call's own, no two of which lead to one block. -/
def S {α : Type} (d : Kd α) (e : Nat) (w : World) (base : Nat) (ok : Nat → Prop) (v : Value) (xs : List α) : Prop := ∃ f, (tag f d).R e w base ok v xs.zipIdx
section
variable {α β : Type} {d : Kd α} {d' : Kd β} {e e' : Nat} {w w1 W : World} {base b : Nat} {ok ok' okv oku : Nat → Prop} {u v : Value} {xs : List α} {ys : List β}
/-- A row whose elements lead to nothing: its blocks are its own one. -/
theorem R_tight (hE : d.E = []) (h : d.R e w base ok v xs) : d.R e w base (fun k => some k = v.ownBlock) v xs := by
  obtain ⟨h0, inner, ho, hr⟩ := h
  refine ⟨fun k hk => hk.symm, inner, ho, hr.imp_ (fun p c hp => d.M_mono (fun k hk => ?_) (d.M_bound hp))⟩
  obtain ⟨_, _, _, q, hq, _⟩ := hk
  rw [hE] at hq
  cases hq
theorem S_nil (d : Kd α) (e : Nat) (w : World) (base : Nat) (ok : Nat → Prop) : S d e w base ok (.slice none 0 0) [] := ⟨fun _ => 0, R_nil _ _ _ _ _⟩
end
section
variable {α β : Type} {d : Kd α} {d' : Kd β} {e e' g : Nat} {w w1 W : World} {base b : Nat} {ok ok' okv oku : Nat → Prop} {u v : Value} {xs : List α} {ys : List β}
end
/-! #### append, make, literals: the new element's blocks are none of the elder ones' -/
section
variable {P : Program} {ops : Array Oper} {rest : List Oper} {o : Oper} {a : Act} {Q : Exit → Act → World → Prop} {Kc : Act → World → Prop} {α : Type}
end
/-! #### a row with a hole: element i is lent, its blocks are oki; of it the row says its cells alone -/
/-- Element i is these cells; the others are d's. -/
def gap {α : Type} (f : Nat → Nat) (d : Kd α) (i : Nat) (c : List Value) : Kd (α × Nat) where
  sz := d.sz
  E := d.E
  K := fun w x cs => (x.2 = i → cs = c ∧ cs.length = d.sz ∧ ∀ u ∈ cs, u.oneCell' = true) ∧ (x.2 ≠ i → d.K w x.1 cs)
  M := fun w base ok x cs => (x.2 = i → cs = c ∧ cs.length = d.sz ∧ ∀ u ∈ cs, u.oneCell' = true) ∧ (x.2 ≠ i → d.M w base (fun k => ok k ∧ f k = x.2) x.1 cs)
  K_len := fun {w x cs} h => by
    by_cases hx : x.2 = i
    · exact (h.1 hx).2.1
    · exact d.K_len (h.2 hx)
  K_one := fun {w x cs} h => by
    by_cases hx : x.2 = i
    · exact (h.1 hx).2.2
    · exact d.K_one (h.2 hx)
  K_below := fun hb h => ⟨h.1, fun hx => d.K_below hb (h.2 hx)⟩
  K_of_M := fun h => ⟨h.1, fun hx => d.K_of_M (h.2 hx)⟩
  M_mono := fun hok h => ⟨h.1, fun hx => d.M_mono (fun k hk => ⟨hok k hk.1, hk.2⟩) (h.2 hx)⟩
  M_bound := fun h => ⟨h.1, fun hx => d.M_mono (fun _ hk => ⟨⟨hk.1.1, hk.2⟩, hk.1.2⟩) (d.M_bound (h.2 hx))⟩
  M_move := fun hm h => ⟨h.1, fun hx => d.M_move (fun k hk => hm k hk.1) (h.2 hx)⟩
  M_lower := fun hb h => ⟨h.1, fun hx => d.M_lower hb (h.2 hx)⟩
def H {α : Type} (d : Kd α) (e : Nat) (w : World) (base : Nat) (ok : Nat → Prop) (v : Value) (xs : List α) (i : Int) (oki : Nat → Prop) (c : List Value) : Prop :=
  (∀ k, oki k → ok k) ∧ ∃ f, (gap f d i.toNat c).R e w base (fun k => ok k ∧ ¬ oki k) v xs.zipIdx
section
variable {α β : Type} {d : Kd α} {e e' g n cap : Nat} {w w1 W : World} {base : Nat} {ok ok' oki okp : Nat → Prop} {u v : Value} {xs : List α} {i : Int} {c : List Value}
end
section
variable {P : Program} {ops : Array Oper} {rest : List Oper} {o : Oper} {a : Act} {Q : Exit → Act → World → Prop} {α : Type}
end
end Kd
end Go.Proofs.YtcbehfbfaonanaaW.PrintWords
end


section
/-! ### 41. Arrays '[n]T' as_ values: a kind (a field, an element of a row), an element read, an element set -/
namespace Go.Proofs.YtcbehfbfaonanaaW.PrintWords
open Go.RowKit
namespace Kd
theorem reps_one {α : Type} {R : α → List Value → Prop} {size : Nat} {ps : List α} {cs : List Value} (h : Reps R size ps cs) (hs0 : 0 < size) (hR : ∀ p c, R p c → ∀ u ∈ c, u.oneCell' = true) : ∀ u ∈ cs, u.oneCell' = true := by
  intro u hu
  obtain ⟨q, hq, rfl⟩ := List.mem_iff_getElem.1 hu
  have hql : q / size < ps.length := by
    rw [Nat.div_lt_iff_lt_mul hs0, ← h.1]
    exact hq
  refine hR _ _ (h.2 (q / size) _ (List.getElem?_eq_getElem hql)) _ ?_
  rw [List.mem_iff_getElem?]
  refine ⟨q % size, ?_⟩
  rw [List.getElem?_take, if_pos (Nat.mod_lt _ hs0), List.getElem?_drop, Nat.mul_comm, Nat.div_add_mod, List.getElem?_eq_getElem hq]
/-- An array of n elements of kind d. -/
def arr {α : Type} (n : Nat) (d : Kd α) (hs : 0 < d.sz) : Kd (List α) where
  sz := n * d.sz
  E := d.E
  K := fun w xs cs => xs.length = n ∧ Reps (d.K w) d.sz xs cs
  M := fun w base ok xs cs => xs.length = n ∧ Reps (d.M w base ok) d.sz xs cs
  K_len := fun h => by rw [← h.1]; exact h.2.1
  K_one := fun h => reps_one h.2 hs (fun _ _ hk => d.K_one hk)
  K_below := fun hb h => ⟨h.1, h.2.imp_ (fun _ _ hk => d.K_below hb hk)⟩
  K_of_M := fun h => ⟨h.1, h.2.imp_ (fun _ _ hk => d.K_of_M hk)⟩
  M_mono := fun hok h => ⟨h.1, h.2.imp_ (fun _ _ hk => d.M_mono hok hk)⟩
  M_bound := fun h => ⟨h.1, h.2.imp_ (fun _ _ hk => d.M_bound hk)⟩
  M_move := fun hm h => ⟨h.1, h.2.imp_ (fun _ _ hk => d.M_move hm hk)⟩
  M_lower := fun hb h => ⟨h.1, h.2.imp_ (fun _ _ hk => d.M_lower hb hk)⟩
section
variable {α : Type} {n : Nat} {d : Kd α} {hs : 0 < d.sz} {w : World} {base : Nat} {ok : Nat → Prop} {xs : List α} {cs : List Value}
end
section
variable {α : Type} {n : Nat} {enc : α → Value} {h1 : ∀ x, (enc x).oneCell' = true} {hs : 0 < (scalar enc h1).sz} {w : World} {base : Nat} {ok : Nat → Prop} {xs : List α} {cs : List Value}
end
end Kd
end Go.Proofs.YtcbehfbfaonanaaW.PrintWords
end


section
/-! ### 43. What is read beside a state: it stays read whatever the state's calls turn ('∀ W', KeepBut w W' g none → d.C W' A n xs') -/
namespace Go.Proofs.YtcbehfbfaonanaaW.PrintWords
open Go.RowKit
namespace Kd
/-- What a kind reads lies in the blocks: nothing else of the world is looked at. -/
structure Heap {α : Type} (d : Kd α) : Prop where
  K : ∀ {w w1 : World} {x : α} {cs : List Value}, (∀ k, k < w.heap.size → w1.heap[k]? = w.heap[k]?) → d.K w x cs → d.K w1 x cs
theorem cell_heap {w w1 : World} (hb : ∀ k, k < w.heap.size → w1.heap[k]? = w.heap[k]?) {a : Addr} {v : Value} (h : w.cell? a = some v) : w1.cell? a = some v := by
  have := hb a.block (World.block_lt_of_cell? w a h)
  simpa [World.cell?, this] using h
theorem Heap.C {α : Type} {d : Kd α} (hd : Heap d) {w w1 : World} {A : Option Addr} {n : Nat} {xs : List α} (hb : ∀ k, k < w.heap.size → w1.heap[k]? = w.heap[k]?) (h : d.C w A n xs) : d.C w1 A n xs :=
  ⟨h.1, h.2.1, fun hn => by
    obtain ⟨ad, e, hc⟩ := h.2.2 hn
    refine ⟨ad, e, fun j p hj => ?_⟩
    obtain ⟨c, hs, hr, hcell⟩ := hc j p hj
    exact ⟨c, hs, hd.K hb hr, fun i u hu => cell_heap hb (hcell i u hu)⟩⟩
theorem heap_int (k : IntKind) : Heap (Kd.int k) := ⟨fun _ h => h⟩
section
variable {α : Type} {d : Kd α} {e base g n c : Nat} {ok : Nat → Prop} {w w0 W : World} {A : Option Addr} {xs : List α}
end
end Kd
end Go.Proofs.YtcbehfbfaonanaaW.PrintWords
end


section
/-! ### 45. What a call keeps: all but the blocks of S (the rows that it was given to write) and what is new since -/
namespace Go.Proofs.YtcbehfbfaonanaaW.PrintWords
open Go.RowKit
def Kept (w W : World) (S : Nat → Prop) : Prop := w.heap.size ≤ W.heap.size ∧ ∀ i, i < w.heap.size → ¬ S i → W.heap[i]? = w.heap[i]?
section
variable {w W W2 : World} {S S2 S' : Nat → Prop}
theorem Kept.refl (w : World) (S : Nat → Prop) : Kept w w S := ⟨Nat.le_refl _, fun _ _ _ => rfl⟩
theorem Kept.of_below (h : Below w.heap.size w W) (S : Nat → Prop) : Kept w W S := ⟨h.size, fun i hi _ => h.block i hi⟩
theorem Kept.mono (h : Kept w W S) (hs : ∀ k, S k → S' k) : Kept w W S' := ⟨h.1, fun i hi hn => h.2 i hi (fun hk => hn (hs i hk))⟩
theorem Kept.then_ (h : Kept w W S) (k : Kept W W2 S2) (hs : ∀ k, S2 k → S k ∨ w.heap.size ≤ k) : Kept w W2 S :=
  ⟨Nat.le_trans h.1 k.1, fun i hi hn => (k.2 i (Nat.lt_of_lt_of_le hi h.1) (fun h2 => (hs i h2).elim hn (fun h3 => by omega))).trans (h.2 i hi hn)⟩
theorem Kept.below (h : Kept w W S) (hb : Below W.heap.size W W2) : Kept w W2 S := h.then_ (Kept.of_below hb (fun _ => False)) (fun _ hk => hk.elim)
theorem Kept.alloc (h : Kept w W S) (o : Obj) : Kept w (W.alloc o) S := h.below (below_alloc (Below.refl _ _) o)
theorem Kept.drew (h : Kept w W S) : Kept w W.drew S := h
theorem Kept.drewN (h : Kept w W S) (m : Nat) : Kept w (W.drewN m) S := h
theorem Kept.setCell (h : Kept w W S) {p : Addr} (hp : S p.block ∨ w.heap.size ≤ p.block) (u : Value) : Kept w (W.setCell p u) S :=
  h.then_ (S2 := fun k => k = p.block) ⟨by simp [World.setCell], fun i _ hn => Below.heap_setCell W p u i hn⟩ (fun k hk => by rw [hk]; exact hp)
/-- Beside a state: what was written is new since. -/
theorem Kept.keep {g : Nat} (h : KeepBut w W g none) (k : Kept W W2 S2) (hs : ∀ k, S2 k → w.heap.size ≤ k) : KeepBut w W2 g none :=
  ⟨Nat.le_trans h.1 k.1, fun i hi hg hr => (k.2 i (Nat.lt_of_lt_of_le hi h.1) (fun h2 => by have := hs i h2; omega)).trans (h.2 i hi hg hr)⟩
end
namespace Kd
section
variable {α : Type} {d : Kd α} {e base n c : Nat} {ok oki S S2 : Nat → Prop} {w w0 W W1 W2 : World} {v : Value} {A : Option Addr} {xs : List α} {i : Int} {cs : List Value}
end
end Kd
end Go.Proofs.YtcbehfbfaonanaaW.PrintWords
end


section
/-! ### 46. Values that share: what is only read, with the blocks it lies in (its footprint 'ok'): Foot, F (a row that is read), FK (an element's cells) -/
namespace Go.Proofs.YtcbehfbfaonanaaW.PrintWords
open Go.RowKit
/-- P holds in W and in every world that has W's blocks of ok. -/
def Foot (P : World → Prop) (W : World) (ok : Nat → Prop) : Prop := ∀ W' : World, (∀ k, ok k → k < W.heap.size → W'.heap[k]? = W.heap[k]?) → P W'
theorem heap_lt {W W1 : World} {k : Nat} (h : W1.heap[k]? = W.heap[k]?) (hlt : k < W.heap.size) : k < W1.heap.size := by
  rw [Array.getElem?_eq_getElem hlt] at h
  exact (Array.getElem?_eq_some_iff.1 h).1
namespace Foot
variable {P Q : World → Prop} {W W1 : World} {ok ok' : Nat → Prop}
theorem now (h : Foot P W ok) : P W := h W (fun _ _ _ => rfl)
theorem mono (h : Foot P W ok) (hok : ∀ k, ok k → ok' k) : Foot P W ok' := fun W' hW => h W' (fun k hk hlt => hW k (hok k hk) hlt)
theorem bound (h : Foot P W ok) : Foot P W (fun k => ok k ∧ k < W.heap.size) := fun W' hW => h W' (fun k hk hlt => hW k ⟨hk, hlt⟩ hlt)
theorem step (h : Foot P W ok) (hm : ∀ k, ok k → k < W.heap.size → W1.heap[k]? = W.heap[k]?) : Foot P W1 ok := fun W' hW => h W' (fun k hk hlt => (hW k hk (heap_lt (hm k hk hlt) hlt)).trans (hm k hk hlt))
theorem imp (h : Foot P W ok) (hi : ∀ W', P W' → Q W') : Foot Q W ok := fun W' hW => hi W' (h W' hW)
/-- Moved, and still elder than what is new since W. -/
theorem old (h : Foot P W ok) (hb : Below W.heap.size W W1) : Foot P W1 (fun k => ok k ∧ k < W.heap.size) := (h.bound).step (fun k _ hlt => hb.block k hlt)
end Foot
namespace Kd
/-- A row that is only read: what it leads to lies in ok. -/
def F {α : Type} (d : Kd α) (W : World) (ok : Nat → Prop) (A : Option Addr) (n : Nat) (xs : List α) : Prop := Foot (fun W => d.C W A n xs) W ok
/-- An element's cells: what they lead to lies in ok. -/
def FK {α : Type} (d : Kd α) (W : World) (ok : Nat → Prop) (x : α) (c : List Value) : Prop := Foot (fun W => d.K W x c) W ok
section
variable {α β : Type} {d : Kd α} {e base n n' cc g N : Nat} {ok ok' okp S : Nat → Prop} {w w0 w1 W W1 : World} {A A' : Option Addr} {u v v1 : Value} {xs : List α} {xs' : List β} {d' : Kd β} {x : α} {c : List Value}
theorem F_now (h : F d W ok A n xs) : d.C W A n xs := Foot.now h
theorem F_mono (h : F d W ok A n xs) (hok : ∀ k, ok k → ok' k) : F d W ok' A n xs := Foot.mono h hok
theorem F_step (h : F d W ok A n xs) (hm : ∀ k, ok k → k < W.heap.size → W1.heap[k]? = W.heap[k]?) : F d W1 ok A n xs := Foot.step h hm
theorem F_imp (h : F d W ok A n xs) (hi : ∀ W', d.C W' A n xs → d'.C W' A' n' xs') : F d' W ok A' n' xs' := Foot.imp h hi
theorem F_below (h : F d W ok A n xs) (hb : Below W.heap.size W W1) : F d W1 ok A n xs := F_step h (fun k _ hlt => hb.block k hlt)
theorem F_alloc (h : F d W ok A n xs) (o : Obj) : F d (W.alloc o) ok A n xs := F_below h (below_alloc (Below.refl _ _) o)
theorem F_drew (h : F d W ok A n xs) : F d W.drew ok A n xs := F_below h (below_drew (Below.refl _ _))
theorem F_drewN (h : F d W ok A n xs) (m : Nat) : F d (W.drewN m) ok A n xs := F_below h (pw_below_drewN (Below.refl _ _) m)
theorem F_nil (d : Kd α) (W : World) (ok : Nat → Prop) : F d W ok none ([] : List α).length [] := fun W' _ => C_nil d W'
/-- A new row's block is none of an elder one's. -/
theorem F_elder' (h : F d W ok A n xs) (hbase : ∀ k, v.ownBlock = some k → W.heap.size ≤ k) (hb : Below W.heap.size W W1) : F d W1 (fun k => ok k ∧ some k ≠ v.ownBlock) A n xs :=
  F_mono (Foot.old h hb) (fun k hk => ⟨hk.1, fun he => by have := hbase k he.symm; have := hk.2; omega⟩)
/-- What came in, a row of the call's own. -/
theorem C_F (hd : Heap d) (h : d.C w A n xs) : F d w (fun k => k < w.heap.size) A n xs := fun _ hW => hd.C (fun k hlt => hW k hlt hlt) h
theorem R_F (h : d.R e W base ok (.slice A n cc) xs) : F d W ok A n xs := fun W' hW => by
  have h2 := R_reads' (R_step h hW)
  rw [h2.1]
  exact h2.2.2
/-- The same of an element's cells. -/
theorem FK_now (h : FK d W ok x c) : d.K W x c := Foot.now h
theorem FK_mono (h : FK d W ok x c) (hok : ∀ k, ok k → ok' k) : FK d W ok' x c := Foot.mono h hok
theorem FK_bound (h : FK d W ok x c) : FK d W (fun k => ok k ∧ k < W.heap.size) x c := Foot.bound h
theorem FK_step (h : FK d W ok x c) (hm : ∀ k, ok k → k < W.heap.size → W1.heap[k]? = W.heap[k]?) : FK d W1 ok x c := Foot.step h hm
theorem FK_of_M (h : d.M W base ok x c) : FK d W ok x c := fun _ hW => d.K_of_M (M_step h hW)
end
end Kd
end Go.Proofs.YtcbehfbfaonanaaW.PrintWords
end




section
/-! ### 47. N: a row of the call's own whose elements share (what they lead to is only read) -/
namespace Go.Proofs.YtcbehfbfaonanaaW.PrintWords
open Go.RowKit
namespace Kd
/-- The cells one behind the other, element by element. -/
def chunks (sz : Nat) (n : Nat) (inner : List Value) : List (List Value) := (List.range n).map fun j => (inner.drop (j * sz)).take sz
theorem chunks_length (sz n : Nat) (inner : List Value) : (chunks sz n inner).length = n := by simp [chunks]
theorem chunks_at {sz n : Nat} {inner : List Value} {j : Nat} (hj : j < n) : (chunks sz n inner)[j]? = some ((inner.drop (j * sz)).take sz) := by simp [chunks, hj]
theorem chunks_get {sz n : Nat} {inner : List Value} {j : Nat} {c : List Value} (h : (chunks sz n inner)[j]? = some c) : c = (inner.drop (j * sz)).take sz := by
  have hj : j < n := by have := (List.getElem?_eq_some_iff.1 h).1; rwa [chunks_length] at this
  rw [chunks_at hj] at h
  injection h with h
  exact h.symm
theorem reps_raw {α : Type} {Rr : α → List Value → Prop} {sz : Nat} {xs : List α} {inner : List Value} (h : Reps Rr sz xs inner) (hR : ∀ x c, Rr x c → c.length = sz ∧ ∀ u ∈ c, u.oneCell' = true) : Reps (fun x cs => cs = x ∧ cs.length = sz ∧ ∀ u ∈ cs, u.oneCell' = true) sz (chunks sz xs.length inner) inner := by
  refine ⟨by rw [chunks_length]; exact h.1, fun j p hj => ?_⟩
  have hjl : j < xs.length := by have := (List.getElem?_eq_some_iff.1 hj).1; rwa [chunks_length] at this
  have hp := chunks_get hj
  exact ⟨hp.symm, hR _ _ (h.2 j _ (List.getElem?_eq_getElem hjl))⟩
section
variable {α : Type} {d : Kd α} {e base n cc g : Nat} {ok ok' okp S : Nat → Prop} {w w1 W W1 : World} {A : Option Addr} {u v v1 : Value} {xs : List α} {x : α} {c : List Value}
/-- A row of elements (type e) of the call's own; what the elements lead to is only read, and is not this row. -/
def N {α : Type} (d : Kd α) (e : Nat) (w : World) (base : Nat) (ok : Nat → Prop) (v : Value) (xs : List α) : Prop :=
  (∀ k, v.ownBlock = some k → ok k) ∧ ∃ rows : List (List Value), rows.length = xs.length ∧ (raw d.sz).R e w base (fun k => some k = v.ownBlock) v rows ∧ ∀ (j : Nat) (x : α) (c : List Value), xs[j]? = some x → rows[j]? = some c → FK d w (fun k => ok k ∧ some k ≠ v.ownBlock) x c
theorem raw_tight {sz : Nat} {rows : List (List Value)} (h : (raw sz).R e w base ok v rows) : (raw sz).R e w base (fun k => some k = v.ownBlock) v rows := R_tight rfl h
theorem R_N (h : d.R e w base ok v xs) : N d e w base ok v xs := by
  obtain ⟨h0, inner, ho, hr⟩ := h
  refine ⟨h0, chunks d.sz xs.length inner, chunks_length _ _ _, ⟨fun k hk => hk.symm, inner, by rw [chunks_length]; exact ho, reps_raw hr (fun x c hp => ⟨d.K_len (d.K_of_M hp), d.K_one (d.K_of_M hp)⟩)⟩, fun j x c hx hc => ?_⟩
  rw [chunks_get hc]
  exact FK_of_M (hr.2 j x hx)
theorem N_nil (d : Kd α) (e : Nat) (w : World) (base : Nat) (ok : Nat → Prop) : N d e w base ok (.slice none 0 0) [] := R_N (R_nil _ _ _ _ _)
theorem N_mono (h : N d e w base ok v xs) (hok : ∀ k, ok k → ok' k) : N d e w base ok' v xs := by
  obtain ⟨h0, rows, hl, hR, hf⟩ := h
  exact ⟨fun k hk => hok k (h0 k hk), rows, hl, hR, fun j x c hx hc => FK_mono (hf j x c hx hc) (fun k hk => ⟨hok k hk.1, hk.2⟩)⟩
theorem N_lt (h : N d e w base ok v xs) : ∀ k, v.ownBlock = some k → k < w.heap.size := by
  obtain ⟨_, rows, _, hR, _⟩ := h
  exact R_lt hR
theorem N_base (h : N d e w base ok v xs) : ∀ k, v.ownBlock = some k → base ≤ k := by
  obtain ⟨_, rows, _, hR, _⟩ := h
  exact R_base hR
theorem N_bound (h : N d e w base ok v xs) : N d e w base (fun k => ok k ∧ k < w.heap.size) v xs := by
  have hlt := N_lt h
  obtain ⟨h0, rows, hl, hR, hf⟩ := h
  exact ⟨fun k hk => ⟨h0 k hk, hlt k hk⟩, rows, hl, hR, fun j x c hx hc => FK_mono (FK_bound (hf j x c hx hc)) (fun k hk => ⟨⟨hk.1.1, hk.2⟩, hk.1.2⟩)⟩
theorem N_lower {base' : Nat} (h : N d e w base ok v xs) (hb : base' ≤ base) : N d e w base' ok v xs := by
  obtain ⟨h0, rows, hl, hR, hf⟩ := h
  exact ⟨h0, rows, hl, R_lower hR hb, hf⟩
theorem N_step (h : N d e w base ok v xs) (hm : ∀ k, ok k → k < w.heap.size → w1.heap[k]? = w.heap[k]?) : N d e w1 base ok v xs := by
  obtain ⟨h0, rows, hl, hR, hf⟩ := h
  exact ⟨h0, rows, hl, R_step hR (fun k hk hlt => hm k (h0 k hk.symm) hlt), fun j x c hx hc => FK_step (hf j x c hx hc) (fun k hk hlt => hm k hk.1 hlt)⟩
theorem N_below (h : N d e w base ok v xs) (hb : Below w.heap.size w w1) : N d e w1 base ok v xs := N_step h (fun k _ hk => hb.block k hk)
theorem N_alloc (h : N d e w base ok v xs) (o : Obj) : N d e (w.alloc o) base ok v xs := N_below h (below_alloc (Below.refl _ _) o)
theorem N_drew (h : N d e w base ok v xs) : N d e w.drew base ok v xs := N_below h (below_drew (Below.refl _ _))
theorem N_drewN (h : N d e w base ok v xs) (m : Nat) : N d e (w.drewN m) base ok v xs := N_below h (pw_below_drewN (Below.refl _ _) m)
theorem N_elder' (h : N d e W base ok v xs) (hbase : ∀ k, u.ownBlock = some k → W.heap.size ≤ k) (hb : Below W.heap.size W w1) : N d e w1 base (fun k => ok k ∧ some k ≠ u.ownBlock) v xs :=
  N_mono (N_below (N_bound h) hb) (fun k hk => ⟨hk.1, fun he => by have := hbase k he.symm; have := hk.2; omega⟩)
theorem N_slice (h : N d e w base ok v xs) : ∃ A c, v = .slice A xs.length c := by
  obtain ⟨_, rows, hl, hR, _⟩ := h
  obtain ⟨A, c, he⟩ := R_slice hR
  exact ⟨A, c, by rw [he, hl]⟩
theorem N_reads' {n c : Nat} (h : N d e w base ok (.slice A n c) xs) : n = xs.length ∧ n ≤ c ∧ d.C w A xs.length xs := by
  obtain ⟨_, rows, hl, hR, hf⟩ := h
  obtain ⟨hn, hc, hC⟩ := R_reads' hR
  refine ⟨by omega, hc, ?_⟩
  rw [hl] at hC
  refine ⟨rfl, hC.2.1, fun hp => ?_⟩
  obtain ⟨ad, he, hcell⟩ := hC.2.2 hp
  refine ⟨ad, he, fun j p hj => ?_⟩
  have hjl : j < rows.length := by have := (List.getElem?_eq_some_iff.1 hj).1; omega
  obtain ⟨c', hcl, hK, hcc⟩ := hcell j _ (List.getElem?_eq_getElem hjl)
  have hk := FK_now (hf j p _ hj (List.getElem?_eq_getElem hjl))
  refine ⟨c', hcl, ?_, hcc⟩
  rw [show c' = rows[j] from hK.1]
  exact hk
end
end Kd
end Go.Proofs.YtcbehfbfaonanaaW.PrintWords
end


section
/-! ### 48. N's events: append, a whole row appended, zeros appended, literals, make, stores, cuts, an element taken out -/
namespace Go.Proofs.YtcbehfbfaonanaaW.PrintWords
open Go.RowKit
namespace Kd
section
variable {α : Type} {d : Kd α} {e base n cap g : Nat} {ok ok' okp : Nat → Prop} {w w1 W : World} {v v1 : Value} {xs ys : List α}
/-- What was made just now. -/
theorem N_made {rows : List (List Value)} (hR : (raw d.sz).R e w1 base (fun k => k = W.heap.size) v1 rows) (hg : W.grownBy w1 none) (hat : ∃ b, v1.ownBlock = some b ∧ W.heap.size ≤ b) (hl : rows.length = xs.length) (hf : ∀ (j : Nat) (x : α) (c : List Value), xs[j]? = some x → rows[j]? = some c → FK d W okp x c)
    (hok : ∀ k, okp k → ok k) (hfresh : ok W.heap.size) : N d e w1 base ok v1 xs := by
  obtain ⟨b, hb, hle⟩ := hat
  refine ⟨fun k hk => by rw [hR.1 k hk]; exact hfresh, rows, hl, raw_tight hR, fun j x c hx hc => ?_⟩
  refine FK_mono (FK_step (FK_bound (hf j x c hx hc)) (fun k hk hlt => hg.block k hlt (by simp))) (fun k hk => ⟨hok k hk.1, fun he => ?_⟩)
  rw [hb] at he
  injection he with he
  have := hk.2
  omega
end
section
variable {P : Program} {ops : Array Oper} {rest : List Oper} {o : Oper} {a : Act} {Q : Exit → Act → World → Prop} {Kc : Act → World → Prop} {α : Type}
/-- A literal '[]T{..}': inner its cells; what the elements lead to is okp. -/
theorem N_lit (d : Kd α) {w0 W : World} (base e : Nat) (hgd : o.guard = none) {N' : Tmp} (_hd : o.dst = some N') {xs : List α} {inner : List Value} {ok okp : Nat → Prop}
    (hrun : (execOp a.eval o).run P W = .ok (.value (.slice (some ⟨W.heap.size, 0, none⟩) xs.length xs.length)) (W.alloc (.cells inner.toArray e)))
    (hrep : Reps (FK d W okp) d.sz xs inner) (hok : ∀ k, okp k → ok k) (hfresh : ok W.heap.size) (HB : Below base w0 W) (hbase : base ≤ W.heap.size) (hm : xs.length ≤ 9223372036854775807)
    (h : ∀ v1 w1, N d e w1 base ok v1 xs → Below base w0 w1 → W.grownBy w1 none → (∃ b, v1.ownBlock = some b ∧ W.heap.size ≤ b) → wpList P ops Q rest (a.put o.dst v1) w1) :
    wpList P ops Q (o :: rest) a W := by
  refine R_lit (raw d.sz) base e hgd _hd (xs := chunks d.sz xs.length inner) (inner := inner) (ok := fun k => k = W.heap.size) (okp := fun _ => False) (by rw [chunks_length]; exact hrun) (reps_raw hrep (fun y c hk => ⟨d.K_len (FK_now hk), d.K_one (FK_now hk)⟩)) (fun _ hk => hk.elim) rfl HB hbase (by rw [chunks_length]; exact hm) ?_
  intro v1 w1 hr hb hg hat
  exact h v1 w1 (N_made hr hg hat (chunks_length _ _ _) (fun j y c hy hc => by rw [chunks_get hc]; exact hrep.2 j y hy) hok hfresh) hb hg hat
end
end Kd
end Go.Proofs.YtcbehfbfaonanaaW.PrintWords
end


section
namespace Go.Proofs.YtcbehfbfaonanaaW.PrintMore
open Go.RowKit Go.Proofs.YtcbehfbfaonanaaW.PrintWords
namespace Kd
open Go.Proofs.YtcbehfbfaonanaaW.PrintWords.Kd
end Kd

namespace Kd
open Go.Proofs.YtcbehfbfaonanaaW.PrintWords.Kd
section
variable {α : Type} {d : Kd α} {e base g N : Nat} {ok : Nat → Prop} {W w1 : World} {u v : Value} {xs : List α}
end
end Kd
/-- 'max' and 'min' of two whole numbers. -/
theorem max2_int (k k' : IntKind) (x y : Int) : Builtin.max2 (.int k x) (.int k' y) = pure (.int k (if x < y then y else x)) := by simp only [Builtin.max2, gt_iff_lt]
theorem min2_int (k k' : IntKind) (x y : Int) : Builtin.min2 (.int k x) (.int k' y) = pure (.int k (if y < x then y else x)) := by simp only [Builtin.min2]
theorem max_two (ats : Array TypeId) (ty : TypeId) (a b : Value) : Builtin.max_ ats ty #[a, b] = (Builtin.max2 a b >>= fun s => pure s) := by simp only [Builtin.max_, List.foldlM_cons, List.foldlM_nil]
theorem min_two (ats : Array TypeId) (ty : TypeId) (a b : Value) : Builtin.min_ ats ty #[a, b] = (Builtin.min2 a b >>= fun s => pure s) := by simp only [Builtin.min_, List.foldlM_cons, List.foldlM_nil]
theorem max_three (ats : Array TypeId) (ty : TypeId) (a b c : Value) : Builtin.max_ ats ty #[a, b, c] = (Builtin.max2 a b >>= fun s => Builtin.max2 s c >>= fun s => pure s) := by simp only [Builtin.max_, List.foldlM_cons, List.foldlM_nil]
theorem min_three (ats : Array TypeId) (ty : TypeId) (a b c : Value) : Builtin.min_ ats ty #[a, b, c] = (Builtin.min2 a b >>= fun s => Builtin.min2 s c >>= fun s => pure s) := by simp only [Builtin.min_, List.foldlM_cons, List.foldlM_nil]
theorem max_four (ats : Array TypeId) (ty : TypeId) (a b c d : Value) : Builtin.max_ ats ty #[a, b, c, d] = (Builtin.max2 a b >>= fun s => Builtin.max2 s c >>= fun s => Builtin.max2 s d >>= fun s => pure s) := by simp only [Builtin.max_, List.foldlM_cons, List.foldlM_nil]
theorem min_four (ats : Array TypeId) (ty : TypeId) (a b c d : Value) : Builtin.min_ ats ty #[a, b, c, d] = (Builtin.min2 a b >>= fun s => Builtin.min2 s c >>= fun s => Builtin.min2 s d >>= fun s => pure s) := by simp only [Builtin.min_, List.foldlM_cons, List.foldlM_nil]
end Go.Proofs.YtcbehfbfaonanaaW.PrintMore
namespace Go.Proofs.YtcbehfbfaonanaaW.PrintWords
open Go.RowKit
section
variable {P : Program} {ops : Array Oper} {rest : List Oper} {o : Oper} {a : Act} {Q : Exit → Act → World → Prop} {W : World}
/-- The operation is a call of this function (a cheap look ahead of a dear step). -/
theorem gate_callee {f : FuncId} {oas : Array Operand} {ts : Array TypeId} (_ho : o.op = .call { callee := .value (.func f), args := oas, argTypes := ts }) (h : wpList P ops Q (o :: rest) a W) : wpList P ops Q (o :: rest) a W := h
/-- The operation is a builtin over these places. -/
theorem gate_builtin {b : Builtin} {xs : Array Operand} {ts : Array TypeId} (_ho : o.op = .call { callee := .builtin b, args := xs, argTypes := ts }) (h : wpList P ops Q (o :: rest) a W) : wpList P ops Q (o :: rest) a W := h
end
namespace Kd
section
variable {α : Type} {d : Kd α} {e base : Nat} {ok : Nat → Prop} {W w1 : World} {v : Value} {xs : List α}
end
section
variable {α : Type} {d : Kd α} {e base g n cap : Nat} {ok oki okp : Nat → Prop} {W : World} {xs : List α} {i : Int} {c : List Value}
end
section
variable {α : Type} {d : Kd α} {e base b b' g N : Nat} {ok ok1 : Nat → Prop} {W W2 w1 : World} {u v : Value} {xs ys : List α} {S : Nat → Prop}
end
end Kd
end Go.Proofs.YtcbehfbfaonanaaW.PrintWords
namespace Go.Proofs.YtcbehfbfaonanaaW.PrintWords
open Go.RowKit
namespace Kd
/-- A row that is only read, told by its value: its form, its length, what it leads to (in ok). e and base say nothing; they make it oas the others are. -/
def V {α : Type} (d : Kd α) (_e : Nat) (W : World) (_base : Nat) (ok : Nat → Prop) (v : Value) (xs : List α) : Prop := ∃ A c, v = .slice A xs.length c ∧ xs.length ≤ c ∧ F d W ok A xs.length xs
section
variable {α β : Type} {d : Kd α} {e base base' n m c g N' lo hi : Nat} {ok ok' S : Nat → Prop} {w W w1 : World} {A : Option Addr} {ad : Addr} {u v v1 : Value} {xs : List α}
theorem V_map (h : V d e W base ok v xs) (hF : ∀ A, F d W ok A xs.length xs → F d w1 ok' A xs.length xs) : V d e w1 base' ok' v xs := by
  obtain ⟨A, c, hv, hl, hf⟩ := h
  exact ⟨A, c, hv, hl, hF A hf⟩
theorem V_mk (hl : xs.length ≤ c) (hf : F d W ok A xs.length xs) : V d e W base ok (.slice A xs.length c) xs := ⟨A, c, rfl, hl, hf⟩
theorem V_slice (h : V d e W base ok v xs) : ∃ A c, v = .slice A xs.length c := by
  obtain ⟨A, c, hv, _⟩ := h
  exact ⟨A, c, hv⟩
theorem V_at (h : V d e W base ok (.slice A n c) xs) : n = xs.length ∧ n ≤ c ∧ F d W ok A xs.length xs := by
  obtain ⟨A', c', hv, hl, hf⟩ := h
  injection hv with ha hn hc
  subst ha; subst hc
  exact ⟨hn, by rw [hn]; exact hl, hf⟩
theorem V_reads' (h : V d e W base ok (.slice A n c) xs) : n = xs.length ∧ n ≤ c ∧ d.C W A xs.length xs := ⟨(V_at h).1, (V_at h).2.1, F_now (V_at h).2.2⟩
theorem V_F (h : V d e W base ok (.slice A n c) xs) : F d W ok A n xs := by
  obtain ⟨hn, _, hf⟩ := V_at h
  rw [hn]
  exact hf
theorem V_nil (d : Kd α) (e : Nat) (W : World) (base : Nat) (ok : Nat → Prop) : V d e W base ok (.slice none 0 0) [] := ⟨none, 0, rfl, Nat.le_refl _, F_nil d W ok⟩
theorem V_mono (h : V d e W base ok v xs) (hok : ∀ k, ok k → ok' k) : V d e W base ok' v xs := V_map h (fun _ hf => F_mono hf hok)
theorem V_lower (h : V d e W base ok v xs) (_ : base' ≤ base) : V d e W base' ok v xs := h
theorem V_below (h : V d e W base ok v xs) (hb : Below W.heap.size W w1) : V d e w1 base ok v xs := V_map h (fun _ hf => F_below hf hb)
theorem V_alloc (h : V d e W base ok v xs) (o : Obj) : V d e (W.alloc o) base ok v xs := V_map h (fun _ hf => F_alloc hf o)
theorem V_drew (h : V d e W base ok v xs) : V d e W.drew base ok v xs := V_map h (fun _ hf => F_drew hf)
theorem V_drewN (h : V d e W base ok v xs) (m : Nat) : V d e (W.drewN m) base ok v xs := V_map h (fun _ hf => F_drewN hf m)
theorem V_elder' (h : V d e W base ok v xs) (hbase : ∀ k, u.ownBlock = some k → W.heap.size ≤ k) (hb : Below W.heap.size W w1) : V d e w1 base (fun k => ok k ∧ some k ≠ u.ownBlock) v xs := V_map h (fun _ hf => F_elder' hf hbase hb)
theorem F_take (h : F d W ok A xs.length xs) (hm : m ≤ xs.length) : F d W ok A (xs.take m).length (xs.take m) := F_imp h (fun _ hC => C_take hC hm)
theorem F_cut (h : F d W ok A xs.length xs) (hm : m ≤ xs.length) (hc : xs.length ≤ c) : F d W ok (if c = m then A else A.map (·.add (m * d.sz))) (xs.drop m).length (xs.drop m) := F_imp h (fun _ hC => C_drop hC hm hc)
theorem F_mid (h : F d W ok A xs.length xs) (h1 : lo ≤ hi) (h2 : hi ≤ xs.length) (hc : xs.length ≤ c) : F d W ok (if c = lo then A else A.map (·.add (lo * d.sz))) ((xs.take hi).drop lo).length ((xs.take hi).drop lo) := F_imp h (fun _ hC => C_mid hC h1 h2 hc)
theorem FK_slice_mk {l : List α} (hl : l.length ≤ c) (hf : F d W ok A l.length l) : FK (Kd.slice e d) W ok l [.slice A l.length c] := fun W' hW => ⟨A, c, rfl, hl, hf W' hW⟩
theorem R_newM {M : Nat → Prop} (h : d.R e w1 W.heap.size ok v xs) (hle : w.heap.size ≤ W.heap.size) (hM : ∀ k, w.heap.size ≤ k → M k) : d.R e w1 W.heap.size (fun k => M k ∧ ok k) v xs := R_mono (R_bound h) (fun k hk => ⟨hM k (Nat.le_trans hle hk.2.1), hk.1⟩)
end
end Kd
end Go.Proofs.YtcbehfbfaonanaaW.PrintWords
end

/- Words for the packer's two states in memory: a reader's block and its bytes, a writer's block and its row; what a call may turn. -/
section
namespace Go.Proofs.Ytcbehfbfaonanaa.Pk
open Go.RowKit Go.Proofs.YtcbehfbfaonanaaW.PrintWords Go.Proofs.YtcbehfbfaonanaaW.PrintLast Go.Proofs.YtcbehfbfaonanaaW.PrintMore
set_option linter.unusedVariables false
set_option linter.unusedSimpArgs false

/-- From w to w' only blocks of S (and new ones) have turned. -/
structure Only (S : Nat → Prop) (w w' : World) : Prop where
  os : w'.os = w.os
  tape : w'.tape = w.tape
  output : w'.output = w.output
  size : w.heap.size ≤ w'.heap.size
  block : ∀ k, k < w.heap.size → ¬ S k → w'.heap[k]? = w.heap[k]?
namespace Only
variable {S S' : Nat → Prop} {a b c w w' : World}
theorem refl (S : Nat → Prop) (w : World) : Only S w w := ⟨rfl, rfl, rfl, Nat.le_refl _, fun _ _ _ => rfl⟩
theorem mono (h : Only S w w') (hs : ∀ k, k < w.heap.size → S k → S' k) : Only S' w w' := ⟨h.os, h.tape, h.output, h.size, fun k hk hn => h.block k hk (fun s => hn (hs k hk s))⟩
theorem trans (h : Only S a b) (k : Only S' b c) (hs : ∀ i, i < a.heap.size → S' i → S i) : Only S a c :=
  ⟨k.os.trans h.os, k.tape.trans h.tape, k.output.trans h.output, Nat.le_trans h.size k.size, fun i hi hn => (k.block i (Nat.lt_of_lt_of_le hi h.size) (fun s => hn (hs i hi s))).trans (h.block i hi hn)⟩
theorem then_ (h : Only S a b) (k : Only S b c) : Only S a c := h.trans k (fun _ _ s => s)
theorem set (h : Only S a w) {p : Addr} (hp : a.heap.size ≤ p.block ∨ S p.block) (u : Value) : Only S a (w.setCell p u) :=
  ⟨h.os, h.tape, h.output, by rw [World.size_setCell]; exact h.size, fun k hk hn => (Below.heap_setCell w p u k (fun e => by subst e; rcases hp with hp | hp; omega; exact hn hp)).trans (h.block k hk hn)⟩
theorem alloc (h : Only S a w) (o : Obj) : Only S a (w.alloc o) :=
  ⟨h.os, h.tape, h.output, by rw [World.size_alloc]; exact Nat.le_succ_of_le h.size, fun k hk hn => (Below.heap_alloc w o k (Nat.lt_of_lt_of_le hk h.size)).trans (h.block k hk hn)⟩
theorem at_ (w : World) (g i : Nat) (u : Value) : Only (· = g) w (w.setCell ⟨g, i, none⟩ u) := (Only.refl (· = g) w).set (.inr rfl) u
theorem drew (h : Only S a w) : Only S a w.drew := ⟨h.os, h.tape, h.output, h.size, h.block⟩
theorem drewN (h : Only S a w) (n : Nat) : Only S a (w.drewN n) := ⟨h.os, h.tape, h.output, h.size, h.block⟩
theorem of_below (h : Below w.heap.size w w') (S : Nat → Prop) : Only S w w' := ⟨h.os, h.tape, h.output, h.size, fun k hk _ => h.block k hk⟩
theorem below (h : Only S w w') (hs : ∀ k, k < w.heap.size → ¬ S k) : Below w.heap.size w w' := ⟨h.os, h.tape, h.output, h.size, fun k hk => h.block k hk (hs k hk)⟩
theorem grown (h : Only S a w) {row : Option Nat} (hg : w.grownBy w' row) (hr : ∀ k, row = some k → a.heap.size ≤ k ∨ S k) : Only S a w' :=
  ⟨hg.os.trans h.os, hg.tape.trans h.tape, hg.output.trans h.output, Nat.le_trans h.size hg.size, fun k hk hn => (hg.block k (Nat.lt_of_lt_of_le hk h.size) (fun e => by
    rcases hr k e.symm with h' | h'
    · omega
    · exact hn h')).trans (h.block k hk hn)⟩
theorem cell {p : Addr} (h : Only S w w') {v : Value} (hc : w.cell? p = some v) (hn : ¬ S p.block) : w'.cell? p = some v :=
  (World.cell?_of_block (w := w) (h.block p.block (World.block_lt_of_cell? w p hc) hn)).trans hc
theorem blk {g : Nat} {o : Obj} (h : Only S w w') (hb : w.heap[g]? = some o) (hn : ¬ S g) : w'.heap[g]? = some o := (h.block g (blk_lt hb) hn).trans hb
end Only

/-- A whole number's bytes lie from ⟨q, off⟩ on. -/
def BytesAt (w : World) (q off : Nat) (bs : List Int) : Prop := ∀ j x, bs[j]? = some x → w.cell? ⟨q, off + j, none⟩ = some (.int .u8 x)
theorem BytesAt.move {w w' : World} {q off : Nat} {bs : List Int} (h : BytesAt w q off bs) (hq : w'.heap[q]? = w.heap[q]?) : BytesAt w' q off bs :=
  fun j x hj => (World.cell?_of_block (w := w) (a := ⟨q, off + j, none⟩) hq).trans (h j x hj)
theorem BytesAt.tail {w : World} {q off : Nat} {x : Int} {bs : List Int} (h : BytesAt w q off (x :: bs)) : BytesAt w q (off + 1) bs := fun j y hj => by
  have := h (j + 1) y (by simpa using hj)
  rwa [show off + (j + 1) = off + 1 + j by omega] at this
theorem BytesAt.head {w : World} {q off : Nat} {x : Int} {bs : List Int} (h : BytesAt w q off (x :: bs)) : w.cell? ⟨q, off, none⟩ = some (.int .u8 x) := h 0 x rfl
theorem BytesAt.drop {w : World} {q off : Nat} {bs : List Int} (h : BytesAt w q off bs) (n : Nat) : BytesAt w q (off + n) (bs.drop n) := fun j x hj => by
  rw [List.getElem?_drop] at hj
  have := h (n + j) x hj
  rwa [show off + (n + j) = off + n + j by omega] at this

/-- A reader at block g: the bytes that are left lie in block q; whether it is spoilt. -/
def RdAt (w : World) (g q : Nat) (bs : List Int) (bad : Bool) : Prop :=
  ∃ off c, w.heap[g]? = some (.cells #[.slice (some ⟨q, off, none⟩) bs.length c, .bool bad] 138 (0, 0)) ∧ bs.length ≤ c ∧ c ≤ 9223372036854775807 ∧ g ≠ q ∧ q < w.heap.size ∧ BytesAt w q off bs
theorem RdAt.move {w w' : World} {g q : Nat} {bs : List Int} {bad : Bool} (h : RdAt w g q bs bad) (hm : ∀ k, k = g ∨ k = q → w'.heap[k]? = w.heap[k]?) : RdAt w' g q bs bad := by
  obtain ⟨off, c, hb, h1, h2, h3, h5, h4⟩ := h
  have hq := hm q (.inr rfl)
  refine ⟨off, c, (hm g (.inl rfl)).trans hb, h1, h2, h3, ?_, h4.move hq⟩
  rw [Array.getElem?_eq_getElem h5] at hq
  exact (Array.getElem?_eq_some_iff.1 hq).1
theorem RdAt.only {w w' : World} {S : Nat → Prop} {g q : Nat} {bs : List Int} {bad : Bool} (h : RdAt w g q bs bad) (ho : Only S w w') (hg : ¬ S g) (hq : ¬ S q) : RdAt w' g q bs bad := by
  have h' := h
  obtain ⟨off, c, hb, h1, h2, h3, h5, h4⟩ := h'
  exact h.move fun k hk => by
    rcases hk with rfl | rfl
    · exact ho.block _ (blk_lt hb) hg
    · exact ho.block _ h5 hq

theorem RdAt.flag {w : World} {g q : Nat} {bs : List Int} {bad : Bool} (h : RdAt w g q bs bad) : w.cell? ⟨g, 1, none⟩ = some (.bool bad) := by
  obtain ⟨off, c, hb, _⟩ := h
  rw [blk_cell hb]; rfl
theorem RdAt.frozen0 {w : World} {g q : Nat} {bs : List Int} {bad : Bool} (h : RdAt w g q bs bad) : w.frozen? ⟨g, 0, none⟩ = false := by
  obtain ⟨off, c, hb, _⟩ := h
  exact blk_frozen hb 0
theorem RdAt.frozen1 {w : World} {g q : Nat} {bs : List Int} {bad : Bool} (h : RdAt w g q bs bad) : w.frozen? ⟨g, 1, none⟩ = false := by
  obtain ⟨off, c, hb, _⟩ := h
  exact blk_frozen hb 1
theorem RdAt.spoil {w : World} {g q : Nat} {bs : List Int} {bad : Bool} (h : RdAt w g q bs bad) (b : Bool) : RdAt (w.setCell ⟨g, 1, none⟩ (.bool b)) g q bs b := by
  obtain ⟨off, c, hb, h1, h2, h3, h5, h4⟩ := h
  exact ⟨off, c, by rw [blk_set hb]; rfl, h1, h2, h3, by simpa using h5, h4.move (Below.heap_setCell _ _ _ _ (Ne.symm h3))⟩

/-- A writer at block g (type T, further cells r): its row is v, with the bytes xs; whether it is spoilt. -/
def WrAt (w : World) (g T : Nat) (r : List Value) (v : Value) (xs : List Int) (bad : Bool) : Prop :=
  w.heap[g]? = some (.cells ([v, .bool bad] ++ r).toArray T (0, 0)) ∧ w.ownsRow 0 5 1 v xs.length (nums .u8 xs) ∧ v.ownBlock ≠ some g
theorem WrAt.move {w w' : World} {g T : Nat} {r : List Value} {v : Value} {xs : List Int} {bad : Bool} (h : WrAt w g T r v xs bad) (hm : ∀ k, k = g ∨ v.ownBlock = some k → w'.heap[k]? = w.heap[k]?) : WrAt w' g T r v xs bad :=
  ⟨(hm g (.inl rfl)).trans h.1, own_move h.2.1 (fun k hk => hm k (.inr hk)), h.2.2⟩
theorem WrAt.only {w w' : World} {S : Nat → Prop} {g T : Nat} {r : List Value} {v : Value} {xs : List Int} {bad : Bool} (h : WrAt w g T r v xs bad) (ho : Only S w w') (hg : ¬ S g) (hq : ∀ k, v.ownBlock = some k → ¬ S k) : WrAt w' g T r v xs bad :=
  h.move fun k hk => by
    rcases hk with rfl | hk
    · exact ho.block _ (blk_lt h.1) hg
    · exact ho.block _ (own_lt h.2.1 k hk) (hq k hk)
/-- The new row is the old one, or new. -/
def NewRow (w : World) (v v' : Value) : Prop := v'.ownBlock = v.ownBlock ∨ ∃ b, v'.ownBlock = some b ∧ w.heap.size ≤ b
theorem NewRow.refl (w : World) (v : Value) : NewRow w v v := .inl rfl
theorem NewRow.trans {w w1 : World} {v v1 v2 : Value} (h : NewRow w v v1) (k : NewRow w1 v1 v2) (hs : w.heap.size ≤ w1.heap.size) : NewRow w v v2 := by
  rcases k with k | ⟨b, k, hb⟩
  · rcases h with h | ⟨b, h, hb⟩
    · exact .inl (k.trans h)
    · exact .inr ⟨b, k.trans h, hb⟩
  · exact .inr ⟨b, k, by omega⟩
/-- What a writer's call may turn. -/
def WS (g : Nat) (v : Value) (k : Nat) : Prop := k = g ∨ v.ownBlock = some k
theorem WS.step {w : World} {v v1 : Value} (h : NewRow w v v1) {g k : Nat} (hk : k < w.heap.size) (s : WS g v1 k) : WS g v k := by
  rcases s with s | s
  · exact .inl s
  · rcases h with h | ⟨b, h, hb⟩
    · exact .inr (h ▸ s)
    · rw [h] at s
      injection s with s
      omega
end Go.Proofs.Ytcbehfbfaonanaa.Pk
end

/- What a message's fields are handed to: a form of whatever make, with what its four methods come to; cells that a call writes. -/
section
namespace Go.Proofs.Ytcbehfbfaonanaa.Wr
open Go.RowKit Go.Proofs.YtcbehfbfaonanaaW.PrintWords Go.Proofs.YtcbehfbfaonanaaW.PrintLast Go.Proofs.YtcbehfbfaonanaaW.PrintMore Go.Proofs.Ytcbehfbfaonanaa.Pk
set_option linter.unusedVariables false
set_option linter.unusedSimpArgs false

/-- All cells of l, one after another. -/
def setAll (w : World) : List (Addr × Value) → World
  | [] => w
  | p :: l => setAll (w.setCell p.1 p.2) l
theorem setAll_append (l m : List (Addr × Value)) : ∀ w : World, setAll w (l ++ m) = setAll (setAll w l) m := by
  induction l with
  | nil => intro w; rfl
  | cons p l ih => intro w; exact ih _
theorem setCell_congr {w w' : World} {k : Nat} (h : w.heap[k]? = w'.heap[k]?) (a : Addr) (v : Value) : (w.setCell a v).heap[k]? = (w'.setCell a v).heap[k]? := by
  simp only [World.setCell, Array.getElem?_modify, h]
theorem setAll_congr {k : Nat} (l : List (Addr × Value)) : ∀ {w w' : World}, w.heap[k]? = w'.heap[k]? → (setAll w l).heap[k]? = (setAll w' l).heap[k]? := by
  induction l with
  | nil => intro w w' h; exact h
  | cons p l ih => intro w w' h; exact ih (setCell_congr h _ _)
theorem setAll_far {k : Nat} (l : List (Addr × Value)) : ∀ {w : World}, (∀ p, p ∈ l → p.1.block ≠ k) → (setAll w l).heap[k]? = w.heap[k]? := by
  induction l with
  | nil => intro w _; rfl
  | cons p l ih =>
    intro w h
    refine (ih (fun q hq => h q (.tail _ hq))).trans (Below.heap_setCell _ _ _ _ ?_)
    exact fun e => h p (.head _) e.symm

/-- From w to w' the cells l were written, and blocks of S (and new ones) may have turned. -/
structure Wrote (S : Nat → Prop) (l : List (Addr × Value)) (w w' : World) : Prop where
  os : w'.os = w.os
  tape : w'.tape = w.tape
  output : w'.output = w.output
  size : w.heap.size ≤ w'.heap.size
  block : ∀ k, k < w.heap.size → ¬ S k → w'.heap[k]? = (setAll w l).heap[k]?
namespace Wrote
variable {S S' : Nat → Prop} {a b c w w' : World} {l m : List (Addr × Value)}
theorem of_only (h : Only S w w') : Wrote S [] w w' := ⟨h.os, h.tape, h.output, h.size, h.block⟩
theorem mono (h : Wrote S l w w') (hs : ∀ k, k < w.heap.size → S k → S' k) : Wrote S' l w w' := ⟨h.os, h.tape, h.output, h.size, fun k hk hn => h.block k hk (fun s => hn (hs k hk s))⟩
theorem trans (h : Wrote S l a b) (k : Wrote S' m b c) (hs : ∀ i, i < a.heap.size → S' i → S i) : Wrote S (l ++ m) a c :=
  ⟨k.os.trans h.os, k.tape.trans h.tape, k.output.trans h.output, Nat.le_trans h.size k.size, fun i hi hn => by
    rw [setAll_append]
    exact (k.block i (Nat.lt_of_lt_of_le hi h.size) (fun s => hn (hs i hi s))).trans (setAll_congr m (h.block i hi hn))⟩
theorem drew (h : Wrote S l a w) : Wrote S l a w.drew := ⟨h.os, h.tape, h.output, h.size, h.block⟩
theorem drewN (h : Wrote S l a w) (n : Nat) : Wrote S l a (w.drewN n) := ⟨h.os, h.tape, h.output, h.size, h.block⟩
theorem undrew (h : Wrote S l w.drew w') : Wrote S l w w' := ⟨h.os, h.tape, h.output, h.size, fun k hk hn => (h.block k hk hn).trans (setAll_congr l rfl)⟩
theorem far (h : Wrote S l w w') {k : Nat} (hk : k < w.heap.size) (hn : ¬ S k) (hl : ∀ p, p ∈ l → p.1.block ≠ k) : w'.heap[k]? = w.heap[k]? := (h.block k hk hn).trans (setAll_far l hl)
end Wrote

theorem setCell_self {w : World} {g i : Nat} {cs : Array Value} {T : TypeId} {v : Value} (h : w.heap[g]? = some (.cells cs T (0, 0))) (hv : cs[i]? = some v) (k : Nat) : (w.setCell ⟨g, i, none⟩ v).heap[k]? = w.heap[k]? := by
  rcases Nat.lt_or_ge k g with hk | hk
  · exact Below.heap_setCell _ _ _ _ (by simpa using Nat.ne_of_lt hk)
  rcases Nat.lt_or_ge g k with hk' | hk'
  · exact Below.heap_setCell _ _ _ _ (by simpa using (Nat.ne_of_lt hk').symm)
  have : k = g := by omega
  subst this
  rw [blk_set h, h]
  congr 2
  apply Array.ext_getElem?
  intro j
  rw [Array.getElem?_setIfInBounds]
  split
  · rename_i e; subst e
    rw [hv]
    have := (Array.getElem?_eq_some_iff.1 hv).1
    simp [this]
  · rfl

/-- One field: a number within bounds, a flag, a text of at most so many bytes. -/
inductive Fld where
  | num (lo hi : Int)
  | flag
  | text (most : Int)

/-- A form: the value that stands behind the interface, what state it is in, and what its methods come to. -/
structure Form where
  ty : TypeId
  v : Value
  k : Nat → FuncId
  σ : Type
  Inv : σ → World → Prop
  own : Array Obj → Nat → Prop
  room : σ → Nat
  num : σ → Int → Int → Int → σ × Int
  flag : σ → Bool → σ × Bool
  text : σ → ByteArray → Int → σ × ByteArray
  count : σ → Int → Int → σ × Int

/-- What a call that steps the form has come to. -/
structure Stepped (F : Form) (s s' : F.σ) (l : List (Addr × Value)) (c : Nat) (w w' : World) : Prop where
  inv : F.Inv s' w'
  own : ∀ k, k < w.heap.size → F.own w'.heap k → F.own w.heap k
  wrote : Wrote (F.own w.heap) l w w'
  room : F.room s' ≤ F.room s + c
def Did (F : Form) (s s' : F.σ) (l : List (Addr × Value)) (c : Nat) (w : World) (e : Ending) (w' : World) : Prop :=
  e = .returned (.tuple #[]) ∧ Stepped F s s' l c w w'
def cap : Nat := 140737488350000

/-- The form's laws. -/
structure Form.Good (F : Form) : Prop where
  lt : ∀ {s : F.σ} {w : World} {k : Nat}, F.Inv s w → F.own w.heap k → k < w.heap.size
  move : ∀ {s : F.σ} {w w' : World}, F.Inv s w → (∀ k, F.own w.heap k → w'.heap[k]? = w.heap[k]?) → w.heap.size ≤ w'.heap.size → F.Inv s w'
  own_move : ∀ {s : F.σ} {w w' : World}, F.Inv s w → (∀ k, F.own w.heap k → w'.heap[k]? = w.heap[k]?) → ∀ k, F.own w'.heap k → F.own w.heap k
  ahead : ∀ (n : Nat) (m : String), n < 4 → m = ["meridian/wire.num", "meridian/wire.flag", "meridian/wire.text", "meridian/wire.count"].getD n "" → ∀ w, (nilAhead 274 F.ty F.v m).run Try.prog w = .ok (some false) w
  method : ∀ (n : Nat) (m : String), n < 4 → m = ["meridian/wire.num", "meridian/wire.flag", "meridian/wire.text", "meridian/wire.count"].getD n "" → ∀ w, (method 274 F.ty F.v m).run Try.prog w = .ok (F.k n, F.v) w
  enter : ∀ n, n < 4 → ∀ (args : Array Value) (w : World), (callFunc (F.k n) args).run Try.prog w = .ok (.enter (F.k n) args) w
  num_c : ∀ (s : F.σ) (w : World) (b i : Nat) (cs : Array Value) (T : TypeId) (n lo hi : Int), F.Inv s w → ¬ F.own w.heap b → F.room s + 8 ≤ cap → w.heap[b]? = some (.cells cs T (0, 0)) → cs[i]? = some (.int .i64 n) →
    Calls Try.prog (F.k 0) #[F.v, .pointer (some ⟨b, i, none⟩), .int .i64 lo, .int .i64 hi] w (Did F s (F.num s n lo hi).1 [(⟨b, i, none⟩, .int .i64 (F.num s n lo hi).2)] 8 w)
  flag_c : ∀ (s : F.σ) (w : World) (b i : Nat) (cs : Array Value) (T : TypeId) (x : Bool), F.Inv s w → ¬ F.own w.heap b → F.room s + 8 ≤ cap → w.heap[b]? = some (.cells cs T (0, 0)) → cs[i]? = some (.bool x) →
    Calls Try.prog (F.k 1) #[F.v, .pointer (some ⟨b, i, none⟩)] w (Did F s (F.flag s x).1 [(⟨b, i, none⟩, .bool (F.flag s x).2)] 8 w)
  text_c : ∀ (s : F.σ) (w : World) (b i : Nat) (cs : Array Value) (T : TypeId) (x : ByteArray) (most : Int), F.Inv s w → ¬ F.own w.heap b → F.room s + 8 + x.size ≤ cap → w.heap[b]? = some (.cells cs T (0, 0)) → cs[i]? = some (.string x) →
    Calls Try.prog (F.k 2) #[F.v, .pointer (some ⟨b, i, none⟩), .int .i64 most] w (Did F s (F.text s x most).1 [(⟨b, i, none⟩, .string (F.text s x most).2)] (8 + x.size) w)
  count_c : ∀ (s : F.σ) (w : World) (n most : Int), F.Inv s w → F.room s + 8 ≤ cap → 0 ≤ n → 0 ≤ most →
    Calls Try.prog (F.k 3) #[F.v, .int .i64 n, .int .i64 most] w (fun e w' => e = .returned (.int .i64 (F.count s n most).2) ∧ Stepped F s (F.count s n most).1 [] 8 w w')
  count_lim : ∀ (s : F.σ) (n most : Int), 0 ≤ n → 0 ≤ most → 0 ≤ (F.count s n most).2 ∧ ((F.count s n most).2 = n ∨ (F.count s n most).2 ≤ most)

theorem Stepped.undrew {F : Form} {s s' : F.σ} {l : List (Addr × Value)} {c : Nat} {w w' : World} (h : Stepped F s s' l c w.drew w') : Stepped F s s' l c w w' :=
  ⟨h.inv, h.own, h.wrote.undrew, h.room⟩
theorem Stepped.trans {F : Form} {s s1 s2 : F.σ} {l m : List (Addr × Value)} {c d : Nat} {w w1 w2 : World} (h : Stepped F s s1 l c w w1) (k : Stepped F s1 s2 m d w1 w2) : Stepped F s s2 (l ++ m) (c + d) w w2 :=
  ⟨k.inv, fun i hi ho => h.own i hi (k.own i (Nat.lt_of_lt_of_le hi h.wrote.size) ho), h.wrote.trans k.wrote (fun i hi ho => h.own i hi ho), by have := h.room; have := k.room; omega⟩
theorem Stepped.refl {F : Form} {s : F.σ} {w : World} (h : F.Inv s w) : Stepped F s s [] 0 w w := ⟨h, fun _ _ h => h, Wrote.of_only (Only.refl _ _), Nat.le_refl _⟩

/-- What l writes into the block b, oas cells. -/
def into (b : Nat) (cs : Array Value) : List (Addr × Value) → Array Value
  | [] => cs
  | p :: l => into b (if p.1.block = b ∧ p.1.spot = none then cs.setIfInBounds p.1.off p.2 else cs) l
theorem setAll_into {b : Nat} {T : TypeId} (l : List (Addr × Value)) : ∀ {w : World} {cs : Array Value}, (∀ p, p ∈ l → p.1.spot = none) → w.heap[b]? = some (.cells cs T (0, 0)) → (setAll w l).heap[b]? = some (.cells (into b cs l) T (0, 0)) := by
  induction l with
  | nil => intro w cs _ h; exact h
  | cons p l ih =>
    intro w cs hs h
    have hp := hs p (.head _)
    refine ih (fun q hq => hs q (.tail _ hq)) ?_
    obtain ⟨⟨g, j, sp⟩, u⟩ := p
    simp only at hp
    subst hp
    by_cases hg : g = b
    · subst hg
      simpa using blk_set h j u
    · simp only [hg, false_and, if_false]
      exact blk_far h (fun e => hg e.symm) u

/-- Where a walk over the block b stands: the form's state, what was written since s0, w0, what the block holds. -/
structure At (F : Form) (s0 : F.σ) (w0 : World) (b : Nat) (T : TypeId) (s : F.σ) (l : List (Addr × Value)) (c : Nat) (cs : Array Value) (w : World) : Prop where
  st : Stepped F s0 s l c w0 w
  no : ¬ F.own w.heap b
  blk : w.heap[b]? = some (.cells cs T (0, 0))
  hl : ∀ p, p ∈ l → p.1.block = b
/-- A call has brought the walk on. -/
def On (F : Form) (s0 : F.σ) (w0 : World) (b : Nat) (T : TypeId) (s : F.σ) (l : List (Addr × Value)) (c : Nat) (cs : Array Value) (e : Ending) (w : World) : Prop :=
  e = .returned (.tuple #[]) ∧ At F s0 w0 b T s l c cs w
variable {F : Form} {s0 s : F.σ} {w0 w : World} {b : Nat} {T : TypeId} {l : List (Addr × Value)} {c : Nat} {cs : Array Value}
theorem At.start (hI : F.Inv s w) (ho : ¬ F.own w.heap b) (hb : w.heap[b]? = some (.cells cs T (0, 0))) : At F s w b T s [] 0 cs w := ⟨.refl hI, ho, hb, fun _ h => nomatch h⟩
theorem At.drew (hF : F.Good) (h : At F s0 w0 b T s l c cs w) : At F s0 w0 b T s l c cs w.drew :=
  ⟨⟨hF.move h.st.inv (fun _ _ => rfl) (Nat.le_refl _), h.st.own, h.st.wrote.drew, h.st.room⟩, h.no, h.blk, h.hl⟩
theorem At.go (h : At F s0 w0 b T s l c cs w) {s1 : F.σ} {m : List (Addr × Value)} {d : Nat} {w1 : World} (k : Stepped F s s1 m d w w1) (hs : ∀ p, p ∈ m → p.1.block = b ∧ p.1.spot = none) : At F s0 w0 b T s1 (l ++ m) (c + d) (into b cs m) w1 := by
  have hb := blk_lt h.blk
  exact ⟨h.st.trans k, fun ho => h.no (k.own b hb ho), (k.wrote.block b hb h.no).trans (setAll_into m (fun p hp => (hs p hp).2) h.blk), fun p hp => (List.mem_append.1 hp).elim (h.hl p) (fun hp => (hs p hp).1)⟩
theorem At.num (h : At F s0 w0 b T s l c cs w) (hF : F.Good) {j : Nat} {n : Int} (hc : cs[j]? = some (.int .i64 n)) (hr : F.room s0 + c + 8 ≤ cap) (lo hi : Int) :
    Calls Try.prog (F.k 0) #[F.v, .pointer (some ⟨b, j, none⟩), .int .i64 lo, .int .i64 hi] w.drew (On F s0 w0 b T (F.num s n lo hi).1 (l ++ [(⟨b, j, none⟩, .int .i64 (F.num s n lo hi).2)]) (c + 8) (cs.setIfInBounds j (.int .i64 (F.num s n lo hi).2))) := by
  have h' := h.drew hF
  refine (hF.num_c s w.drew b j cs T n lo hi h'.st.inv h'.no (by have := h'.st.room; omega) h'.blk hc).mono ?_
  rintro e w' ⟨rfl, H⟩
  refine ⟨rfl, ?_⟩
  have K := h'.go H (by simp)
  simpa [into] using K
theorem At.flag (h : At F s0 w0 b T s l c cs w) (hF : F.Good) {j : Nat} {n : Bool} (hc : cs[j]? = some (.bool n)) (hr : F.room s0 + c + 8 ≤ cap) :
    Calls Try.prog (F.k 1) #[F.v, .pointer (some ⟨b, j, none⟩)] w.drew (On F s0 w0 b T (F.flag s n).1 (l ++ [(⟨b, j, none⟩, .bool (F.flag s n).2)]) (c + 8) (cs.setIfInBounds j (.bool (F.flag s n).2))) := by
  have h' := h.drew hF
  refine (hF.flag_c s w.drew b j cs T n h'.st.inv h'.no (by have := h'.st.room; omega) h'.blk hc).mono ?_
  rintro e w' ⟨rfl, H⟩
  refine ⟨rfl, ?_⟩
  have K := h'.go H (by simp)
  simpa [into] using K
theorem At.text (h : At F s0 w0 b T s l c cs w) (hF : F.Good) {j : Nat} {n : ByteArray} (hc : cs[j]? = some (.string n)) (most : Int) (hr : F.room s0 + c + 8 + n.size ≤ cap) :
    Calls Try.prog (F.k 2) #[F.v, .pointer (some ⟨b, j, none⟩), .int .i64 most] w.drew (On F s0 w0 b T (F.text s n most).1 (l ++ [(⟨b, j, none⟩, .string (F.text s n most).2)]) (c + (8 + n.size)) (cs.setIfInBounds j (.string (F.text s n most).2))) := by
  have h' := h.drew hF
  refine (hF.text_c s w.drew b j cs T n most h'.st.inv h'.no (by have := h'.st.room; omega) h'.blk hc).mono ?_
  rintro e w' ⟨rfl, H⟩
  refine ⟨rfl, ?_⟩
  have K := h'.go H (by simp)
  simpa [into] using K

/-- One field handed to the form. -/
def Form.fld (F : Form) (s : F.σ) : Fld → Value → F.σ × Value
  | .num lo hi, .int .i64 n => ((F.num s n lo hi).1, .int .i64 (F.num s n lo hi).2)
  | .flag, .bool x => ((F.flag s x).1, .bool (F.flag s x).2)
  | .text most, .string x => ((F.text s x most).1, .string (F.text s x most).2)
  | _, v => (s, v)
/-- A row of fields handed to the form. -/
def Form.row (F : Form) (s : F.σ) : List Fld → List Value → F.σ × List Value
  | f :: fs, v :: vs => let r := F.fld s f v; let q := F.row r.1 fs vs; (q.1, r.2 :: q.2)
  | _, vs => (s, vs)
def Fld.fits : Fld → Value → Prop
  | .num _ _, v => ∃ n, v = .int .i64 n
  | .flag, v => ∃ x, v = .bool x
  | .text _, v => ∃ x, v = .string x
def fits : List Fld → List Value → Prop
  | [], [] => True
  | f :: fs, v :: vs => f.fits v ∧ fits fs vs
  | _, _ => False
def costV : Value → Nat
  | .string x => 8 + x.size
  | _ => 8
def cost : List Value → Nat
  | [] => 0
  | v :: vs => costV v + cost vs
/-- The cells from ⟨b, i⟩ on, with vs. -/
def cellsAt (b i : Nat) : List Value → List (Addr × Value)
  | [] => []
  | v :: vs => (⟨b, i, none⟩, v) :: cellsAt b (i + 1) vs
def Seg (cs : Array Value) (i : Nat) (vs : List Value) : Prop := ∀ j v, vs[j]? = some v → cs[i + j]? = some v

/-- The function k hands the row fs to the form. -/
def RowC (k : FuncId) (fs : List Fld) : Prop :=
  ∀ (F : Form), F.Good → ∀ (s : F.σ) (w : World) (b i : Nat) (cs : Array Value) (T : TypeId) (vs : List Value), F.Inv s w → ¬ F.own w.heap b → F.room s + cost vs ≤ cap → w.heap[b]? = some (.cells cs T (0, 0)) → Seg cs i vs → fits fs vs →
    Calls Try.prog k #[.iface F.ty F.v, .pointer (some ⟨b, i, none⟩)] w (Did F s (F.row s fs vs).1 (cellsAt b i (F.row s fs vs).2) (cost vs) w)
theorem cellsAt_spot {b i : Nat} {vs : List Value} : ∀ p, p ∈ cellsAt b i vs → p.1.block = b ∧ p.1.spot = none := by
  induction vs generalizing i with
  | nil => intro p h; cases h
  | cons v vs ih =>
    intro p h
    rcases List.mem_cons.1 h with rfl | h
    · exact ⟨rfl, rfl⟩
    · exact ih p h
theorem At.row (h : At F s0 w0 b T s l c cs w) (hF : F.Good) {k : FuncId} {fs : List Fld} (hk : RowC k fs) {i : Nat} {vs : List Value} (hc : Seg cs i vs) (hf : fits fs vs) (hr : F.room s0 + c + cost vs ≤ cap) :
    Calls Try.prog k #[.iface F.ty F.v, .pointer (some ⟨b, i, none⟩)] w.drew (On F s0 w0 b T (F.row s fs vs).1 (l ++ cellsAt b i (F.row s fs vs).2) (c + cost vs) (into b cs (cellsAt b i (F.row s fs vs).2))) := by
  have h' := h.drew hF
  refine (hk F hF s w.drew b i cs T vs h'.st.inv h'.no (by have := h'.st.room; omega) h'.blk hc hf).mono ?_
  rintro e w' ⟨rfl, H⟩
  exact ⟨rfl, h'.go H cellsAt_spot⟩
theorem At.row' (h : At F s0 w0 b T s l c cs w) (hF : F.Good) {k : FuncId} {fs : List Fld} (hk : RowC k fs) {i : Nat} {vs : List Value} (hc : Seg cs i vs) (hf : fits fs vs) (hr : F.room s0 + c + cost vs ≤ cap) :
    Calls Try.prog k #[.iface F.ty F.v, .pointer (some ⟨b, i, none⟩)] w (On F s0 w0 b T (F.row s fs vs).1 (l ++ cellsAt b i (F.row s fs vs).2) (c + cost vs) (into b cs (cellsAt b i (F.row s fs vs).2))) := by
  refine (hk F hF s w b i cs T vs h.st.inv h.no (by have := h.st.room; omega) h.blk hc hf).mono ?_
  rintro e w' ⟨rfl, H⟩
  exact ⟨rfl, h.go H cellsAt_spot⟩
theorem At.far (h : At F s0 w0 b T s l c cs w) {k : Nat} (hk : k < w0.heap.size) (hn : ¬ F.own w0.heap k) (hb : k ≠ b) : w.heap[k]? = w0.heap[k]? :=
  h.st.wrote.far hk hn (fun p hp => by rw [h.hl p hp]; exact hb.symm)
theorem At.cell (h : At F s0 w0 b T s l c cs w) {g j : Nat} {v : Value} (hv : w0.cell? ⟨g, j, none⟩ = some v) (hn : ¬ F.own w0.heap g) (hb : g ≠ b) : w.cell? ⟨g, j, none⟩ = some v :=
  (World.cell?_of_block (w := w0) (a := ⟨g, j, none⟩) (h.far (World.block_lt_of_cell? w0 ⟨g, j, none⟩ hv) hn hb)).trans hv
theorem into_far {b i j : Nat} {vs : List Value} {cs : Array Value} (h : j < i ∨ i + vs.length ≤ j) : (into b cs (cellsAt b i vs))[j]? = cs[j]? := by
  induction vs generalizing i cs with
  | nil => rfl
  | cons v vs ih =>
    simp only [cellsAt, into, and_self, if_true, List.length_cons] at h ⊢
    rw [ih (by omega), Array.getElem?_setIfInBounds_ne (by omega)]
theorem row_length (F : Form) : ∀ (fs : List Fld) (vs : List Value) (s : F.σ), (F.row s fs vs).2.length = vs.length
  | [], vs, s => by cases vs <;> rfl
  | f :: fs, [], s => rfl
  | f :: fs, v :: vs, s => by simp only [Form.row, List.length_cons, row_length F fs vs]
theorem into_far_row {F : Form} {fs : List Fld} {s : F.σ} {b i j : Nat} {vs : List Value} {cs : Array Value} (h : j < i ∨ i + vs.length ≤ j) : (into b cs (cellsAt b i (F.row s fs vs).2))[j]? = cs[j]? :=
  into_far (by rw [row_length]; exact h)
theorem seg_cons {cs : Array Value} {i : Nat} {v : Value} {vs : List Value} (h : cs[i]? = some v) (k : Seg cs (i + 1) vs) : Seg cs i (v :: vs) := fun j u hj => by
  cases j with
  | zero => simp only [List.getElem?_cons_zero, Option.some.injEq] at hj; subst hj; exact h
  | succ j => rw [List.getElem?_cons_succ] at hj; rw [show i + (j + 1) = i + 1 + j by omega]; exact k j u hj
theorem seg_nil {cs : Array Value} {i : Nat} : Seg cs i [] := fun j u hj => by simp at hj
theorem At.did (h : At F s0 w0 b T s l c cs w) {s' : F.σ} {l' : List (Addr × Value)} {c' : Nat} (hs : s = s') (hl : l = l') (hc : c = c') : Did F s0 s' l' c' w0 (.returned (.tuple #[])) w := by
  subst hs hl hc
  exact ⟨rfl, h.st⟩

/-- The closure k hands the row fs to the form that it has caught in ⟨g, 0⟩. -/
def RowX (k : FuncId) (fs : List Fld) : Prop :=
  ∀ (F : Form), F.Good → ∀ (s : F.σ) (w : World) (b i g : Nat) (cs : Array Value) (T : TypeId) (vs : List Value), F.Inv s w → ¬ F.own w.heap b → ¬ F.own w.heap g → g ≠ b → w.cell? ⟨g, 0, none⟩ = some (.iface F.ty F.v) → F.room s + cost vs ≤ cap → w.heap[b]? = some (.cells cs T (0, 0)) → Seg cs i vs → fits fs vs →
    Calls Try.prog k #[.pointer (some ⟨b, i, none⟩), .pointer (some ⟨g, 0, none⟩)] w (Did F s (F.row s fs vs).1 (cellsAt b i (F.row s fs vs).2) (cost vs) w)
end Go.Proofs.Ytcbehfbfaonanaa.Wr
end

/- Lists of rows, handed to a form row by row: plain laws, and one round of the loop. -/
section
namespace Go.Proofs.Ytcbehfbfaonanaa.Wr
open Go.RowKit Go.Proofs.YtcbehfbfaonanaaW.PrintWords Go.Proofs.YtcbehfbfaonanaaW.PrintLast Go.Proofs.YtcbehfbfaonanaaW.PrintMore Go.Proofs.Ytcbehfbfaonanaa.Pk
set_option linter.unusedVariables false
set_option linter.unusedSimpArgs false

/-- Rows handed to the form, one after another. -/
def Form.rows (F : Form) (fs : List Fld) : F.σ → List (List Value) → F.σ × List (List Value)
  | s, [] => (s, [])
  | s, r :: rs => ((F.rows fs (F.row s fs r).1 rs).1, (F.row s fs r).2 :: (F.rows fs (F.row s fs r).1 rs).2)
def rowsCost : List (List Value) → Nat
  | [] => 0
  | r :: rs => cost r + rowsCost rs
def Fld.zero : Fld → Value
  | .num _ _ => .int .i64 0
  | .flag => .bool false
  | .text _ => .string ByteArray.empty
def zeroRow (fs : List Fld) : List Value := fs.map Fld.zero
theorem fits_zero : ∀ fs : List Fld, fits fs (zeroRow fs)
  | [] => trivial
  | f :: fs => ⟨by cases f <;> exact ⟨_, rfl⟩, fits_zero fs⟩
theorem fits_length : ∀ {fs : List Fld} {vs : List Value}, fits fs vs → vs.length = fs.length
  | [], [], _ => rfl
  | [], _ :: _, h => h.elim
  | _ :: _, [], h => h.elim
  | _ :: fs, _ :: vs, h => by simp [fits_length h.2]
theorem fits_row (F : Form) : ∀ {fs : List Fld} {vs : List Value} (s : F.σ), fits fs vs → fits fs (F.row s fs vs).2
  | [], [], _, _ => trivial
  | [], _ :: _, _, h => h.elim
  | _ :: _, [], _, h => h.elim
  | f :: fs, v :: vs, s, h => by
    refine ⟨?_, fits_row F _ h.2⟩
    cases f <;> obtain ⟨x, rfl⟩ := h.1 <;> exact ⟨_, rfl⟩
theorem rows_length (F : Form) (fs : List Fld) : ∀ (s : F.σ) (rs : List (List Value)), (F.rows fs s rs).2.length = rs.length
  | s, [] => rfl
  | s, r :: rs => by simp only [Form.rows, List.length_cons, rows_length F fs _ rs]
theorem rows_fits (F : Form) (fs : List Fld) : ∀ (s : F.σ) (rs : List (List Value)), (∀ r, r ∈ rs → fits fs r) → ∀ r, r ∈ (F.rows fs s rs).2 → fits fs r
  | s, [], _, r, hr => nomatch hr
  | s, r0 :: rs, h, r, hr => by
    rcases List.mem_cons.1 hr with rfl | hr
    · exact fits_row F s (h _ (.head _))
    · exact rows_fits F fs _ rs (fun q hq => h q (.tail _ hq)) r hr

/-- The rows lie in cs from off on, each of st cells. -/
def RowsIn (cs : Array Value) (off st : Nat) (rows : List (List Value)) : Prop := ∀ k r, rows[k]? = some r → Seg cs (off + k * st) r
theorem into_at {b i : Nat} {vs : List Value} {cs : Array Value} {j : Nat} {v : Value} (h : vs[j]? = some v) (hs : i + vs.length ≤ cs.size) : (into b cs (cellsAt b i vs))[i + j]? = some v := by
  induction vs generalizing i cs j with
  | nil => simp at h
  | cons u vs ih =>
    simp only [cellsAt, into, and_self, if_true]
    simp only [List.length_cons] at hs
    cases j with
    | zero =>
      simp only [List.getElem?_cons_zero, Option.some.injEq] at h
      subst h
      rw [into_far (by omega), Nat.add_zero, Array.getElem?_setIfInBounds_self_of_lt (by omega)]
    | succ j =>
      rw [List.getElem?_cons_succ] at h
      rw [show i + (j + 1) = i + 1 + j by omega]
      exact ih h (by simp; omega)
theorem size_into {b i : Nat} {vs : List Value} {cs : Array Value} : (into b cs (cellsAt b i vs)).size = cs.size := by
  induction vs generalizing i cs with
  | nil => rfl
  | cons u vs ih => simp only [cellsAt, into, and_self, if_true]; rw [ih, Array.size_setIfInBounds]
theorem seg_size {cs : Array Value} {i : Nat} {vs : List Value} (h : Seg cs i vs) (h0 : vs ≠ []) : i + vs.length ≤ cs.size := by
  cases hl : vs.length with
  | zero => exact absurd (List.length_eq_zero_iff.1 hl) h0
  | succ n =>
    have hn : n < vs.length := by omega
    have := h n _ (List.getElem?_eq_getElem hn)
    have := (Array.getElem?_eq_some_iff.1 this).1
    omega
theorem RowsIn.set {cs : Array Value} {b off st : Nat} {rows : List (List Value)} (h : RowsIn cs off st rows) {k : Nat} {r r' : List Value} (hr : rows[k]? = some r) (hl : ∀ q, q ∈ rows → q.length = st) (hr' : r'.length = st) (hst : 0 < st) :
    RowsIn (into b cs (cellsAt b (off + k * st) r')) off st (rows.set k r') := fun i q hq => by
  have hk : k < rows.length := (List.getElem?_eq_some_iff.1 hr).1
  by_cases e : i = k
  · subst e
    rw [List.getElem?_set_self hk] at hq
    injection hq with hq
    subst hq
    have h1 := seg_size (h i r hr) (fun e => by have := hl r (List.mem_of_getElem? hr); rw [e] at this; simp at this; omega)
    intro j v hj
    exact into_at hj (by have := hl r (List.mem_of_getElem? hr); omega)
  · rw [List.getElem?_set_ne (fun e' => e e'.symm)] at hq
    intro j v hj
    have hj' : j < st := by have := hl q (List.mem_of_getElem? hq); have := (List.getElem?_eq_some_iff.1 hj).1; omega
    rw [into_far, h i q hq j v hj]
    rcases Nat.lt_or_ge i k with hi | hi
    · left
      have : (i + 1) * st ≤ k * st := Nat.mul_le_mul_right _ hi
      rw [Nat.add_mul] at this
      omega
    · right
      have : (k + 1) * st ≤ i * st := Nat.mul_le_mul_right _ (by omega)
      rw [Nat.add_mul] at this
      omega

theorem At.rowx {F : Form} {s0 s : F.σ} {w0 w : World} {b : Nat} {T : TypeId} {l : List (Addr × Value)} {c : Nat} {cs : Array Value} (h : At F s0 w0 b T s l c cs w) (hF : F.Good) {k : FuncId} {fs : List Fld} (hk : RowX k fs) {i g : Nat} {vs : List Value} (hg : ¬ F.own w0.heap g) (hgb : g ≠ b) (cg : w0.cell? ⟨g, 0, none⟩ = some (.iface F.ty F.v)) (hc : Seg cs i vs) (hf : fits fs vs) (hr : F.room s0 + c + cost vs ≤ cap) :
    Calls Try.prog k #[.pointer (some ⟨b, i, none⟩), .pointer (some ⟨g, 0, none⟩)] w (On F s0 w0 b T (F.row s fs vs).1 (l ++ cellsAt b i (F.row s fs vs).2) (c + cost vs) (into b cs (cellsAt b i (F.row s fs vs).2))) := by
  have hgw := World.block_lt_of_cell? w0 ⟨g, 0, none⟩ cg
  refine (hk F hF s w b i g cs T vs h.st.inv h.no (fun ho => hg (h.st.own g hgw ho)) hgb (h.cell cg hg hgb) (by have := h.st.room; omega) h.blk hc hf).mono ?_
  rintro e w' ⟨rfl, H⟩
  exact ⟨rfl, h.go H cellsAt_spot⟩

/-- Where the loop over a list's rows stands: k of them are done. -/
def LoopP (F : Form) (fs : List Fld) (s1 : F.σ) (wL : World) (rb : Nat) (T : TypeId) (off : Nat) (R : List (List Value)) (m k : Nat) (wr : World) : Prop :=
  ∃ (sk : F.σ) (D : List (List Value)) (l : List (Addr × Value)) (c : Nat) (cs : Array Value), D.length = k ∧ k ≤ m ∧ (∀ r, r ∈ D → fits fs r) ∧ At F s1 wL rb T sk l c cs wr ∧ RowsIn cs off fs.length (D ++ R.drop k) ∧
    c + rowsCost ((R.drop k).take (m - k)) = rowsCost (R.take m) ∧ F.rows fs s1 (R.take m) = ((F.rows fs sk ((R.drop k).take (m - k))).1, D ++ (F.rows fs sk ((R.drop k).take (m - k))).2)
theorem LoopP.start {F : Form} {fs : List Fld} {s1 : F.σ} {wL : World} {rb : Nat} {T : TypeId} {off : Nat} {R : List (List Value)} (m : Nat) {cs : Array Value} (hI : F.Inv s1 wL) (ho : ¬ F.own wL.heap rb) (hb : wL.heap[rb]? = some (.cells cs T (0, 0))) (hR : RowsIn cs off fs.length R) :
    LoopP F fs s1 wL rb T off R m 0 wL := ⟨s1, [], [], 0, cs, rfl, Nat.zero_le _, fun _ h => (nomatch h), At.start hI ho hb, by simpa using hR, by simp, by simp⟩
theorem LoopP.step {F : Form} (hF : F.Good) {fs : List Fld} (h0 : 0 < fs.length) {s1 : F.σ} {wL : World} {rb : Nat} {T : TypeId} {off : Nat} {R : List (List Value)} {m k : Nat} {wr : World} (h : LoopP F fs s1 wL rb T off R m k wr) (hk : k < m) (hm : m ≤ R.length) (hfit : ∀ r, r ∈ R → fits fs r)
    {kc : FuncId} (hC : RowX kc fs) {g : Nat} (hg : ¬ F.own wL.heap g) (hgb : g ≠ rb) (cg : wL.cell? ⟨g, 0, none⟩ = some (.iface F.ty F.v)) (hr : F.room s1 + rowsCost (R.take m) ≤ cap) :
    Calls Try.prog kc #[.pointer (some ⟨rb, off + k * fs.length, none⟩), .pointer (some ⟨g, 0, none⟩)] wr (fun e w' => e = .returned (.tuple #[]) ∧ LoopP F fs s1 wL rb T off R m (k + 1) w') := by
  obtain ⟨sk, D, l, c, cs, hD, _, hDf, hA, hR, hc, he⟩ := h
  have hkR : k < R.length := by omega
  have hd : R.drop k = R[k] :: R.drop (k + 1) := List.drop_eq_getElem_cons hkR
  have ht : (R.drop k).take (m - k) = R[k] :: (R.drop (k + 1)).take (m - (k + 1)) := by rw [hd, show m - k = (m - (k + 1)) + 1 by omega, List.take_succ_cons]
  have hf := hfit R[k] (List.getElem_mem hkR)
  have hlen := fits_length hf
  rw [ht] at hc he
  have hrow : (D ++ R.drop k)[k]? = some R[k] := by rw [List.getElem?_append_right (by omega), hD, hd]; simp
  have hall : ∀ q, q ∈ D ++ R.drop k → q.length = fs.length := fun q hq => by
    rcases List.mem_append.1 hq with hq | hq
    · exact fits_length (hDf q hq)
    · exact fits_length (hfit q (List.mem_of_mem_drop hq))
  simp only [rowsCost] at hc
  refine (hA.rowx hF hC hg hgb cg (hR k _ hrow) hf (by omega)).mono ?_
  rintro e w' ⟨rfl, hA'⟩
  refine ⟨rfl, _, D ++ [(F.row sk fs R[k]).2], _, _, _, by simp [hD], by omega, ?_, hA', ?_, by omega, ?_⟩
  · intro q hq
    rcases List.mem_append.1 hq with hq | hq
    · exact hDf q hq
    · rw [List.mem_singleton.1 hq]; exact fits_row F sk hf
  · have := hR.set (b := rb) hrow hall (r' := (F.row sk fs R[k]).2) (by rw [row_length]; exact hlen) h0
    have e : (D ++ R.drop k).set k (F.row sk fs R[k]).2 = D ++ [(F.row sk fs R[k]).2] ++ R.drop (k + 1) := by
      rw [List.set_append_right _ _ (by omega), hD, Nat.sub_self, hd, List.set_cons_zero]; simp only [List.append_assoc, List.singleton_append]
    rwa [e] at this
  · rw [he]
    simp [Form.rows]
theorem LoopP.done {F : Form} {fs : List Fld} {s1 : F.σ} {wL : World} {rb : Nat} {T : TypeId} {off : Nat} {R : List (List Value)} {m : Nat} {wr : World} (h : LoopP F fs s1 wL rb T off R m m wr) :
    ∃ l cs, At F s1 wL rb T (F.rows fs s1 (R.take m)).1 l (rowsCost (R.take m)) cs wr ∧ RowsIn cs off fs.length ((F.rows fs s1 (R.take m)).2 ++ R.drop m) := by
  obtain ⟨sk, D, l, c, cs, hD, _, hDf, hA, hR, hc, he⟩ := h
  simp only [Nat.sub_self, List.take_zero, rowsCost, Form.rows, List.append_nil, Nat.add_zero] at hc he
  rw [he]
  subst hc
  exact ⟨l, cs, hA, hR⟩
end Go.Proofs.Ytcbehfbfaonanaa.Wr
end

/- Lists of rows in memory: what a list's walk comes to. -/
section
namespace Go.Proofs.Ytcbehfbfaonanaa.Wr
open Go.RowKit Go.Proofs.YtcbehfbfaonanaaW.PrintWords Go.Proofs.YtcbehfbfaonanaaW.PrintLast Go.Proofs.YtcbehfbfaonanaaW.PrintMore Go.Proofs.Ytcbehfbfaonanaa.Pk
set_option linter.unusedVariables false
set_option linter.unusedSimpArgs false

/-- A list's rows oas they are gone through: those that are there, or new ones. -/
def Form.listR (F : Form) (fs : List Fld) (s : F.σ) (most : Nat) (rows : List (List Value)) : List (List Value) :=
  if rows.length < (F.count s rows.length most).2.toNat then List.replicate (F.count s rows.length most).2.toNat (zeroRow fs) else rows
def Form.listM (F : Form) (s : F.σ) (most : Nat) (n : Nat) : Nat := min (F.count s n most).2.toNat most
def Form.list (F : Form) (fs : List Fld) (s : F.σ) (most : Nat) (rows : List (List Value)) : F.σ × List (List Value) :=
  ((F.rows fs (F.count s rows.length most).1 ((F.listR fs s most rows).take (F.listM s most rows.length))).1,
    (F.rows fs (F.count s rows.length most).1 ((F.listR fs s most rows).take (F.listM s most rows.length))).2 ++ (F.listR fs s most rows).drop (F.listM s most rows.length))

/-- The slice's rows lie in memory. -/
def ListAt (w : World) (sv : Value) (st : Nat) (rows : List (List Value)) : Prop :=
  ∃ a c, sv = .slice a rows.length c ∧ (rows ≠ [] → ∃ rb off cs T, a = some ⟨rb, off, none⟩ ∧ w.heap[rb]? = some (.cells cs T (0, 0)) ∧ RowsIn cs off st rows) ∧ (a = none → c = 0)
def arr : Value → Option Nat
  | .slice (some a) _ _ => some a.block
  | _ => none
theorem ListAt.move {w w' : World} {sv : Value} {st : Nat} {rows : List (List Value)} (h : ListAt w sv st rows) (hk : ∀ k, arr sv = some k → rows ≠ [] → w'.heap[k]? = w.heap[k]?) : ListAt w' sv st rows := by
  obtain ⟨a, c, rfl, h, hz⟩ := h
  refine ⟨a, c, rfl, fun h0 => ?_, hz⟩
  obtain ⟨rb, off, cs, T, rfl, hb, hr⟩ := h h0
  exact ⟨rb, off, cs, T, rfl, (hk rb rfl h0).trans hb, hr⟩

/-- What a list's walk has come to. -/
def ListDone (F : Form) (s : F.σ) (w : World) (b j : Nat) (cs : Array Value) (T st : Nat) (sv : Value) (rows : List (List Value)) (s' : F.σ) (rows' : List (List Value)) (c : Nat) (e : Ending) (w' : World) : Prop :=
  e = .returned (.tuple #[]) ∧ ∃ sv', F.Inv s' w' ∧ (∀ k, k < w.heap.size → F.own w'.heap k → F.own w.heap k) ∧ F.room s' ≤ F.room s + c ∧ w'.heap[b]? = some (.cells (cs.setIfInBounds j sv') T (0, 0)) ∧ ListAt w' sv' st rows' ∧
    (sv' = sv ∨ ∃ k, arr sv' = some k ∧ w.heap.size ≤ k) ∧ (∀ k, arr sv' = some k → rows' ≠ [] → k ≠ b ∧ ¬ F.own w'.heap k) ∧ Only (fun k => F.own w.heap k ∨ k = b ∨ (arr sv = some k ∧ rows ≠ [])) w w'

theorem setIfInBounds_self {cs : Array Value} {j : Nat} {v : Value} (h : cs[j]? = some v) : cs.setIfInBounds j v = cs := by
  apply Array.ext_getElem?
  intro i
  rw [Array.getElem?_setIfInBounds]
  split
  · rename_i e
    subst e
    rw [h]
    have := (Array.getElem?_eq_some_iff.1 h).1
    simp [this]
  · rfl
theorem Wrote.only {S S' : Nat → Prop} {l : List (Addr × Value)} {w w' : World} (h : Wrote S l w w') (hs : ∀ k, k < w.heap.size → S k → S' k) (hl : ∀ p, p ∈ l → S' p.1.block) : Only S' w w' :=
  ⟨h.os, h.tape, h.output, h.size, fun k hk hn => h.far hk (fun s => hn (hs k hk s)) (fun p hp e => hn (e ▸ hl p hp))⟩
theorem alloc_new (w : World) (o : Obj) : (w.alloc o).heap[w.heap.size]? = some o := by
  show (w.heap.push o)[w.heap.size]? = some o
  simp
/-- No rows are gone through. -/
theorem ListDone.none_ {F : Form} {fs : List Fld} {s : F.σ} {w w1 : World} {b j : Nat} {cs : Array Value} {T : TypeId} {sv : Value} {most : Nat} {rows : List (List Value)}
    (hb : w.heap[b]? = some (.cells cs T (0, 0))) (hc : cs[j]? = some sv) (ho : ¬ F.own w.heap b) (hL : ListAt w sv fs.length rows) (hsep : ∀ k, arr sv = some k → rows ≠ [] → k ≠ b ∧ ¬ F.own w.heap k)
    (h : Stepped F s (F.count s rows.length most).1 [] 8 w w1) (h0 : (F.count s rows.length most).2 = 0) :
    ListDone F s w b j cs T fs.length sv rows (F.list fs s most rows).1 (F.list fs s most rows).2 (8 + rowsCost ((F.listR fs s most rows).take (F.listM s most rows.length))) (.returned (.tuple #[])) w1 := by
  have e1 : F.listM s most rows.length = 0 := by unfold Form.listM; rw [h0]; simp
  have e2 : F.listR fs s most rows = rows := by unfold Form.listR; rw [h0, if_neg (by simp)]
  have e3 : F.list fs s most rows = ((F.count s rows.length most).1, rows) := by unfold Form.list; rw [e1, e2]; simp [Form.rows]
  rw [e3, e1]
  dsimp only
  have hbl := blk_lt hb
  refine ⟨rfl, sv, h.inv, h.own, by have := h.room; omega, ?_, ?_, .inl rfl, ?_, h.wrote.only (fun k _ hk => .inl hk) (fun _ hp => nomatch hp)⟩
  · rw [setIfInBounds_self hc, h.wrote.far hbl ho (fun _ hp => nomatch hp)]; exact hb
  · refine hL.move fun k hk h0 => h.wrote.far ?_ (hsep k hk h0).2 (fun _ hp => nomatch hp)
    obtain ⟨a, c, rfl, hL, _⟩ := hL
    obtain ⟨rb, off, cs', T', rfl, hb', _⟩ := hL h0
    cases hk
    exact blk_lt hb'
  · intro k hk h0
    have hkl : k < w.heap.size := by
      obtain ⟨a, c, rfl, hL, _⟩ := hL
      obtain ⟨rb, off, cs', T', rfl, hb', _⟩ := hL h0
      cases hk
      exact blk_lt hb'
    exact ⟨(hsep k hk h0).1, fun h' => (hsep k hk h0).2 (h.own k hkl h')⟩

/-- The rows that were there are gone through. -/
theorem ListDone.old {F : Form} {fs : List Fld} {s : F.σ} {w w1 w2 : World} {b j : Nat} {cs : Array Value} {T Tr : TypeId} {A : Addr} {c most : Nat} {rows : List (List Value)}
    (hb : w.heap[b]? = some (.cells cs T (0, 0))) (hc : cs[j]? = some (.slice (some A) rows.length c)) (ho : ¬ F.own w.heap b) (h0 : rows ≠ []) (hsb : A.block ≠ b) (hso : ¬ F.own w.heap A.block) (hA : A.spot = none) (hAl : A.block < w.heap.size)
    (h : Stepped F s (F.count s rows.length most).1 [] 8 w w1) (hn : (F.count s rows.length most).2.toNat ≤ rows.length)
    (hl : LoopP F fs (F.count s rows.length most).1 w1 A.block Tr A.off rows (F.listM s most rows.length) (F.listM s most rows.length) w2) :
    ListDone F s w b j cs T fs.length (.slice (some A) rows.length c) rows (F.list fs s most rows).1 (F.list fs s most rows).2 (8 + rowsCost ((F.listR fs s most rows).take (F.listM s most rows.length))) (.returned (.tuple #[])) w2 := by
  have e2 : F.listR fs s most rows = rows := by unfold Form.listR; rw [if_neg (by omega)]
  have hm : F.listM s most rows.length ≤ rows.length := by unfold Form.listM; omega
  have hbl := blk_lt hb
  obtain ⟨l, cs2, hAt, hR⟩ := hl.done
  have hlen : ((F.rows fs (F.count s rows.length most).1 (rows.take (F.listM s most rows.length))).2 ++ rows.drop (F.listM s most rows.length)).length = rows.length := by
    rw [List.length_append, rows_length, List.length_take, List.length_drop]; omega
  have hs1 : w1.heap.size ≤ w2.heap.size := hAt.st.wrote.size
  unfold Form.list
  rw [e2]
  dsimp only
  have hnb : ¬ F.own w1.heap b := fun h' => ho (h.own b hbl h')
  refine ⟨rfl, _, hAt.st.inv, fun k hk hk' => h.own k hk (hAt.st.own k (Nat.lt_of_lt_of_le hk h.wrote.size) hk'), by have := h.room; have := hAt.st.room; omega, ?_, ⟨some A, c, by simp only [hlen], fun _ => ⟨A.block, A.off, cs2, Tr, by rw [← hA], hAt.blk, hR⟩, fun h => by cases h⟩, .inl rfl, ?_, ?_⟩
  · rw [setIfInBounds_self hc, hAt.far (Nat.lt_of_lt_of_le hbl h.wrote.size) hnb (Ne.symm hsb), h.wrote.far hbl ho (fun _ hp => nomatch hp)]; exact hb
  · intro k hk _
    cases hk
    exact ⟨hsb, hAt.no⟩
  · refine (h.wrote.only (S' := fun k => F.own w.heap k ∨ k = b ∨ (arr (.slice (some A) rows.length c) = some k ∧ rows ≠ [])) (fun k _ hk => .inl hk) (fun _ hp => nomatch hp)).trans (hAt.st.wrote.only (S' := fun k => F.own w1.heap k ∨ k = A.block) (fun k _ hk => .inl hk) (fun p hp => .inr (hAt.hl p hp))) ?_
    intro i hi hs
    rcases hs with hs | hs
    · exact .inl (h.own i hi hs)
    · exact .inr (.inr ⟨by rw [hs]; rfl, h0⟩)

/-- Zero rows, oas make lays them. -/
theorem madeRows {fs : List Fld} (Z : Array Value) (hZ : Z = (zeroRow fs).toArray) (n : Nat) : RowsIn (madeCells Z (n * fs.length)) 0 fs.length (List.replicate n (zeroRow fs)) := by
  intro k r hr j v hj
  have hk : k < n := by have := (List.getElem?_eq_some_iff.1 hr).1; simpa using this
  have er : r = zeroRow fs := by
    rw [List.getElem?_replicate, if_pos hk] at hr
    injection hr with hr
    exact hr.symm
  subst er
  have hj' : j < fs.length := by have := (List.getElem?_eq_some_iff.1 hj).1; simpa [zeroRow] using this
  have hs : Z.size = fs.length := by rw [hZ]; simp [zeroRow]
  have hlt : 0 + k * fs.length + j < n * fs.length := by
    have : (k + 1) * fs.length ≤ n * fs.length := Nat.mul_le_mul_right _ hk
    rw [Nat.add_mul] at this
    omega
  unfold madeCells
  rw [Array.getElem?_map, Array.getElem?_range, if_pos hlt]
  have hmod : (0 + k * fs.length + j) % fs.length = j := by rw [Nat.zero_add, Nat.add_comm, Nat.add_mul_mod_self_right, Nat.mod_eq_of_lt hj']
  simp only [Option.map_some, hs, hmod]
  rw [← hj, hZ]
  have : j < (zeroRow fs).length := by simpa [zeroRow] using hj'
  simp [this]

/-- New rows are made and gone through. -/
theorem ListDone.new_ {F : Form} (hF : F.Good) {fs : List Fld} {s : F.σ} {w w1 w2 : World} {b j : Nat} {cs : Array Value} {T Tr : TypeId} {sv : Value} {most : Nat} {rows : List (List Value)} {N : Nat} {Z : Array Value}
    (hb : w.heap[b]? = some (.cells cs T (0, 0))) (ho : ¬ F.own w.heap b)
    (h : Stepped F s (F.count s rows.length most).1 [] 8 w w1) (hN : (F.count s rows.length most).2.toNat = N) (hn : rows.length < N) (hm : N ≤ most)
    (hl : LoopP F fs (F.count s rows.length most).1 ((w1.setCell ⟨b, j, none⟩ (.slice (some ⟨w1.heap.size, 0, none⟩) N N)).alloc (.cells (madeCells Z (N * fs.length)) Tr)) w1.heap.size Tr 0 (List.replicate N (zeroRow fs)) N N w2) :
    ListDone F s w b j cs T fs.length sv rows (F.list fs s most rows).1 (F.list fs s most rows).2 (8 + rowsCost ((F.listR fs s most rows).take (F.listM s most rows.length))) (.returned (.tuple #[])) w2 := by
  have e2 : F.listR fs s most rows = List.replicate N (zeroRow fs) := by unfold Form.listR; rw [hN, if_pos hn]
  have e1 : F.listM s most rows.length = N := by unfold Form.listM; rw [hN]; omega
  have hbl := blk_lt hb
  have hbl1 : b < w1.heap.size := Nat.lt_of_lt_of_le hbl h.wrote.size
  rw [← World.setCell_alloc_past (w := w1) _ _ _ _ hbl1] at hl
  obtain ⟨l, cs2, hAt, hR⟩ := hl.done
  have hb1 : w1.heap[b]? = some (.cells cs T (0, 0)) := (h.wrote.far hbl ho (fun _ hp => nomatch hp)).trans hb
  have hlen : ((F.rows fs (F.count s rows.length most).1 ((List.replicate N (zeroRow fs)).take N)).2 ++ (List.replicate N (zeroRow fs)).drop N).length = N := by
    rw [List.length_append, rows_length, List.length_take, List.length_drop, List.length_replicate]; omega
  unfold Form.list
  rw [e2, e1]
  dsimp only
  have hnb : ¬ F.own w1.heap b := fun h' => ho (h.own b hbl h')
  have hom : ∀ k, F.own ((w1.alloc (.cells (madeCells Z (N * fs.length)) Tr)).setCell ⟨b, j, none⟩ (.slice (some ⟨w1.heap.size, 0, none⟩) N N)).heap k → F.own w1.heap k := hF.own_move h.inv (fun k hk => (Below.heap_setCell _ _ _ _ (fun e => hnb (by have e' : k = b := e; rwa [e'] at hk))).trans (Below.heap_alloc w1 _ k (hF.lt h.inv hk)))
  have hsz : ((w1.alloc (.cells (madeCells Z (N * fs.length)) Tr)).setCell ⟨b, j, none⟩ (.slice (some ⟨w1.heap.size, 0, none⟩) N N)).heap.size = w1.heap.size + 1 := by rw [World.size_setCell, World.size_alloc]
  have hb2 : ((w1.alloc (.cells (madeCells Z (N * fs.length)) Tr)).setCell ⟨b, j, none⟩ (.slice (some ⟨w1.heap.size, 0, none⟩) N N)).heap[b]? = some (.cells (cs.setIfInBounds j (.slice (some ⟨w1.heap.size, 0, none⟩) N N)) T (0, 0)) :=
    blk_set ((Below.heap_alloc w1 _ b hbl1).trans hb1) _ _
  refine ⟨rfl, .slice (some ⟨w1.heap.size, 0, none⟩) N N, hAt.st.inv, fun k hk hk' => h.own k hk (hom k (hAt.st.own k (by have := h.wrote.size; omega) hk')), by have := h.room; have := hAt.st.room; omega, ?_, ⟨some ⟨w1.heap.size, 0, none⟩, N, by simp only [hlen], fun _ => ⟨w1.heap.size, 0, cs2, Tr, rfl, hAt.blk, hR⟩, fun h => by cases h⟩, .inr ⟨w1.heap.size, rfl, h.wrote.size⟩, ?_, ?_⟩
  · rw [hAt.far (by rw [hsz]; omega) (fun h' => hnb (hom b h')) (by omega)]; exact hb2
  · intro k hk _
    cases hk
    exact ⟨by simp only; omega, hAt.no⟩
  · have o1 : Only (fun k => F.own w.heap k ∨ k = b) w w1 := h.wrote.only (fun k _ hk => .inl hk) (fun _ hp => nomatch hp)
    have o2 : Only (fun k => F.own w.heap k ∨ k = b) w ((w1.alloc (.cells (madeCells Z (N * fs.length)) Tr)).setCell ⟨b, j, none⟩ (.slice (some ⟨w1.heap.size, 0, none⟩) N N)) := (o1.alloc _).set (.inr (.inr rfl)) _
    have o3 : Only (fun k => F.own ((w1.alloc (.cells (madeCells Z (N * fs.length)) Tr)).setCell ⟨b, j, none⟩ (.slice (some ⟨w1.heap.size, 0, none⟩) N N)).heap k ∨ k = w1.heap.size) ((w1.alloc (.cells (madeCells Z (N * fs.length)) Tr)).setCell ⟨b, j, none⟩ (.slice (some ⟨w1.heap.size, 0, none⟩) N N)) w2 := hAt.st.wrote.only (fun k _ hk => .inl hk) (fun p hp => .inr (hAt.hl p hp))
    refine (o2.trans o3 ?_).mono ?_
    · intro i hi hs
      rcases hs with hs | hs
      · exact .inl (h.own i hi (hom i hs))
      · have := h.wrote.size; omega
    · intro k _ hk
      rcases hk with hk | hk
      · exact .inl hk
      · exact .inr (.inl hk)
end Go.Proofs.Ytcbehfbfaonanaa.Wr
end

/- The walks of a message's fields, with a form of whatever make (printed by genrow.py). -/
section
namespace Go.Proofs.Ytcbehfbfaonanaa.Wr
open Go.RowKit Go.Proofs.YtcbehfbfaonanaaW.PrintWords Go.Proofs.YtcbehfbfaonanaaW.PrintLast Go.Proofs.YtcbehfbfaonanaaW.PrintMore Go.Proofs.Ytcbehfbfaonanaa.Pk
set_option linter.unusedVariables false
set_option linter.unusedSimpArgs false

def posF : List Fld := [.num 0 64, .num 0 512]
set_option maxRecDepth 100000 in
set_option maxHeartbeats 2000000 in
theorem pos_c : RowC 66 posF := by
  intro F hF s w b i cs T vs hI ho hr hb hv hf
  obtain ⟨v0, vs, rfl⟩ : ∃ v0 r, vs = v0 :: r := by cases vs with | nil => exact hf.elim | cons a r => exact ⟨_, _, rfl⟩
  obtain ⟨⟨x0, rfl⟩, hf⟩ := hf
  obtain ⟨v1, vs, rfl⟩ : ∃ v0 r, vs = v0 :: r := by cases vs with | nil => exact hf.elim | cons a r => exact ⟨_, _, rfl⟩
  obtain ⟨⟨x1, rfl⟩, hf⟩ := hf
  obtain rfl : vs = [] := by cases vs with | nil => rfl | cons a r => exact hf.elim
  have c0 : cs[i]? = some (.int .i64 x0) := hv 0 _ rfl
  have c1 : cs[i + 1]? = some (.int .i64 x1) := hv 1 _ rfl
  have hmf : ∀ (fn : Fn) (first cap : Array Value) (w : World), (Instr.makeFunc fn first cap).run Try.prog w = .ok (.func fn first cap) w := fun _ _ _ _ => rfl
  have HA0 := hF.ahead 0 "meridian/wire.num" (by decide) rfl
  have HM0 := hF.method 0 "meridian/wire.num" (by decide) rfl
  have HE0 := hF.enter 0 (by decide)
  have A0 := Aside0.mk (At.start hI ho hb)
  have HR := Aside0.mk hr
  have HC0 := Aside0.mk c0
  have HC1 := Aside0.mk c1
  have HG := Aside0.mk hF
  clear hI ho hr hb hv hf hF c0 c1
  go_enter Try.func66, Try.ntmps66
  have C0 := Aside0.mk (A0.out.num HG.out (j := i) (n := x0) (by (repeat (first | rw [Array.getElem?_setIfInBounds_ne (by omega)] | rw [into_far_row (by simp only [List.length_cons, List.length_nil]; omega)])); exact HC0.out) (by have := HR.out; simp only [cost, costV] at this; (try simp only [cost, costV]); omega) 0 64)
  go_wp2
  go_region_held3 (fun _ => True) (trivial) (((with_reducible refine C0.out.mono ?_); rintro e w1 ⟨rfl, H⟩; have A1 := Aside0.mk H; clear H))
  have C1 := Aside0.mk (A1.out.num HG.out (j := i + 1) (n := x1) (by (repeat (first | rw [Array.getElem?_setIfInBounds_ne (by omega)] | rw [into_far_row (by simp only [List.length_cons, List.length_nil]; omega)])); exact HC1.out) (by have := HR.out; simp only [cost, costV] at this; (try simp only [cost, costV]); omega) 0 512)
  go_wp2
  go_region_held3 (fun _ => True) (trivial) (((with_reducible refine C1.out.mono ?_); rintro e w2 ⟨rfl, H⟩; have A2 := Aside0.mk H; clear H))
  go_wp2
  go_end0
  exact A2.out.did rfl rfl (by first | rfl | (simp only [cost, costV]; done) | (simp only [cost, costV]; omega))
def valueF : List Fld := [.num 0 64, .num 0 512, .flag, .text 1024]
set_option maxRecDepth 100000 in
set_option maxHeartbeats 2000000 in
theorem value_c : RowC 72 valueF := by
  intro F hF s w b i cs T vs hI ho hr hb hv hf
  obtain ⟨v0, vs, rfl⟩ : ∃ v0 r, vs = v0 :: r := by cases vs with | nil => exact hf.elim | cons a r => exact ⟨_, _, rfl⟩
  obtain ⟨⟨x0, rfl⟩, hf⟩ := hf
  obtain ⟨v1, vs, rfl⟩ : ∃ v0 r, vs = v0 :: r := by cases vs with | nil => exact hf.elim | cons a r => exact ⟨_, _, rfl⟩
  obtain ⟨⟨x1, rfl⟩, hf⟩ := hf
  obtain ⟨v2, vs, rfl⟩ : ∃ v0 r, vs = v0 :: r := by cases vs with | nil => exact hf.elim | cons a r => exact ⟨_, _, rfl⟩
  obtain ⟨⟨x2, rfl⟩, hf⟩ := hf
  obtain ⟨v3, vs, rfl⟩ : ∃ v0 r, vs = v0 :: r := by cases vs with | nil => exact hf.elim | cons a r => exact ⟨_, _, rfl⟩
  obtain ⟨⟨x3, rfl⟩, hf⟩ := hf
  obtain rfl : vs = [] := by cases vs with | nil => rfl | cons a r => exact hf.elim
  have c0 : cs[i]? = some (.int .i64 x0) := hv 0 _ rfl
  have c1 : cs[i + 1]? = some (.int .i64 x1) := hv 1 _ rfl
  have c2 : cs[i + 2]? = some (.bool x2) := hv 2 _ rfl
  have c3 : cs[i + 3]? = some (.string x3) := hv 3 _ rfl
  have hmf : ∀ (fn : Fn) (first cap : Array Value) (w : World), (Instr.makeFunc fn first cap).run Try.prog w = .ok (.func fn first cap) w := fun _ _ _ _ => rfl
  have HA1 := hF.ahead 1 "meridian/wire.flag" (by decide) rfl
  have HM1 := hF.method 1 "meridian/wire.flag" (by decide) rfl
  have HE1 := hF.enter 1 (by decide)
  have HA2 := hF.ahead 2 "meridian/wire.text" (by decide) rfl
  have HM2 := hF.method 2 "meridian/wire.text" (by decide) rfl
  have HE2 := hF.enter 2 (by decide)
  have A0 := Aside0.mk (At.start hI ho hb)
  have HR := Aside0.mk hr
  have HC0 := Aside0.mk c0
  have HC1 := Aside0.mk c1
  have HC2 := Aside0.mk c2
  have HC3 := Aside0.mk c3
  have HG := Aside0.mk hF
  clear hI ho hr hb hv hf hF c0 c1 c2 c3
  go_enter Try.func72, Try.ntmps72
  have C0 := Aside0.mk (A0.out.row' HG.out (i := i) (vs := [.int .i64 x0, .int .i64 x1]) pos_c (seg_cons (by (repeat (first | rw [Array.getElem?_setIfInBounds_ne (by omega)] | rw [into_far_row (by simp only [List.length_cons, List.length_nil]; omega)])); exact HC0.out) (seg_cons (by (repeat (first | rw [Array.getElem?_setIfInBounds_ne (by omega)] | rw [into_far_row (by simp only [List.length_cons, List.length_nil]; omega)])); exact HC1.out) seg_nil)) (by simp [fits, Fld.fits, posF]) (by have := HR.out; simp only [cost, costV] at this; (try simp only [cost, costV]); omega))
  go_wp2_with (go_at_call 66; (with_reducible refine C0.out.mono ?_); rintro e w1 ⟨rfl, H⟩; have A1 := Aside0.mk H; clear H)
  have C1 := Aside0.mk (A1.out.flag HG.out (j := i + 2) (n := x2) (by (repeat (first | rw [Array.getElem?_setIfInBounds_ne (by omega)] | rw [into_far_row (by simp only [List.length_cons, List.length_nil]; omega)])); exact HC2.out) (by have := HR.out; simp only [cost, costV] at this; (try simp only [cost, costV]); omega))
  go_region_held3 (fun _ => True) (trivial) (((with_reducible refine C1.out.mono ?_); rintro e w2 ⟨rfl, H⟩; have A2 := Aside0.mk H; clear H))
  have C2 := Aside0.mk (A2.out.text HG.out (j := i + 3) (n := x3) (by (repeat (first | rw [Array.getElem?_setIfInBounds_ne (by omega)] | rw [into_far_row (by simp only [List.length_cons, List.length_nil]; omega)])); exact HC3.out) 1024 (by have := HR.out; simp only [cost, costV] at this; (try simp only [cost, costV]); omega))
  go_wp2
  go_region_held3 (fun _ => True) (trivial) (((with_reducible refine C2.out.mono ?_); rintro e w3 ⟨rfl, H⟩; have A3 := Aside0.mk H; clear H))
  go_wp2
  go_end0
  exact A3.out.did rfl rfl (by first | rfl | (simp only [cost, costV]; done) | (simp only [cost, costV]; omega))
end Go.Proofs.Ytcbehfbfaonanaa.Wr
end

/- The walks of a message's fields, with a form of whatever make (printed by genrow.py). -/
section
namespace Go.Proofs.Ytcbehfbfaonanaa.Wr
open Go.RowKit Go.Proofs.YtcbehfbfaonanaaW.PrintWords Go.Proofs.YtcbehfbfaonanaaW.PrintLast Go.Proofs.YtcbehfbfaonanaaW.PrintMore Go.Proofs.Ytcbehfbfaonanaa.Pk
set_option linter.unusedVariables false
set_option linter.unusedSimpArgs false

def entryF : List Fld := [.num 0 64, .num 0 512, .num 0 9007199254740992, .num 0 9007199254740992, .text 64, .flag, .text 1024]
set_option maxRecDepth 100000 in
set_option maxHeartbeats 2000000 in
theorem entry_c : RowC 65 entryF := by
  intro F hF s w b i cs T vs hI ho hr hb hv hf
  obtain ⟨v0, vs, rfl⟩ : ∃ v0 r, vs = v0 :: r := by cases vs with | nil => exact hf.elim | cons a r => exact ⟨_, _, rfl⟩
  obtain ⟨⟨x0, rfl⟩, hf⟩ := hf
  obtain ⟨v1, vs, rfl⟩ : ∃ v0 r, vs = v0 :: r := by cases vs with | nil => exact hf.elim | cons a r => exact ⟨_, _, rfl⟩
  obtain ⟨⟨x1, rfl⟩, hf⟩ := hf
  obtain ⟨v2, vs, rfl⟩ : ∃ v0 r, vs = v0 :: r := by cases vs with | nil => exact hf.elim | cons a r => exact ⟨_, _, rfl⟩
  obtain ⟨⟨x2, rfl⟩, hf⟩ := hf
  obtain ⟨v3, vs, rfl⟩ : ∃ v0 r, vs = v0 :: r := by cases vs with | nil => exact hf.elim | cons a r => exact ⟨_, _, rfl⟩
  obtain ⟨⟨x3, rfl⟩, hf⟩ := hf
  obtain ⟨v4, vs, rfl⟩ : ∃ v0 r, vs = v0 :: r := by cases vs with | nil => exact hf.elim | cons a r => exact ⟨_, _, rfl⟩
  obtain ⟨⟨x4, rfl⟩, hf⟩ := hf
  obtain ⟨v5, vs, rfl⟩ : ∃ v0 r, vs = v0 :: r := by cases vs with | nil => exact hf.elim | cons a r => exact ⟨_, _, rfl⟩
  obtain ⟨⟨x5, rfl⟩, hf⟩ := hf
  obtain ⟨v6, vs, rfl⟩ : ∃ v0 r, vs = v0 :: r := by cases vs with | nil => exact hf.elim | cons a r => exact ⟨_, _, rfl⟩
  obtain ⟨⟨x6, rfl⟩, hf⟩ := hf
  obtain rfl : vs = [] := by cases vs with | nil => rfl | cons a r => exact hf.elim
  have c0 : cs[i]? = some (.int .i64 x0) := hv 0 _ rfl
  have c1 : cs[i + 1]? = some (.int .i64 x1) := hv 1 _ rfl
  have c2 : cs[i + 2]? = some (.int .i64 x2) := hv 2 _ rfl
  have c3 : cs[i + 3]? = some (.int .i64 x3) := hv 3 _ rfl
  have c4 : cs[i + 4]? = some (.string x4) := hv 4 _ rfl
  have c5 : cs[i + 5]? = some (.bool x5) := hv 5 _ rfl
  have c6 : cs[i + 6]? = some (.string x6) := hv 6 _ rfl
  have hmf : ∀ (fn : Fn) (first cap : Array Value) (w : World), (Instr.makeFunc fn first cap).run Try.prog w = .ok (.func fn first cap) w := fun _ _ _ _ => rfl
  have HA1 := hF.ahead 1 "meridian/wire.flag" (by decide) rfl
  have HM1 := hF.method 1 "meridian/wire.flag" (by decide) rfl
  have HE1 := hF.enter 1 (by decide)
  have HA0 := hF.ahead 0 "meridian/wire.num" (by decide) rfl
  have HM0 := hF.method 0 "meridian/wire.num" (by decide) rfl
  have HE0 := hF.enter 0 (by decide)
  have HA2 := hF.ahead 2 "meridian/wire.text" (by decide) rfl
  have HM2 := hF.method 2 "meridian/wire.text" (by decide) rfl
  have HE2 := hF.enter 2 (by decide)
  have A0 := Aside0.mk (At.start hI ho hb)
  have HR := Aside0.mk hr
  have HC0 := Aside0.mk c0
  have HC1 := Aside0.mk c1
  have HC2 := Aside0.mk c2
  have HC3 := Aside0.mk c3
  have HC4 := Aside0.mk c4
  have HC5 := Aside0.mk c5
  have HC6 := Aside0.mk c6
  have HG := Aside0.mk hF
  clear hI ho hr hb hv hf hF c0 c1 c2 c3 c4 c5 c6
  go_enter Try.func65, Try.ntmps65
  have C0 := Aside0.mk (A0.out.row' HG.out (i := i) (vs := [.int .i64 x0, .int .i64 x1]) pos_c (seg_cons (by (repeat (first | rw [Array.getElem?_setIfInBounds_ne (by omega)] | rw [into_far_row (by simp only [List.length_cons, List.length_nil]; omega)])); exact HC0.out) (seg_cons (by (repeat (first | rw [Array.getElem?_setIfInBounds_ne (by omega)] | rw [into_far_row (by simp only [List.length_cons, List.length_nil]; omega)])); exact HC1.out) seg_nil)) (by simp [fits, Fld.fits, posF]) (by have := HR.out; simp only [cost, costV] at this; (try simp only [cost, costV]); omega))
  go_wp2_with (go_at_call 66; (with_reducible refine C0.out.mono ?_); rintro e w1 ⟨rfl, H⟩; have A1 := Aside0.mk H; clear H)
  have C1 := Aside0.mk (A1.out.num HG.out (j := i + 2) (n := x2) (by (repeat (first | rw [Array.getElem?_setIfInBounds_ne (by omega)] | rw [into_far_row (by simp only [List.length_cons, List.length_nil]; omega)])); exact HC2.out) (by have := HR.out; simp only [cost, costV] at this; (try simp only [cost, costV]); omega) 0 9007199254740992)
  go_region_held3 (fun _ => True) (trivial) (((with_reducible refine C1.out.mono ?_); rintro e w2 ⟨rfl, H⟩; have A2 := Aside0.mk H; clear H))
  have C2 := Aside0.mk (A2.out.num HG.out (j := i + 3) (n := x3) (by (repeat (first | rw [Array.getElem?_setIfInBounds_ne (by omega)] | rw [into_far_row (by simp only [List.length_cons, List.length_nil]; omega)])); exact HC3.out) (by have := HR.out; simp only [cost, costV] at this; (try simp only [cost, costV]); omega) 0 9007199254740992)
  go_wp2
  go_region_held3 (fun _ => True) (trivial) (((with_reducible refine C2.out.mono ?_); rintro e w3 ⟨rfl, H⟩; have A3 := Aside0.mk H; clear H))
  have C3 := Aside0.mk (A3.out.text HG.out (j := i + 4) (n := x4) (by (repeat (first | rw [Array.getElem?_setIfInBounds_ne (by omega)] | rw [into_far_row (by simp only [List.length_cons, List.length_nil]; omega)])); exact HC4.out) 64 (by have := HR.out; simp only [cost, costV] at this; (try simp only [cost, costV]); omega))
  go_wp2
  go_region_held3 (fun _ => True) (trivial) (((with_reducible refine C3.out.mono ?_); rintro e w4 ⟨rfl, H⟩; have A4 := Aside0.mk H; clear H))
  have C4 := Aside0.mk (A4.out.flag HG.out (j := i + 5) (n := x5) (by (repeat (first | rw [Array.getElem?_setIfInBounds_ne (by omega)] | rw [into_far_row (by simp only [List.length_cons, List.length_nil]; omega)])); exact HC5.out) (by have := HR.out; simp only [cost, costV] at this; (try simp only [cost, costV]); omega))
  go_wp2
  go_region_held3 (fun _ => True) (trivial) (((with_reducible refine C4.out.mono ?_); rintro e w5 ⟨rfl, H⟩; have A5 := Aside0.mk H; clear H))
  have C5 := Aside0.mk (A5.out.text HG.out (j := i + 6) (n := x6) (by (repeat (first | rw [Array.getElem?_setIfInBounds_ne (by omega)] | rw [into_far_row (by simp only [List.length_cons, List.length_nil]; omega)])); exact HC6.out) 1024 (by have := HR.out; simp only [cost, costV] at this; (try simp only [cost, costV]); omega))
  go_wp2
  go_region_held3 (fun _ => True) (trivial) (((with_reducible refine C5.out.mono ?_); rintro e w6 ⟨rfl, H⟩; have A6 := Aside0.mk H; clear H))
  go_wp2
  go_end0
  exact A6.out.did rfl rfl (by first | rfl | (simp only [cost, costV]; done) | (simp only [cost, costV]; omega))
end Go.Proofs.Ytcbehfbfaonanaa.Wr
end

/- A list of rows handed to a form: the walk of list at one kind of row (printed by genlist.py). -/
section
namespace Go.Proofs.Ytcbehfbfaonanaa.Wr
open Go.RowKit Go.Proofs.YtcbehfbfaonanaaW.PrintWords Go.Proofs.YtcbehfbfaonanaaW.PrintLast Go.Proofs.YtcbehfbfaonanaaW.PrintMore Go.Proofs.Ytcbehfbfaonanaa.Pk
set_option linter.unusedVariables false
set_option linter.unusedSimpArgs false

set_option maxRecDepth 100000 in
set_option maxHeartbeats 1000000 in
theorem entx_c : RowX 64 entryF := by
  intro F hF s w b i g cs T vs hI ho hg hgb cg0 hr hb hv hf
  have C := Aside0.mk (entry_c F hF s w b i cs T vs hI ho hr hb hv hf)
  clear hI ho hg hgb hr hb hv hf
  go_enter Try.func64, Try.ntmps64
  go_wp2_with (go_at_call 65; (with_reducible refine C.out.mono ?_); rintro e w1 ⟨rfl, H⟩; have HH := Aside0.mk H; clear H)
  go_end0
  exact ⟨rfl, HH.out⟩

theorem zero_E : (Try.prog.info? 66).map (fun i => (i.zero, i.size, i.bytes)) = some (some (.agg (zeroRow entryF).toArray), (entryF).length, 72) := by kernel_rfl
theorem made_E (W : World) (N : Nat) (h : N ≤ 64) : (Instr.makeSlice 22 (.int .i64 (N : Int)) (.int .i64 (N : Int))).run Try.prog W = .ok (.slice (some ⟨W.heap.size, 0, none⟩) N N) (W.alloc (.cells (madeCells (zeroRow entryF).toArray (N * (entryF).length)) 66)) := by
  obtain ⟨i, hi, hz⟩ := Option.map_eq_some_iff.1 zero_E
  simp only [Prod.mk.injEq] at hz
  obtain ⟨h1, h2, h3⟩ := hz
  have := run_make (P := Try.prog) W 22 66 i _ Try.underlying22 hi h1 .i64 .i64 (N : Int) (N : Int) (by omega) (Int.le_refl _) (by rw [h3]; omega) (by omega)
  rw [h2, Int.toNat_natCast] at this
  exact this

set_option maxRecDepth 100000 in
set_option maxHeartbeats 4000000 in
theorem listE_c (F : Form) (hF : F.Good) (s : F.σ) (w : World) (b j g : Nat) (cs : Array Value) (T : TypeId) (A : Option Addr) (c : Nat) (rows : List (List Value)) (hI : F.Inv s w) (ho : ¬ F.own w.heap b) (hg : ¬ F.own w.heap g) (hgb : g ≠ b) (cg : w.cell? ⟨g, 0, none⟩ = some (.iface F.ty F.v))
    (hr : F.room s + (8 + rowsCost ((F.listR entryF s 8 rows).take (F.listM s 8 rows.length))) ≤ cap) (hb : w.heap[b]? = some (.cells cs T (0, 0))) (hc : cs[j]? = some (.slice A rows.length c)) (hL : ListAt w (.slice A rows.length c) (entryF).length rows)
    (hsep : ∀ k, arr (.slice A rows.length c) = some k → rows ≠ [] → k ≠ b ∧ ¬ F.own w.heap k ∧ k ≠ g) (hfit : ∀ r, r ∈ rows → fits entryF r) (hnl : rows.length ≤ 9223372036854775807) :
    Calls Try.prog 63 #[.iface F.ty F.v, .pointer (some ⟨b, j, none⟩), .int .i64 8, .func (.func 64) #[] #[.pointer (some ⟨g, 0, none⟩)]] w
      (ListDone F s w b j cs T (entryF).length (.slice A rows.length c) rows (F.list entryF s 8 rows).1 (F.list entryF s 8 rows).2 (8 + rowsCost ((F.listR entryF s 8 rows).take (F.listM s 8 rows.length)))) := by
  have hmf : ∀ (fn : Fn) (first cap : Array Value) (w : World), (Instr.makeFunc fn first cap).run Try.prog w = .ok (.func fn first cap) w := fun _ _ _ _ => rfl
  have HA := hF.ahead 3 "meridian/wire.count" (by decide) rfl
  have HM := hF.method 3 "meridian/wire.count" (by decide) rfl
  have HE := hF.enter 3 (by decide)
  obtain ⟨l0, l1⟩ := hF.count_lim s (rows.length : Int) 8 (by omega) (by omega)
  obtain ⟨N, hN⟩ := Int.eq_ofNat_of_zero_le l0
  have HCt := hF.count_c s w.drew (rows.length : Int) 8 (hF.move hI (fun _ _ => rfl) (Nat.le_refl _)) (by omega) (by omega) (by omega)
  rw [hN] at HCt
  have HC := Aside0.mk HCt
  have HL := Aside0.mk hL
  have HS := Aside0.mk hsep
  have HF := Aside0.mk hfit
  have HR := Aside0.mk hr
  have HG := Aside0.mk hF
  have HO := Aside0.mk ho
  have HOg := Aside0.mk hg
  have HB := Aside0.mk hgb
  have HCg := Aside0.mk cg
  have HH := Aside0.mk hb
  have HJ := Aside0.mk hc
  have HN := Aside0.mk (show (F.count s (rows.length : Int) ((8 : Nat) : Int)).2.toNat = N by rw [show (F.count s (rows.length : Int) ((8 : Nat) : Int)).2 = _ from hN]; rfl)
  have HNI := Aside0.mk (show (F.count s (rows.length : Int) ((8 : Nat) : Int)).2 = (N : Int) from hN)
  have cb0 : w.cell? ⟨b, j, none⟩ = some (.slice A rows.length c) := (blk_cell hb j).trans hc
  have HCb := Aside0.mk cb0
  have Hl1 := Aside0.mk (show N = rows.length ∨ N ≤ 8 by rw [hN] at l1; omega)
  have HHg := Aside0.mk (World.block_lt_of_cell? w ⟨g, 0, none⟩ cg)
  clear l0 l1 HCt hL hsep hfit hr hF ho hg hgb hb hc hI hN cg
  generalize hn : rows.length = n at *
  have HRn := Aside0.mk hn
  clear hn
  by_cases z0 : N = 0
  · subst z0
    have t1 : (decide ((n : Int) < 0)) = false := by simp
    go_enter Try.func63, Try.ntmps63
    go_wp2
    go_region_held3 (fun W => W.cell? ⟨b, j, none⟩ = some (.slice A n c)) (go_keep) (((with_reducible refine HC.out.mono ?_); rintro e w1 ⟨rfl, H⟩; have cb1 := (World.cell?_of_block (w := w) (a := ⟨b, j, none⟩) (H.undrew.wrote.far (blk_lt HH.out) HO.out (fun _ hp => nomatch hp))).trans HCb.out; have A1 := Aside0.mk (show Stepped F s (F.count s (n : Int) ((8 : Nat) : Int)).1 [] 8 w w1 from H.undrew); clear H))
    go_wp2
    go_loopw [9] (fun i wr => i = .int .i64 0 ∧ wr = w1) (fun i _ => 0)
    case atStart => exact ⟨rfl, rfl⟩
    case round =>
      obtain ⟨rfl, rfl⟩ := hrel
      go_wp2
      go_end0
      have hnr := HRn.out
      subst hnr
      exact ListDone.none_ (most := 8) HH.out HJ.out HO.out HL.out (fun k h1 h2 => ⟨(HS.out k h1 h2).1, (HS.out k h1 h2).2.1⟩) A1.out HNI.out
  by_cases z1 : N ≤ n
  · have h0 : rows ≠ [] := fun e => by have := HRn.out; rw [e] at this; simp at this; omega
    obtain ⟨a', c', e, hL2, _⟩ := HL.out
    obtain ⟨rb, off, csr, Tr, rfl, hbr, hRI⟩ := hL2 h0
    injection e with e1 e2 e3
    subst e1
    have HSp := Aside0.mk (HS.out rb rfl h0)
    have Hbr := Aside0.mk hbr
    have Hcs := Aside0.mk hRI
    have H0 := Aside0.mk h0
    clear hL2 h0 e2 e3 hRI hbr
    have t1 : (decide (n < N)) = false := by simp; omega
    have e2 := Aside0.mk (show F.listR entryF s 8 rows = rows by unfold Form.listR; rw [HRn.out, HN.out, if_neg (by omega)])
    have e3 := Aside0.mk (show F.listM s 8 n = min N 8 by unfold Form.listM; rw [HN.out])
    have hm : min N 8 ≤ rows.length := by rw [HRn.out]; omega
    have HM1 := Aside0.mk hm
    clear hm
    have HRo := Aside0.mk (show F.room s + (8 + rowsCost (rows.take (min N 8))) ≤ cap by have := HR.out; rw [e2.out, e3.out] at this; exact this)
    go_enter Try.func63, Try.ntmps63
    go_wp2
    go_region_held3 (fun W => W.cell? ⟨b, j, none⟩ = some (.slice (some ⟨rb, off, none⟩) n c)) (go_keep) (((with_reducible refine HC.out.mono ?_); rintro e w1 ⟨rfl, H⟩; have cb1 := (World.cell?_of_block (w := w) (a := ⟨b, j, none⟩) (H.undrew.wrote.far (blk_lt HH.out) HO.out (fun _ hp => nomatch hp))).trans HCb.out; have A1 := Aside0.mk (show Stepped F s (F.count s (n : Int) ((8 : Nat) : Int)).1 [] 8 w w1 from H.undrew); clear H))
    have HP0 := Aside0.mk (LoopP.start (fs := entryF) (R := rows) (off := off) (min N 8) A1.out.inv (fun h => HSp.out.2.1 (A1.out.own rb (blk_lt Hbr.out) h)) ((A1.out.wrote.far (blk_lt Hbr.out) HSp.out.2.1 (fun _ hp => nomatch hp)).trans Hbr.out) Hcs.out)
    have HCg1 := Aside0.mk ((World.cell?_of_block (w := w) (a := ⟨g, 0, none⟩) (A1.out.wrote.far HHg.out HOg.out (fun _ hp => nomatch hp))).trans HCg.out)
    have HCb1 := Aside0.mk cb1
    have HOg1 := Aside0.mk (fun h => HOg.out (A1.out.own g HHg.out h))
    have HOb1 := Aside0.mk (fun h => HO.out (A1.out.own b (blk_lt HH.out) h))
    go_wp2
    go_loopw [9] (fun i wr => ∃ k : Nat, i = .int .i64 k ∧ k ≤ min N 8 ∧ Aside0 (LoopP F entryF (F.count s (n : Int) ((8 : Nat) : Int)).1 w1 rb Tr off rows (min N 8) k wr)) (fun i _ => N - (intOf i).toNat)
    case atStart => exact ⟨0, rfl, by omega, HP0⟩
    case round =>
      clear HP0
      obtain ⟨k, rfl, hk, HP⟩ := hrel
      have hcb : wr.cell? ⟨b, j, none⟩ = some (.slice (some ⟨rb, off, none⟩) n c) := by
        obtain ⟨sk, D, l, cc, cs', _, _, _, hAt, _⟩ := HP.out
        exact hAt.cell HCb1.out HOb1.out (Ne.symm HSp.out.1)
      by_cases hlt : k < min N 8
      · have i0 : (0 : Int) ≤ (k : Int) := by omega
        have i1 : (k : Int) < (n : Int) := by omega
        have i2 : (k : Int) < (N : Int) := by omega
        have i3 : (k : Int) < 8 := by omega
        have HCs : Aside0 (Calls Try.prog 64 #[.pointer (some ⟨rb, off + k * 7, none⟩), .pointer (some ⟨g, 0, none⟩)] wr _) := Aside0.mk (HP.out.step HG.out (by decide) hlt HM1.out HF.out entx_c HOg1.out (fun e => (HSp.out.2.2 e.symm)) HCg1.out (by have := HRo.out; have := A1.out.room; omega))
        go_wp2_with (go_at_call 64; (with_reducible refine HCs.out.mono ?_); rintro e w2 ⟨rfl, H⟩; have HP2 := Aside0.mk H; clear H)
        go_roundw
        case rel => exact ⟨k + 1, by go_num, by omega, HP2⟩
        case measure => simp [intOf]; omega
      · have hkm : k = min N 8 := by omega
        have hend : LoopP F entryF (F.count s (n : Int) ((8 : Nat) : Int)).1 w1 rb Tr off rows (min N 8) (min N 8) wr := hkm ▸ HP.out
        have HEnd := Aside0.mk hend
        clear hend
        by_cases hlt2 : k < N
        · have i2 : (k : Int) < (N : Int) := by omega
          have i3 : ¬ (k : Int) < 8 := by omega
          go_wp2
          go_end0
          have hnr := HRn.out
          subst hnr
          exact ListDone.old (most := 8) HH.out HJ.out HO.out H0.out HSp.out.1 HSp.out.2.1 rfl (blk_lt Hbr.out) A1.out (by rw [HN.out]; exact z1) (by rw [e3.out]; exact HEnd.out)
        · have i2 : ¬ (k : Int) < (N : Int) := by omega
          go_wp2
          go_end0
          have hnr := HRn.out
          subst hnr
          exact ListDone.old (most := 8) HH.out HJ.out HO.out H0.out HSp.out.1 HSp.out.2.1 rfl (blk_lt Hbr.out) A1.out (by rw [HN.out]; exact z1) (by rw [e3.out]; exact HEnd.out)
  · have hlt : n < N := by omega
    have t1 : (decide ((n : Int) < (N : Int))) = true := by simp; omega
    have hNM : N ≤ 8 := by have := Hl1.out; omega
    have e2 := Aside0.mk (show F.listR entryF s 8 rows = List.replicate N (zeroRow entryF) by unfold Form.listR; rw [HRn.out, HN.out, if_pos hlt])
    have e3 := Aside0.mk (show F.listM s 8 n = N by unfold Form.listM; rw [HN.out]; omega)
    have HRo := Aside0.mk (show F.room s + (8 + rowsCost ((List.replicate N (zeroRow entryF)).take N)) ≤ cap by have := HR.out; rw [e2.out, e3.out] at this; exact this)
    have HMK := fun W => made_E W N (by omega)
    have HBl := Aside0.mk (blk_lt HH.out)
    go_enter Try.func63, Try.ntmps63
    go_wp2
    go_region_held3 (fun W => W.cell? ⟨b, j, none⟩ = some (.slice A n c)) (go_keep) (((with_reducible refine HC.out.mono ?_); rintro e w1 ⟨rfl, H⟩; have hbw1 := (H.undrew.wrote.far (blk_lt HH.out) HO.out (fun _ hp => nomatch hp)).trans HH.out; have cb1 := (World.cell?_of_block (w := w) (a := ⟨b, j, none⟩) (H.undrew.wrote.far (blk_lt HH.out) HO.out (fun _ hp => nomatch hp))).trans HCb.out; have A1 := Aside0.mk (show Stepped F s (F.count s (n : Int) ((8 : Nat) : Int)).1 [] 8 w w1 from H.undrew); clear H))
    have hb1 : b < w1.heap.size := Nat.lt_of_lt_of_le HBl.out A1.out.wrote.size
    have fb1 := blk_frozen hbw1 j
    have Hbw := Aside0.mk hbw1
    clear hbw1
    have HCg1 := Aside0.mk ((World.cell?_of_block (w := w) (a := ⟨g, 0, none⟩) (A1.out.wrote.far HHg.out HOg.out (fun _ hp => nomatch hp))).trans HCg.out)
    have HOg1 := Aside0.mk (fun h => HOg.out (A1.out.own g HHg.out h))
    have HOb1 := Aside0.mk (fun h => HO.out (A1.out.own b (blk_lt HH.out) h))
    go_wp2
    have HOM := Aside0.mk (HG.out.own_move (w' := ((w1.setCell ⟨b, j, none⟩ (.slice (some ⟨w1.heap.size, 0, none⟩) N N)).alloc (.cells (madeCells (zeroRow entryF).toArray (N * (entryF).length)) 66))) A1.out.inv (fun k hk => (Below.heap_alloc _ _ k (by rw [World.size_setCell]; exact HG.out.lt A1.out.inv hk)).trans (Below.heap_setCell _ _ _ _ (fun e => HOb1.out (by have e' : k = b := e; rw [← e']; exact hk)))))
    have HP0 := Aside0.mk (LoopP.start (F := F) (fs := entryF) (s1 := (F.count s (n : Int) ((8 : Nat) : Int)).1) (wL := (w1.setCell ⟨b, j, none⟩ (.slice (some ⟨w1.heap.size, 0, none⟩) N N)).alloc (.cells (madeCells (zeroRow entryF).toArray (N * (entryF).length)) 66)) (rb := w1.heap.size) (T := 66) (R := List.replicate N (zeroRow entryF)) (off := 0) N (HG.out.move A1.out.inv (fun k hk => (Below.heap_alloc _ _ k (by rw [World.size_setCell]; exact HG.out.lt A1.out.inv hk)).trans (Below.heap_setCell _ _ _ _ (fun e => HOb1.out (by have e' : k = b := e; rw [← e']; exact hk)))) (by rw [World.size_alloc, World.size_setCell]; omega)) (fun h => absurd (HG.out.lt A1.out.inv (HOM.out _ h)) (Nat.lt_irrefl _)) (by have := alloc_new (w1.setCell ⟨b, j, none⟩ (.slice (some ⟨w1.heap.size, 0, none⟩) N N)) (.cells (madeCells (zeroRow entryF).toArray (N * (entryF).length)) 66); rw [World.size_setCell] at this; exact this) (madeRows _ rfl N))
    have HCgL := Aside0.mk (show ((w1.setCell ⟨b, j, none⟩ (.slice (some ⟨w1.heap.size, 0, none⟩) N N)).alloc (.cells (madeCells (zeroRow entryF).toArray (N * (entryF).length)) 66)).cell? ⟨g, 0, none⟩ = some (.iface F.ty F.v) by
      rw [World.cell?_alloc_past _ _ _ (by rw [World.size_setCell]; exact Nat.lt_of_lt_of_le HHg.out A1.out.wrote.size), World.cell?_setCell_other _ _ _ _ (by simp; intro e; exact absurd e.symm HB.out)]
      exact HCg1.out)
    have HCbL := Aside0.mk (show ((w1.setCell ⟨b, j, none⟩ (.slice (some ⟨w1.heap.size, 0, none⟩) N N)).alloc (.cells (madeCells (zeroRow entryF).toArray (N * (entryF).length)) 66)).cell? ⟨b, j, none⟩ = some (.slice (some ⟨w1.heap.size, 0, none⟩) N N) by
      rw [World.cell?_alloc_past _ _ _ (by rw [World.size_setCell]; exact hb1)]
      exact World.cell?_setCell_same _ _ _ cb1)
    have Hne := Aside0.mk (show g ≠ w1.heap.size from fun e => by have := HHg.out; have := A1.out.wrote.size; omega)
    have Hnb := Aside0.mk (show b ≠ w1.heap.size from fun e => by omega)
    generalize hWL : (w1.setCell ⟨b, j, none⟩ (.slice (some ⟨w1.heap.size, 0, none⟩) N N)).alloc (.cells (madeCells (zeroRow entryF).toArray (N * (entryF).length)) 66) = wL at *
    have HWL := Aside0.mk hWL
    clear hWL HMK cb1 fb1 cb0
    generalize hrb : w1.heap.size = rb at *
    go_loopw [9] (fun i wr => ∃ k : Nat, i = .int .i64 k ∧ k ≤ N ∧ Aside0 (LoopP F entryF (F.count s (n : Int) ((8 : Nat) : Int)).1 wL rb 66 0 (List.replicate N (zeroRow entryF)) N k wr)) (fun i _ => N - (intOf i).toNat)
    case atStart => exact ⟨0, rfl, by omega, HP0⟩
    case round =>
      clear HP0
      obtain ⟨k, rfl, hk, HP⟩ := hrel
      have hcb : wr.cell? ⟨b, j, none⟩ = some (.slice (some ⟨rb, 0, none⟩) N N) := by
        obtain ⟨sk, D, l, cc, cs', _, _, _, hAt, _⟩ := HP.out
        exact hAt.cell HCbL.out (fun h => HOb1.out (HOM.out _ h)) Hnb.out
      by_cases hlt2 : k < N
      · have i0 : (0 : Int) ≤ (k : Int) := by omega
        have i2 : (k : Int) < (N : Int) := by omega
        have i3 : (k : Int) < 8 := by omega
        have HCs : Aside0 (Calls Try.prog 64 #[.pointer (some ⟨rb, k * 7, none⟩), .pointer (some ⟨g, 0, none⟩)] wr _) := Aside0.mk (by
          have := (HP.out.step HG.out (by decide) hlt2 (by simp) (fun r hr => by rw [(List.mem_replicate.1 hr).2]; exact fits_zero _) entx_c (fun h => HOg1.out (HOM.out _ h)) Hne.out HCgL.out (by have := HRo.out; have := A1.out.room; omega))
          rw [Nat.zero_add] at this
          exact this)
        go_wp2_with (go_at_call 64; (with_reducible refine HCs.out.mono ?_); rintro e w2 ⟨rfl, H⟩; have HP2 := Aside0.mk H; clear H)
        go_roundw
        case rel => exact ⟨k + 1, by go_num, by omega, HP2⟩
        case measure => simp [intOf]; omega
      · have hkm : k = N := by omega
        have hend : LoopP F entryF (F.count s (n : Int) ((8 : Nat) : Int)).1 wL rb 66 0 (List.replicate N (zeroRow entryF)) N N wr := by subst hkm; exact HP.out
        have HEnd := Aside0.mk hend
        clear hend
        have i2 : ¬ (k : Int) < (N : Int) := by omega
        go_wp2
        go_end0
        have hnr := HRn.out
        have hw := HWL.out
        subst hnr
        subst hrb
        refine ListDone.new_ (most := 8) (Z := (zeroRow entryF).toArray) (Tr := 66) HG.out HH.out HO.out A1.out HN.out hlt hNM ?_
        first | (rw [hw]; exact HEnd.out) | (subst hw; exact HEnd.out)
end Go.Proofs.Ytcbehfbfaonanaa.Wr
end

/- The walks of a message's fields, with a form of whatever make (printed by genrow.py). -/
section
namespace Go.Proofs.Ytcbehfbfaonanaa.Wr
open Go.RowKit Go.Proofs.YtcbehfbfaonanaaW.PrintWords Go.Proofs.YtcbehfbfaonanaaW.PrintLast Go.Proofs.YtcbehfbfaonanaaW.PrintMore Go.Proofs.Ytcbehfbfaonanaa.Pk
set_option linter.unusedVariables false
set_option linter.unusedSimpArgs false

def pairF : List Fld := [.text 64, .num 0 64, .num 0 512, .flag, .text 1024]
set_option maxRecDepth 100000 in
set_option maxHeartbeats 2000000 in
theorem pair_c : RowX 79 pairF := by
  intro F hF s w b i g cs T vs hI ho hg hgb cg0 hr hb hv hf
  obtain ⟨v0, vs, rfl⟩ : ∃ v0 r, vs = v0 :: r := by cases vs with | nil => exact hf.elim | cons a r => exact ⟨_, _, rfl⟩
  obtain ⟨⟨x0, rfl⟩, hf⟩ := hf
  obtain ⟨v1, vs, rfl⟩ : ∃ v0 r, vs = v0 :: r := by cases vs with | nil => exact hf.elim | cons a r => exact ⟨_, _, rfl⟩
  obtain ⟨⟨x1, rfl⟩, hf⟩ := hf
  obtain ⟨v2, vs, rfl⟩ : ∃ v0 r, vs = v0 :: r := by cases vs with | nil => exact hf.elim | cons a r => exact ⟨_, _, rfl⟩
  obtain ⟨⟨x2, rfl⟩, hf⟩ := hf
  obtain ⟨v3, vs, rfl⟩ : ∃ v0 r, vs = v0 :: r := by cases vs with | nil => exact hf.elim | cons a r => exact ⟨_, _, rfl⟩
  obtain ⟨⟨x3, rfl⟩, hf⟩ := hf
  obtain ⟨v4, vs, rfl⟩ : ∃ v0 r, vs = v0 :: r := by cases vs with | nil => exact hf.elim | cons a r => exact ⟨_, _, rfl⟩
  obtain ⟨⟨x4, rfl⟩, hf⟩ := hf
  obtain rfl : vs = [] := by cases vs with | nil => rfl | cons a r => exact hf.elim
  have c0 : cs[i]? = some (.string x0) := hv 0 _ rfl
  have c1 : cs[i + 1]? = some (.int .i64 x1) := hv 1 _ rfl
  have c2 : cs[i + 2]? = some (.int .i64 x2) := hv 2 _ rfl
  have c3 : cs[i + 3]? = some (.bool x3) := hv 3 _ rfl
  have c4 : cs[i + 4]? = some (.string x4) := hv 4 _ rfl
  have hmf : ∀ (fn : Fn) (first cap : Array Value) (w : World), (Instr.makeFunc fn first cap).run Try.prog w = .ok (.func fn first cap) w := fun _ _ _ _ => rfl
  have HA2 := hF.ahead 2 "meridian/wire.text" (by decide) rfl
  have HM2 := hF.method 2 "meridian/wire.text" (by decide) rfl
  have HE2 := hF.enter 2 (by decide)
  have A0 := Aside0.mk (At.start hI ho hb)
  have HR := Aside0.mk hr
  have HC0 := Aside0.mk c0
  have HC1 := Aside0.mk c1
  have HC2 := Aside0.mk c2
  have HC3 := Aside0.mk c3
  have HC4 := Aside0.mk c4
  have HG := Aside0.mk hF
  have HO := Aside0.mk hg
  have HB := Aside0.mk hgb
  have HW := Aside0.mk cg0
  clear hI ho hr hb hv hf hF c0 c1 c2 c3 c4 hg hgb
  go_enter Try.func79, Try.ntmps79
  have C0 := Aside0.mk (A0.out.text HG.out (j := i) (n := x0) (by (repeat (first | rw [Array.getElem?_setIfInBounds_ne (by omega)] | rw [into_far_row (by simp only [List.length_cons, List.length_nil]; omega)])); exact HC0.out) 64 (by have := HR.out; simp only [cost, costV] at this; (try simp only [cost, costV]); omega))
  go_wp2
  go_region_held3 (fun W => W.cell? ⟨g, 0, none⟩ = some (.iface F.ty F.v)) (go_keep) (((with_reducible refine C0.out.mono ?_); rintro e w1 ⟨rfl, H⟩; have cg1 := H.cell HW.out HO.out HB.out; have A1 := Aside0.mk H; clear H))
  have C1 := Aside0.mk (A1.out.row HG.out (i := i + 1) (vs := [.int .i64 x1, .int .i64 x2, .bool x3, .string x4]) value_c (seg_cons (by (repeat (first | rw [Array.getElem?_setIfInBounds_ne (by omega)] | rw [into_far_row (by simp only [List.length_cons, List.length_nil]; omega)])); exact HC1.out) (seg_cons (by (repeat (first | rw [Array.getElem?_setIfInBounds_ne (by omega)] | rw [into_far_row (by simp only [List.length_cons, List.length_nil]; omega)])); exact HC2.out) (seg_cons (by (repeat (first | rw [Array.getElem?_setIfInBounds_ne (by omega)] | rw [into_far_row (by simp only [List.length_cons, List.length_nil]; omega)])); exact HC3.out) (seg_cons (by (repeat (first | rw [Array.getElem?_setIfInBounds_ne (by omega)] | rw [into_far_row (by simp only [List.length_cons, List.length_nil]; omega)])); exact HC4.out) seg_nil)))) (by simp [fits, Fld.fits, valueF]) (by have := HR.out; simp only [cost, costV] at this; (try simp only [cost, costV]); omega))
  go_wp2
  go_region_held3 (fun W => W.cell? ⟨g, 0, none⟩ = some (.iface F.ty F.v)) (go_keep) (((with_reducible refine C1.out.mono ?_); rintro e w2 ⟨rfl, H⟩; have cg2 := H.cell HW.out HO.out HB.out; have A2 := Aside0.mk H; clear H))
  go_wp2
  go_end0
  exact A2.out.did rfl rfl (by first | rfl | (simp only [cost, costV]; done) | (simp only [cost, costV]; omega))
def seenF : List Fld := [.num 0 9007199254740992, .num 0 9007199254740992, .num 0 64, .num 0 512]
set_option maxRecDepth 100000 in
set_option maxHeartbeats 2000000 in
theorem seen_c : RowX 81 seenF := by
  intro F hF s w b i g cs T vs hI ho hg hgb cg0 hr hb hv hf
  obtain ⟨v0, vs, rfl⟩ : ∃ v0 r, vs = v0 :: r := by cases vs with | nil => exact hf.elim | cons a r => exact ⟨_, _, rfl⟩
  obtain ⟨⟨x0, rfl⟩, hf⟩ := hf
  obtain ⟨v1, vs, rfl⟩ : ∃ v0 r, vs = v0 :: r := by cases vs with | nil => exact hf.elim | cons a r => exact ⟨_, _, rfl⟩
  obtain ⟨⟨x1, rfl⟩, hf⟩ := hf
  obtain ⟨v2, vs, rfl⟩ : ∃ v0 r, vs = v0 :: r := by cases vs with | nil => exact hf.elim | cons a r => exact ⟨_, _, rfl⟩
  obtain ⟨⟨x2, rfl⟩, hf⟩ := hf
  obtain ⟨v3, vs, rfl⟩ : ∃ v0 r, vs = v0 :: r := by cases vs with | nil => exact hf.elim | cons a r => exact ⟨_, _, rfl⟩
  obtain ⟨⟨x3, rfl⟩, hf⟩ := hf
  obtain rfl : vs = [] := by cases vs with | nil => rfl | cons a r => exact hf.elim
  have c0 : cs[i]? = some (.int .i64 x0) := hv 0 _ rfl
  have c1 : cs[i + 1]? = some (.int .i64 x1) := hv 1 _ rfl
  have c2 : cs[i + 2]? = some (.int .i64 x2) := hv 2 _ rfl
  have c3 : cs[i + 3]? = some (.int .i64 x3) := hv 3 _ rfl
  have hmf : ∀ (fn : Fn) (first cap : Array Value) (w : World), (Instr.makeFunc fn first cap).run Try.prog w = .ok (.func fn first cap) w := fun _ _ _ _ => rfl
  have HA0 := hF.ahead 0 "meridian/wire.num" (by decide) rfl
  have HM0 := hF.method 0 "meridian/wire.num" (by decide) rfl
  have HE0 := hF.enter 0 (by decide)
  have A0 := Aside0.mk (At.start hI ho hb)
  have HR := Aside0.mk hr
  have HC0 := Aside0.mk c0
  have HC1 := Aside0.mk c1
  have HC2 := Aside0.mk c2
  have HC3 := Aside0.mk c3
  have HG := Aside0.mk hF
  have HO := Aside0.mk hg
  have HB := Aside0.mk hgb
  have HW := Aside0.mk cg0
  clear hI ho hr hb hv hf hF c0 c1 c2 c3 hg hgb
  go_enter Try.func81, Try.ntmps81
  have C0 := Aside0.mk (A0.out.num HG.out (j := i) (n := x0) (by (repeat (first | rw [Array.getElem?_setIfInBounds_ne (by omega)] | rw [into_far_row (by simp only [List.length_cons, List.length_nil]; omega)])); exact HC0.out) (by have := HR.out; simp only [cost, costV] at this; (try simp only [cost, costV]); omega) 0 9007199254740992)
  go_wp2
  go_region_held3 (fun W => W.cell? ⟨g, 0, none⟩ = some (.iface F.ty F.v)) (go_keep) (((with_reducible refine C0.out.mono ?_); rintro e w1 ⟨rfl, H⟩; have cg1 := H.cell HW.out HO.out HB.out; have A1 := Aside0.mk H; clear H))
  have C1 := Aside0.mk (A1.out.num HG.out (j := i + 1) (n := x1) (by (repeat (first | rw [Array.getElem?_setIfInBounds_ne (by omega)] | rw [into_far_row (by simp only [List.length_cons, List.length_nil]; omega)])); exact HC1.out) (by have := HR.out; simp only [cost, costV] at this; (try simp only [cost, costV]); omega) 0 9007199254740992)
  go_wp2
  go_region_held3 (fun W => W.cell? ⟨g, 0, none⟩ = some (.iface F.ty F.v)) (go_keep) (((with_reducible refine C1.out.mono ?_); rintro e w2 ⟨rfl, H⟩; have cg2 := H.cell HW.out HO.out HB.out; have A2 := Aside0.mk H; clear H))
  have C2 := Aside0.mk (A2.out.row HG.out (i := i + 2) (vs := [.int .i64 x2, .int .i64 x3]) pos_c (seg_cons (by (repeat (first | rw [Array.getElem?_setIfInBounds_ne (by omega)] | rw [into_far_row (by simp only [List.length_cons, List.length_nil]; omega)])); exact HC2.out) (seg_cons (by (repeat (first | rw [Array.getElem?_setIfInBounds_ne (by omega)] | rw [into_far_row (by simp only [List.length_cons, List.length_nil]; omega)])); exact HC3.out) seg_nil)) (by simp [fits, Fld.fits, posF]) (by have := HR.out; simp only [cost, costV] at this; (try simp only [cost, costV]); omega))
  go_wp2
  go_region_held3 (fun W => W.cell? ⟨g, 0, none⟩ = some (.iface F.ty F.v)) (go_keep) (((with_reducible refine C2.out.mono ?_); rintro e w3 ⟨rfl, H⟩; have cg3 := H.cell HW.out HO.out HB.out; have A3 := Aside0.mk H; clear H))
  go_wp2
  go_end0
  exact A3.out.did rfl rfl (by first | rfl | (simp only [cost, costV]; done) | (simp only [cost, costV]; omega))
def epochF : List Fld := [.num 0 4, .num 0 512, .flag]
set_option maxRecDepth 100000 in
set_option maxHeartbeats 2000000 in
theorem epoch_c : RowX 69 epochF := by
  intro F hF s w b i g cs T vs hI ho hg hgb cg0 hr hb hv hf
  obtain ⟨v0, vs, rfl⟩ : ∃ v0 r, vs = v0 :: r := by cases vs with | nil => exact hf.elim | cons a r => exact ⟨_, _, rfl⟩
  obtain ⟨⟨x0, rfl⟩, hf⟩ := hf
  obtain ⟨v1, vs, rfl⟩ : ∃ v0 r, vs = v0 :: r := by cases vs with | nil => exact hf.elim | cons a r => exact ⟨_, _, rfl⟩
  obtain ⟨⟨x1, rfl⟩, hf⟩ := hf
  obtain ⟨v2, vs, rfl⟩ : ∃ v0 r, vs = v0 :: r := by cases vs with | nil => exact hf.elim | cons a r => exact ⟨_, _, rfl⟩
  obtain ⟨⟨x2, rfl⟩, hf⟩ := hf
  obtain rfl : vs = [] := by cases vs with | nil => rfl | cons a r => exact hf.elim
  have c0 : cs[i]? = some (.int .i64 x0) := hv 0 _ rfl
  have c1 : cs[i + 1]? = some (.int .i64 x1) := hv 1 _ rfl
  have c2 : cs[i + 2]? = some (.bool x2) := hv 2 _ rfl
  have hmf : ∀ (fn : Fn) (first cap : Array Value) (w : World), (Instr.makeFunc fn first cap).run Try.prog w = .ok (.func fn first cap) w := fun _ _ _ _ => rfl
  have HA1 := hF.ahead 1 "meridian/wire.flag" (by decide) rfl
  have HM1 := hF.method 1 "meridian/wire.flag" (by decide) rfl
  have HE1 := hF.enter 1 (by decide)
  have HA0 := hF.ahead 0 "meridian/wire.num" (by decide) rfl
  have HM0 := hF.method 0 "meridian/wire.num" (by decide) rfl
  have HE0 := hF.enter 0 (by decide)
  have A0 := Aside0.mk (At.start hI ho hb)
  have HR := Aside0.mk hr
  have HC0 := Aside0.mk c0
  have HC1 := Aside0.mk c1
  have HC2 := Aside0.mk c2
  have HG := Aside0.mk hF
  have HO := Aside0.mk hg
  have HB := Aside0.mk hgb
  have HW := Aside0.mk cg0
  clear hI ho hr hb hv hf hF c0 c1 c2 hg hgb
  go_enter Try.func69, Try.ntmps69
  have C0 := Aside0.mk (A0.out.num HG.out (j := i) (n := x0) (by (repeat (first | rw [Array.getElem?_setIfInBounds_ne (by omega)] | rw [into_far_row (by simp only [List.length_cons, List.length_nil]; omega)])); exact HC0.out) (by have := HR.out; simp only [cost, costV] at this; (try simp only [cost, costV]); omega) 0 4)
  go_wp2
  go_region_held3 (fun W => W.cell? ⟨g, 0, none⟩ = some (.iface F.ty F.v)) (go_keep) (((with_reducible refine C0.out.mono ?_); rintro e w1 ⟨rfl, H⟩; have cg1 := H.cell HW.out HO.out HB.out; have A1 := Aside0.mk H; clear H))
  have C1 := Aside0.mk (A1.out.num HG.out (j := i + 1) (n := x1) (by (repeat (first | rw [Array.getElem?_setIfInBounds_ne (by omega)] | rw [into_far_row (by simp only [List.length_cons, List.length_nil]; omega)])); exact HC1.out) (by have := HR.out; simp only [cost, costV] at this; (try simp only [cost, costV]); omega) 0 512)
  go_wp2
  go_region_held3 (fun W => W.cell? ⟨g, 0, none⟩ = some (.iface F.ty F.v)) (go_keep) (((with_reducible refine C1.out.mono ?_); rintro e w2 ⟨rfl, H⟩; have cg2 := H.cell HW.out HO.out HB.out; have A2 := Aside0.mk H; clear H))
  have C2 := Aside0.mk (A2.out.flag HG.out (j := i + 2) (n := x2) (by (repeat (first | rw [Array.getElem?_setIfInBounds_ne (by omega)] | rw [into_far_row (by simp only [List.length_cons, List.length_nil]; omega)])); exact HC2.out) (by have := HR.out; simp only [cost, costV] at this; (try simp only [cost, costV]); omega))
  go_wp2
  go_region_held3 (fun W => W.cell? ⟨g, 0, none⟩ = some (.iface F.ty F.v)) (go_keep) (((with_reducible refine C2.out.mono ?_); rintro e w3 ⟨rfl, H⟩; have cg3 := H.cell HW.out HO.out HB.out; have A3 := Aside0.mk H; clear H))
  go_wp2
  go_end0
  exact A3.out.did rfl rfl (by first | rfl | (simp only [cost, costV]; done) | (simp only [cost, costV]; omega))
end Go.Proofs.Ytcbehfbfaonanaa.Wr
end

/- A list of rows handed to a form: the walk of list at one kind of row (printed by genlist.py). -/
section
namespace Go.Proofs.Ytcbehfbfaonanaa.Wr
open Go.RowKit Go.Proofs.YtcbehfbfaonanaaW.PrintWords Go.Proofs.YtcbehfbfaonanaaW.PrintLast Go.Proofs.YtcbehfbfaonanaaW.PrintMore Go.Proofs.Ytcbehfbfaonanaa.Pk
set_option linter.unusedVariables false
set_option linter.unusedSimpArgs false

theorem zero_P : (Try.prog.info? 68).map (fun i => (i.zero, i.size, i.bytes)) = some (some (.agg (zeroRow pairF).toArray), (pairF).length, 56) := by kernel_rfl
theorem made_P (W : World) (N : Nat) (h : N ≤ 64) : (Instr.makeSlice 25 (.int .i64 (N : Int)) (.int .i64 (N : Int))).run Try.prog W = .ok (.slice (some ⟨W.heap.size, 0, none⟩) N N) (W.alloc (.cells (madeCells (zeroRow pairF).toArray (N * (pairF).length)) 68)) := by
  obtain ⟨i, hi, hz⟩ := Option.map_eq_some_iff.1 zero_P
  simp only [Prod.mk.injEq] at hz
  obtain ⟨h1, h2, h3⟩ := hz
  have := run_make (P := Try.prog) W 25 68 i _ Try.underlying25 hi h1 .i64 .i64 (N : Int) (N : Int) (by omega) (Int.le_refl _) (by rw [h3]; omega) (by omega)
  rw [h2, Int.toNat_natCast] at this
  exact this

set_option maxRecDepth 100000 in
set_option maxHeartbeats 4000000 in
theorem listP_c (F : Form) (hF : F.Good) (s : F.σ) (w : World) (b j g : Nat) (cs : Array Value) (T : TypeId) (A : Option Addr) (c : Nat) (rows : List (List Value)) (hI : F.Inv s w) (ho : ¬ F.own w.heap b) (hg : ¬ F.own w.heap g) (hgb : g ≠ b) (cg : w.cell? ⟨g, 0, none⟩ = some (.iface F.ty F.v))
    (hr : F.room s + (8 + rowsCost ((F.listR pairF s 8 rows).take (F.listM s 8 rows.length))) ≤ cap) (hb : w.heap[b]? = some (.cells cs T (0, 0))) (hc : cs[j]? = some (.slice A rows.length c)) (hL : ListAt w (.slice A rows.length c) (pairF).length rows)
    (hsep : ∀ k, arr (.slice A rows.length c) = some k → rows ≠ [] → k ≠ b ∧ ¬ F.own w.heap k ∧ k ≠ g) (hfit : ∀ r, r ∈ rows → fits pairF r) (hnl : rows.length ≤ 9223372036854775807) :
    Calls Try.prog 78 #[.iface F.ty F.v, .pointer (some ⟨b, j, none⟩), .int .i64 8, .func (.func 79) #[] #[.pointer (some ⟨g, 0, none⟩)]] w
      (ListDone F s w b j cs T (pairF).length (.slice A rows.length c) rows (F.list pairF s 8 rows).1 (F.list pairF s 8 rows).2 (8 + rowsCost ((F.listR pairF s 8 rows).take (F.listM s 8 rows.length)))) := by
  have hmf : ∀ (fn : Fn) (first cap : Array Value) (w : World), (Instr.makeFunc fn first cap).run Try.prog w = .ok (.func fn first cap) w := fun _ _ _ _ => rfl
  have HA := hF.ahead 3 "meridian/wire.count" (by decide) rfl
  have HM := hF.method 3 "meridian/wire.count" (by decide) rfl
  have HE := hF.enter 3 (by decide)
  obtain ⟨l0, l1⟩ := hF.count_lim s (rows.length : Int) 8 (by omega) (by omega)
  obtain ⟨N, hN⟩ := Int.eq_ofNat_of_zero_le l0
  have HCt := hF.count_c s w.drew (rows.length : Int) 8 (hF.move hI (fun _ _ => rfl) (Nat.le_refl _)) (by omega) (by omega) (by omega)
  rw [hN] at HCt
  have HC := Aside0.mk HCt
  have HL := Aside0.mk hL
  have HS := Aside0.mk hsep
  have HF := Aside0.mk hfit
  have HR := Aside0.mk hr
  have HG := Aside0.mk hF
  have HO := Aside0.mk ho
  have HOg := Aside0.mk hg
  have HB := Aside0.mk hgb
  have HCg := Aside0.mk cg
  have HH := Aside0.mk hb
  have HJ := Aside0.mk hc
  have HN := Aside0.mk (show (F.count s (rows.length : Int) ((8 : Nat) : Int)).2.toNat = N by rw [show (F.count s (rows.length : Int) ((8 : Nat) : Int)).2 = _ from hN]; rfl)
  have HNI := Aside0.mk (show (F.count s (rows.length : Int) ((8 : Nat) : Int)).2 = (N : Int) from hN)
  have cb0 : w.cell? ⟨b, j, none⟩ = some (.slice A rows.length c) := (blk_cell hb j).trans hc
  have HCb := Aside0.mk cb0
  have Hl1 := Aside0.mk (show N = rows.length ∨ N ≤ 8 by rw [hN] at l1; omega)
  have HHg := Aside0.mk (World.block_lt_of_cell? w ⟨g, 0, none⟩ cg)
  clear l0 l1 HCt hL hsep hfit hr hF ho hg hgb hb hc hI hN cg
  generalize hn : rows.length = n at *
  have HRn := Aside0.mk hn
  clear hn
  by_cases z0 : N = 0
  · subst z0
    have t1 : (decide ((n : Int) < 0)) = false := by simp
    go_enter Try.func78, Try.ntmps78
    go_wp2
    go_region_held3 (fun W => W.cell? ⟨b, j, none⟩ = some (.slice A n c)) (go_keep) (((with_reducible refine HC.out.mono ?_); rintro e w1 ⟨rfl, H⟩; have cb1 := (World.cell?_of_block (w := w) (a := ⟨b, j, none⟩) (H.undrew.wrote.far (blk_lt HH.out) HO.out (fun _ hp => nomatch hp))).trans HCb.out; have A1 := Aside0.mk (show Stepped F s (F.count s (n : Int) ((8 : Nat) : Int)).1 [] 8 w w1 from H.undrew); clear H))
    go_wp2
    go_loopw [9] (fun i wr => i = .int .i64 0 ∧ wr = w1) (fun i _ => 0)
    case atStart => exact ⟨rfl, rfl⟩
    case round =>
      obtain ⟨rfl, rfl⟩ := hrel
      go_wp2
      go_end0
      have hnr := HRn.out
      subst hnr
      exact ListDone.none_ (most := 8) HH.out HJ.out HO.out HL.out (fun k h1 h2 => ⟨(HS.out k h1 h2).1, (HS.out k h1 h2).2.1⟩) A1.out HNI.out
  by_cases z1 : N ≤ n
  · have h0 : rows ≠ [] := fun e => by have := HRn.out; rw [e] at this; simp at this; omega
    obtain ⟨a', c', e, hL2, _⟩ := HL.out
    obtain ⟨rb, off, csr, Tr, rfl, hbr, hRI⟩ := hL2 h0
    injection e with e1 e2 e3
    subst e1
    have HSp := Aside0.mk (HS.out rb rfl h0)
    have Hbr := Aside0.mk hbr
    have Hcs := Aside0.mk hRI
    have H0 := Aside0.mk h0
    clear hL2 h0 e2 e3 hRI hbr
    have t1 : (decide (n < N)) = false := by simp; omega
    have e2 := Aside0.mk (show F.listR pairF s 8 rows = rows by unfold Form.listR; rw [HRn.out, HN.out, if_neg (by omega)])
    have e3 := Aside0.mk (show F.listM s 8 n = min N 8 by unfold Form.listM; rw [HN.out])
    have hm : min N 8 ≤ rows.length := by rw [HRn.out]; omega
    have HM1 := Aside0.mk hm
    clear hm
    have HRo := Aside0.mk (show F.room s + (8 + rowsCost (rows.take (min N 8))) ≤ cap by have := HR.out; rw [e2.out, e3.out] at this; exact this)
    go_enter Try.func78, Try.ntmps78
    go_wp2
    go_region_held3 (fun W => W.cell? ⟨b, j, none⟩ = some (.slice (some ⟨rb, off, none⟩) n c)) (go_keep) (((with_reducible refine HC.out.mono ?_); rintro e w1 ⟨rfl, H⟩; have cb1 := (World.cell?_of_block (w := w) (a := ⟨b, j, none⟩) (H.undrew.wrote.far (blk_lt HH.out) HO.out (fun _ hp => nomatch hp))).trans HCb.out; have A1 := Aside0.mk (show Stepped F s (F.count s (n : Int) ((8 : Nat) : Int)).1 [] 8 w w1 from H.undrew); clear H))
    have HP0 := Aside0.mk (LoopP.start (fs := pairF) (R := rows) (off := off) (min N 8) A1.out.inv (fun h => HSp.out.2.1 (A1.out.own rb (blk_lt Hbr.out) h)) ((A1.out.wrote.far (blk_lt Hbr.out) HSp.out.2.1 (fun _ hp => nomatch hp)).trans Hbr.out) Hcs.out)
    have HCg1 := Aside0.mk ((World.cell?_of_block (w := w) (a := ⟨g, 0, none⟩) (A1.out.wrote.far HHg.out HOg.out (fun _ hp => nomatch hp))).trans HCg.out)
    have HCb1 := Aside0.mk cb1
    have HOg1 := Aside0.mk (fun h => HOg.out (A1.out.own g HHg.out h))
    have HOb1 := Aside0.mk (fun h => HO.out (A1.out.own b (blk_lt HH.out) h))
    go_wp2
    go_loopw [9] (fun i wr => ∃ k : Nat, i = .int .i64 k ∧ k ≤ min N 8 ∧ Aside0 (LoopP F pairF (F.count s (n : Int) ((8 : Nat) : Int)).1 w1 rb Tr off rows (min N 8) k wr)) (fun i _ => N - (intOf i).toNat)
    case atStart => exact ⟨0, rfl, by omega, HP0⟩
    case round =>
      clear HP0
      obtain ⟨k, rfl, hk, HP⟩ := hrel
      have hcb : wr.cell? ⟨b, j, none⟩ = some (.slice (some ⟨rb, off, none⟩) n c) := by
        obtain ⟨sk, D, l, cc, cs', _, _, _, hAt, _⟩ := HP.out
        exact hAt.cell HCb1.out HOb1.out (Ne.symm HSp.out.1)
      by_cases hlt : k < min N 8
      · have i0 : (0 : Int) ≤ (k : Int) := by omega
        have i1 : (k : Int) < (n : Int) := by omega
        have i2 : (k : Int) < (N : Int) := by omega
        have i3 : (k : Int) < 8 := by omega
        have HCs : Aside0 (Calls Try.prog 79 #[.pointer (some ⟨rb, off + k * 5, none⟩), .pointer (some ⟨g, 0, none⟩)] wr _) := Aside0.mk (HP.out.step HG.out (by decide) hlt HM1.out HF.out pair_c HOg1.out (fun e => (HSp.out.2.2 e.symm)) HCg1.out (by have := HRo.out; have := A1.out.room; omega))
        go_wp2_with (go_at_call 79; (with_reducible refine HCs.out.mono ?_); rintro e w2 ⟨rfl, H⟩; have HP2 := Aside0.mk H; clear H)
        go_roundw
        case rel => exact ⟨k + 1, by go_num, by omega, HP2⟩
        case measure => simp [intOf]; omega
      · have hkm : k = min N 8 := by omega
        have hend : LoopP F pairF (F.count s (n : Int) ((8 : Nat) : Int)).1 w1 rb Tr off rows (min N 8) (min N 8) wr := hkm ▸ HP.out
        have HEnd := Aside0.mk hend
        clear hend
        by_cases hlt2 : k < N
        · have i2 : (k : Int) < (N : Int) := by omega
          have i3 : ¬ (k : Int) < 8 := by omega
          go_wp2
          go_end0
          have hnr := HRn.out
          subst hnr
          exact ListDone.old (most := 8) HH.out HJ.out HO.out H0.out HSp.out.1 HSp.out.2.1 rfl (blk_lt Hbr.out) A1.out (by rw [HN.out]; exact z1) (by rw [e3.out]; exact HEnd.out)
        · have i2 : ¬ (k : Int) < (N : Int) := by omega
          go_wp2
          go_end0
          have hnr := HRn.out
          subst hnr
          exact ListDone.old (most := 8) HH.out HJ.out HO.out H0.out HSp.out.1 HSp.out.2.1 rfl (blk_lt Hbr.out) A1.out (by rw [HN.out]; exact z1) (by rw [e3.out]; exact HEnd.out)
  · have hlt : n < N := by omega
    have t1 : (decide ((n : Int) < (N : Int))) = true := by simp; omega
    have hNM : N ≤ 8 := by have := Hl1.out; omega
    have e2 := Aside0.mk (show F.listR pairF s 8 rows = List.replicate N (zeroRow pairF) by unfold Form.listR; rw [HRn.out, HN.out, if_pos hlt])
    have e3 := Aside0.mk (show F.listM s 8 n = N by unfold Form.listM; rw [HN.out]; omega)
    have HRo := Aside0.mk (show F.room s + (8 + rowsCost ((List.replicate N (zeroRow pairF)).take N)) ≤ cap by have := HR.out; rw [e2.out, e3.out] at this; exact this)
    have HMK := fun W => made_P W N (by omega)
    have HBl := Aside0.mk (blk_lt HH.out)
    go_enter Try.func78, Try.ntmps78
    go_wp2
    go_region_held3 (fun W => W.cell? ⟨b, j, none⟩ = some (.slice A n c)) (go_keep) (((with_reducible refine HC.out.mono ?_); rintro e w1 ⟨rfl, H⟩; have hbw1 := (H.undrew.wrote.far (blk_lt HH.out) HO.out (fun _ hp => nomatch hp)).trans HH.out; have cb1 := (World.cell?_of_block (w := w) (a := ⟨b, j, none⟩) (H.undrew.wrote.far (blk_lt HH.out) HO.out (fun _ hp => nomatch hp))).trans HCb.out; have A1 := Aside0.mk (show Stepped F s (F.count s (n : Int) ((8 : Nat) : Int)).1 [] 8 w w1 from H.undrew); clear H))
    have hb1 : b < w1.heap.size := Nat.lt_of_lt_of_le HBl.out A1.out.wrote.size
    have fb1 := blk_frozen hbw1 j
    have Hbw := Aside0.mk hbw1
    clear hbw1
    have HCg1 := Aside0.mk ((World.cell?_of_block (w := w) (a := ⟨g, 0, none⟩) (A1.out.wrote.far HHg.out HOg.out (fun _ hp => nomatch hp))).trans HCg.out)
    have HOg1 := Aside0.mk (fun h => HOg.out (A1.out.own g HHg.out h))
    have HOb1 := Aside0.mk (fun h => HO.out (A1.out.own b (blk_lt HH.out) h))
    go_wp2
    have HOM := Aside0.mk (HG.out.own_move (w' := ((w1.setCell ⟨b, j, none⟩ (.slice (some ⟨w1.heap.size, 0, none⟩) N N)).alloc (.cells (madeCells (zeroRow pairF).toArray (N * (pairF).length)) 68))) A1.out.inv (fun k hk => (Below.heap_alloc _ _ k (by rw [World.size_setCell]; exact HG.out.lt A1.out.inv hk)).trans (Below.heap_setCell _ _ _ _ (fun e => HOb1.out (by have e' : k = b := e; rw [← e']; exact hk)))))
    have HP0 := Aside0.mk (LoopP.start (F := F) (fs := pairF) (s1 := (F.count s (n : Int) ((8 : Nat) : Int)).1) (wL := (w1.setCell ⟨b, j, none⟩ (.slice (some ⟨w1.heap.size, 0, none⟩) N N)).alloc (.cells (madeCells (zeroRow pairF).toArray (N * (pairF).length)) 68)) (rb := w1.heap.size) (T := 68) (R := List.replicate N (zeroRow pairF)) (off := 0) N (HG.out.move A1.out.inv (fun k hk => (Below.heap_alloc _ _ k (by rw [World.size_setCell]; exact HG.out.lt A1.out.inv hk)).trans (Below.heap_setCell _ _ _ _ (fun e => HOb1.out (by have e' : k = b := e; rw [← e']; exact hk)))) (by rw [World.size_alloc, World.size_setCell]; omega)) (fun h => absurd (HG.out.lt A1.out.inv (HOM.out _ h)) (Nat.lt_irrefl _)) (by have := alloc_new (w1.setCell ⟨b, j, none⟩ (.slice (some ⟨w1.heap.size, 0, none⟩) N N)) (.cells (madeCells (zeroRow pairF).toArray (N * (pairF).length)) 68); rw [World.size_setCell] at this; exact this) (madeRows _ rfl N))
    have HCgL := Aside0.mk (show ((w1.setCell ⟨b, j, none⟩ (.slice (some ⟨w1.heap.size, 0, none⟩) N N)).alloc (.cells (madeCells (zeroRow pairF).toArray (N * (pairF).length)) 68)).cell? ⟨g, 0, none⟩ = some (.iface F.ty F.v) by
      rw [World.cell?_alloc_past _ _ _ (by rw [World.size_setCell]; exact Nat.lt_of_lt_of_le HHg.out A1.out.wrote.size), World.cell?_setCell_other _ _ _ _ (by simp; intro e; exact absurd e.symm HB.out)]
      exact HCg1.out)
    have HCbL := Aside0.mk (show ((w1.setCell ⟨b, j, none⟩ (.slice (some ⟨w1.heap.size, 0, none⟩) N N)).alloc (.cells (madeCells (zeroRow pairF).toArray (N * (pairF).length)) 68)).cell? ⟨b, j, none⟩ = some (.slice (some ⟨w1.heap.size, 0, none⟩) N N) by
      rw [World.cell?_alloc_past _ _ _ (by rw [World.size_setCell]; exact hb1)]
      exact World.cell?_setCell_same _ _ _ cb1)
    have Hne := Aside0.mk (show g ≠ w1.heap.size from fun e => by have := HHg.out; have := A1.out.wrote.size; omega)
    have Hnb := Aside0.mk (show b ≠ w1.heap.size from fun e => by omega)
    generalize hWL : (w1.setCell ⟨b, j, none⟩ (.slice (some ⟨w1.heap.size, 0, none⟩) N N)).alloc (.cells (madeCells (zeroRow pairF).toArray (N * (pairF).length)) 68) = wL at *
    have HWL := Aside0.mk hWL
    clear hWL HMK cb1 fb1 cb0
    generalize hrb : w1.heap.size = rb at *
    go_loopw [9] (fun i wr => ∃ k : Nat, i = .int .i64 k ∧ k ≤ N ∧ Aside0 (LoopP F pairF (F.count s (n : Int) ((8 : Nat) : Int)).1 wL rb 68 0 (List.replicate N (zeroRow pairF)) N k wr)) (fun i _ => N - (intOf i).toNat)
    case atStart => exact ⟨0, rfl, by omega, HP0⟩
    case round =>
      clear HP0
      obtain ⟨k, rfl, hk, HP⟩ := hrel
      have hcb : wr.cell? ⟨b, j, none⟩ = some (.slice (some ⟨rb, 0, none⟩) N N) := by
        obtain ⟨sk, D, l, cc, cs', _, _, _, hAt, _⟩ := HP.out
        exact hAt.cell HCbL.out (fun h => HOb1.out (HOM.out _ h)) Hnb.out
      by_cases hlt2 : k < N
      · have i0 : (0 : Int) ≤ (k : Int) := by omega
        have i2 : (k : Int) < (N : Int) := by omega
        have i3 : (k : Int) < 8 := by omega
        have HCs : Aside0 (Calls Try.prog 79 #[.pointer (some ⟨rb, k * 5, none⟩), .pointer (some ⟨g, 0, none⟩)] wr _) := Aside0.mk (by
          have := (HP.out.step HG.out (by decide) hlt2 (by simp) (fun r hr => by rw [(List.mem_replicate.1 hr).2]; exact fits_zero _) pair_c (fun h => HOg1.out (HOM.out _ h)) Hne.out HCgL.out (by have := HRo.out; have := A1.out.room; omega))
          rw [Nat.zero_add] at this
          exact this)
        go_wp2_with (go_at_call 79; (with_reducible refine HCs.out.mono ?_); rintro e w2 ⟨rfl, H⟩; have HP2 := Aside0.mk H; clear H)
        go_roundw
        case rel => exact ⟨k + 1, by go_num, by omega, HP2⟩
        case measure => simp [intOf]; omega
      · have hkm : k = N := by omega
        have hend : LoopP F pairF (F.count s (n : Int) ((8 : Nat) : Int)).1 wL rb 68 0 (List.replicate N (zeroRow pairF)) N N wr := by subst hkm; exact HP.out
        have HEnd := Aside0.mk hend
        clear hend
        have i2 : ¬ (k : Int) < (N : Int) := by omega
        go_wp2
        go_end0
        have hnr := HRn.out
        have hw := HWL.out
        subst hnr
        subst hrb
        refine ListDone.new_ (most := 8) (Z := (zeroRow pairF).toArray) (Tr := 68) HG.out HH.out HO.out A1.out HN.out hlt hNM ?_
        first | (rw [hw]; exact HEnd.out) | (subst hw; exact HEnd.out)
end Go.Proofs.Ytcbehfbfaonanaa.Wr
end

/- A list of rows handed to a form: the walk of list at one kind of row (printed by genlist.py). -/
section
namespace Go.Proofs.Ytcbehfbfaonanaa.Wr
open Go.RowKit Go.Proofs.YtcbehfbfaonanaaW.PrintWords Go.Proofs.YtcbehfbfaonanaaW.PrintLast Go.Proofs.YtcbehfbfaonanaaW.PrintMore Go.Proofs.Ytcbehfbfaonanaa.Pk
set_option linter.unusedVariables false
set_option linter.unusedSimpArgs false

theorem zero_S : (Try.prog.info? 70).map (fun i => (i.zero, i.size, i.bytes)) = some (some (.agg (zeroRow seenF).toArray), (seenF).length, 32) := by kernel_rfl
theorem made_S (W : World) (N : Nat) (h : N ≤ 64) : (Instr.makeSlice 26 (.int .i64 (N : Int)) (.int .i64 (N : Int))).run Try.prog W = .ok (.slice (some ⟨W.heap.size, 0, none⟩) N N) (W.alloc (.cells (madeCells (zeroRow seenF).toArray (N * (seenF).length)) 70)) := by
  obtain ⟨i, hi, hz⟩ := Option.map_eq_some_iff.1 zero_S
  simp only [Prod.mk.injEq] at hz
  obtain ⟨h1, h2, h3⟩ := hz
  have := run_make (P := Try.prog) W 26 70 i _ Try.underlying26 hi h1 .i64 .i64 (N : Int) (N : Int) (by omega) (Int.le_refl _) (by rw [h3]; omega) (by omega)
  rw [h2, Int.toNat_natCast] at this
  exact this

set_option maxRecDepth 100000 in
set_option maxHeartbeats 4000000 in
theorem listS_c (F : Form) (hF : F.Good) (s : F.σ) (w : World) (b j g : Nat) (cs : Array Value) (T : TypeId) (A : Option Addr) (c : Nat) (rows : List (List Value)) (hI : F.Inv s w) (ho : ¬ F.own w.heap b) (hg : ¬ F.own w.heap g) (hgb : g ≠ b) (cg : w.cell? ⟨g, 0, none⟩ = some (.iface F.ty F.v))
    (hr : F.room s + (8 + rowsCost ((F.listR seenF s 8 rows).take (F.listM s 8 rows.length))) ≤ cap) (hb : w.heap[b]? = some (.cells cs T (0, 0))) (hc : cs[j]? = some (.slice A rows.length c)) (hL : ListAt w (.slice A rows.length c) (seenF).length rows)
    (hsep : ∀ k, arr (.slice A rows.length c) = some k → rows ≠ [] → k ≠ b ∧ ¬ F.own w.heap k ∧ k ≠ g) (hfit : ∀ r, r ∈ rows → fits seenF r) (hnl : rows.length ≤ 9223372036854775807) :
    Calls Try.prog 80 #[.iface F.ty F.v, .pointer (some ⟨b, j, none⟩), .int .i64 8, .func (.func 81) #[] #[.pointer (some ⟨g, 0, none⟩)]] w
      (ListDone F s w b j cs T (seenF).length (.slice A rows.length c) rows (F.list seenF s 8 rows).1 (F.list seenF s 8 rows).2 (8 + rowsCost ((F.listR seenF s 8 rows).take (F.listM s 8 rows.length)))) := by
  have hmf : ∀ (fn : Fn) (first cap : Array Value) (w : World), (Instr.makeFunc fn first cap).run Try.prog w = .ok (.func fn first cap) w := fun _ _ _ _ => rfl
  have HA := hF.ahead 3 "meridian/wire.count" (by decide) rfl
  have HM := hF.method 3 "meridian/wire.count" (by decide) rfl
  have HE := hF.enter 3 (by decide)
  obtain ⟨l0, l1⟩ := hF.count_lim s (rows.length : Int) 8 (by omega) (by omega)
  obtain ⟨N, hN⟩ := Int.eq_ofNat_of_zero_le l0
  have HCt := hF.count_c s w.drew (rows.length : Int) 8 (hF.move hI (fun _ _ => rfl) (Nat.le_refl _)) (by omega) (by omega) (by omega)
  rw [hN] at HCt
  have HC := Aside0.mk HCt
  have HL := Aside0.mk hL
  have HS := Aside0.mk hsep
  have HF := Aside0.mk hfit
  have HR := Aside0.mk hr
  have HG := Aside0.mk hF
  have HO := Aside0.mk ho
  have HOg := Aside0.mk hg
  have HB := Aside0.mk hgb
  have HCg := Aside0.mk cg
  have HH := Aside0.mk hb
  have HJ := Aside0.mk hc
  have HN := Aside0.mk (show (F.count s (rows.length : Int) ((8 : Nat) : Int)).2.toNat = N by rw [show (F.count s (rows.length : Int) ((8 : Nat) : Int)).2 = _ from hN]; rfl)
  have HNI := Aside0.mk (show (F.count s (rows.length : Int) ((8 : Nat) : Int)).2 = (N : Int) from hN)
  have cb0 : w.cell? ⟨b, j, none⟩ = some (.slice A rows.length c) := (blk_cell hb j).trans hc
  have HCb := Aside0.mk cb0
  have Hl1 := Aside0.mk (show N = rows.length ∨ N ≤ 8 by rw [hN] at l1; omega)
  have HHg := Aside0.mk (World.block_lt_of_cell? w ⟨g, 0, none⟩ cg)
  clear l0 l1 HCt hL hsep hfit hr hF ho hg hgb hb hc hI hN cg
  generalize hn : rows.length = n at *
  have HRn := Aside0.mk hn
  clear hn
  by_cases z0 : N = 0
  · subst z0
    have t1 : (decide ((n : Int) < 0)) = false := by simp
    go_enter Try.func80, Try.ntmps80
    go_wp2
    go_region_held3 (fun W => W.cell? ⟨b, j, none⟩ = some (.slice A n c)) (go_keep) (((with_reducible refine HC.out.mono ?_); rintro e w1 ⟨rfl, H⟩; have cb1 := (World.cell?_of_block (w := w) (a := ⟨b, j, none⟩) (H.undrew.wrote.far (blk_lt HH.out) HO.out (fun _ hp => nomatch hp))).trans HCb.out; have A1 := Aside0.mk (show Stepped F s (F.count s (n : Int) ((8 : Nat) : Int)).1 [] 8 w w1 from H.undrew); clear H))
    go_wp2
    go_loopw [9] (fun i wr => i = .int .i64 0 ∧ wr = w1) (fun i _ => 0)
    case atStart => exact ⟨rfl, rfl⟩
    case round =>
      obtain ⟨rfl, rfl⟩ := hrel
      go_wp2
      go_end0
      have hnr := HRn.out
      subst hnr
      exact ListDone.none_ (most := 8) HH.out HJ.out HO.out HL.out (fun k h1 h2 => ⟨(HS.out k h1 h2).1, (HS.out k h1 h2).2.1⟩) A1.out HNI.out
  by_cases z1 : N ≤ n
  · have h0 : rows ≠ [] := fun e => by have := HRn.out; rw [e] at this; simp at this; omega
    obtain ⟨a', c', e, hL2, _⟩ := HL.out
    obtain ⟨rb, off, csr, Tr, rfl, hbr, hRI⟩ := hL2 h0
    injection e with e1 e2 e3
    subst e1
    have HSp := Aside0.mk (HS.out rb rfl h0)
    have Hbr := Aside0.mk hbr
    have Hcs := Aside0.mk hRI
    have H0 := Aside0.mk h0
    clear hL2 h0 e2 e3 hRI hbr
    have t1 : (decide (n < N)) = false := by simp; omega
    have e2 := Aside0.mk (show F.listR seenF s 8 rows = rows by unfold Form.listR; rw [HRn.out, HN.out, if_neg (by omega)])
    have e3 := Aside0.mk (show F.listM s 8 n = min N 8 by unfold Form.listM; rw [HN.out])
    have hm : min N 8 ≤ rows.length := by rw [HRn.out]; omega
    have HM1 := Aside0.mk hm
    clear hm
    have HRo := Aside0.mk (show F.room s + (8 + rowsCost (rows.take (min N 8))) ≤ cap by have := HR.out; rw [e2.out, e3.out] at this; exact this)
    go_enter Try.func80, Try.ntmps80
    go_wp2
    go_region_held3 (fun W => W.cell? ⟨b, j, none⟩ = some (.slice (some ⟨rb, off, none⟩) n c)) (go_keep) (((with_reducible refine HC.out.mono ?_); rintro e w1 ⟨rfl, H⟩; have cb1 := (World.cell?_of_block (w := w) (a := ⟨b, j, none⟩) (H.undrew.wrote.far (blk_lt HH.out) HO.out (fun _ hp => nomatch hp))).trans HCb.out; have A1 := Aside0.mk (show Stepped F s (F.count s (n : Int) ((8 : Nat) : Int)).1 [] 8 w w1 from H.undrew); clear H))
    have HP0 := Aside0.mk (LoopP.start (fs := seenF) (R := rows) (off := off) (min N 8) A1.out.inv (fun h => HSp.out.2.1 (A1.out.own rb (blk_lt Hbr.out) h)) ((A1.out.wrote.far (blk_lt Hbr.out) HSp.out.2.1 (fun _ hp => nomatch hp)).trans Hbr.out) Hcs.out)
    have HCg1 := Aside0.mk ((World.cell?_of_block (w := w) (a := ⟨g, 0, none⟩) (A1.out.wrote.far HHg.out HOg.out (fun _ hp => nomatch hp))).trans HCg.out)
    have HCb1 := Aside0.mk cb1
    have HOg1 := Aside0.mk (fun h => HOg.out (A1.out.own g HHg.out h))
    have HOb1 := Aside0.mk (fun h => HO.out (A1.out.own b (blk_lt HH.out) h))
    go_wp2
    go_loopw [9] (fun i wr => ∃ k : Nat, i = .int .i64 k ∧ k ≤ min N 8 ∧ Aside0 (LoopP F seenF (F.count s (n : Int) ((8 : Nat) : Int)).1 w1 rb Tr off rows (min N 8) k wr)) (fun i _ => N - (intOf i).toNat)
    case atStart => exact ⟨0, rfl, by omega, HP0⟩
    case round =>
      clear HP0
      obtain ⟨k, rfl, hk, HP⟩ := hrel
      have hcb : wr.cell? ⟨b, j, none⟩ = some (.slice (some ⟨rb, off, none⟩) n c) := by
        obtain ⟨sk, D, l, cc, cs', _, _, _, hAt, _⟩ := HP.out
        exact hAt.cell HCb1.out HOb1.out (Ne.symm HSp.out.1)
      by_cases hlt : k < min N 8
      · have i0 : (0 : Int) ≤ (k : Int) := by omega
        have i1 : (k : Int) < (n : Int) := by omega
        have i2 : (k : Int) < (N : Int) := by omega
        have i3 : (k : Int) < 8 := by omega
        have HCs : Aside0 (Calls Try.prog 81 #[.pointer (some ⟨rb, off + k * 4, none⟩), .pointer (some ⟨g, 0, none⟩)] wr _) := Aside0.mk (HP.out.step HG.out (by decide) hlt HM1.out HF.out seen_c HOg1.out (fun e => (HSp.out.2.2 e.symm)) HCg1.out (by have := HRo.out; have := A1.out.room; omega))
        go_wp2_with (go_at_call 81; (with_reducible refine HCs.out.mono ?_); rintro e w2 ⟨rfl, H⟩; have HP2 := Aside0.mk H; clear H)
        go_roundw
        case rel => exact ⟨k + 1, by go_num, by omega, HP2⟩
        case measure => simp [intOf]; omega
      · have hkm : k = min N 8 := by omega
        have hend : LoopP F seenF (F.count s (n : Int) ((8 : Nat) : Int)).1 w1 rb Tr off rows (min N 8) (min N 8) wr := hkm ▸ HP.out
        have HEnd := Aside0.mk hend
        clear hend
        by_cases hlt2 : k < N
        · have i2 : (k : Int) < (N : Int) := by omega
          have i3 : ¬ (k : Int) < 8 := by omega
          go_wp2
          go_end0
          have hnr := HRn.out
          subst hnr
          exact ListDone.old (most := 8) HH.out HJ.out HO.out H0.out HSp.out.1 HSp.out.2.1 rfl (blk_lt Hbr.out) A1.out (by rw [HN.out]; exact z1) (by rw [e3.out]; exact HEnd.out)
        · have i2 : ¬ (k : Int) < (N : Int) := by omega
          go_wp2
          go_end0
          have hnr := HRn.out
          subst hnr
          exact ListDone.old (most := 8) HH.out HJ.out HO.out H0.out HSp.out.1 HSp.out.2.1 rfl (blk_lt Hbr.out) A1.out (by rw [HN.out]; exact z1) (by rw [e3.out]; exact HEnd.out)
  · have hlt : n < N := by omega
    have t1 : (decide ((n : Int) < (N : Int))) = true := by simp; omega
    have hNM : N ≤ 8 := by have := Hl1.out; omega
    have e2 := Aside0.mk (show F.listR seenF s 8 rows = List.replicate N (zeroRow seenF) by unfold Form.listR; rw [HRn.out, HN.out, if_pos hlt])
    have e3 := Aside0.mk (show F.listM s 8 n = N by unfold Form.listM; rw [HN.out]; omega)
    have HRo := Aside0.mk (show F.room s + (8 + rowsCost ((List.replicate N (zeroRow seenF)).take N)) ≤ cap by have := HR.out; rw [e2.out, e3.out] at this; exact this)
    have HMK := fun W => made_S W N (by omega)
    have HBl := Aside0.mk (blk_lt HH.out)
    go_enter Try.func80, Try.ntmps80
    go_wp2
    go_region_held3 (fun W => W.cell? ⟨b, j, none⟩ = some (.slice A n c)) (go_keep) (((with_reducible refine HC.out.mono ?_); rintro e w1 ⟨rfl, H⟩; have hbw1 := (H.undrew.wrote.far (blk_lt HH.out) HO.out (fun _ hp => nomatch hp)).trans HH.out; have cb1 := (World.cell?_of_block (w := w) (a := ⟨b, j, none⟩) (H.undrew.wrote.far (blk_lt HH.out) HO.out (fun _ hp => nomatch hp))).trans HCb.out; have A1 := Aside0.mk (show Stepped F s (F.count s (n : Int) ((8 : Nat) : Int)).1 [] 8 w w1 from H.undrew); clear H))
    have hb1 : b < w1.heap.size := Nat.lt_of_lt_of_le HBl.out A1.out.wrote.size
    have fb1 := blk_frozen hbw1 j
    have Hbw := Aside0.mk hbw1
    clear hbw1
    have HCg1 := Aside0.mk ((World.cell?_of_block (w := w) (a := ⟨g, 0, none⟩) (A1.out.wrote.far HHg.out HOg.out (fun _ hp => nomatch hp))).trans HCg.out)
    have HOg1 := Aside0.mk (fun h => HOg.out (A1.out.own g HHg.out h))
    have HOb1 := Aside0.mk (fun h => HO.out (A1.out.own b (blk_lt HH.out) h))
    go_wp2
    have HOM := Aside0.mk (HG.out.own_move (w' := ((w1.setCell ⟨b, j, none⟩ (.slice (some ⟨w1.heap.size, 0, none⟩) N N)).alloc (.cells (madeCells (zeroRow seenF).toArray (N * (seenF).length)) 70))) A1.out.inv (fun k hk => (Below.heap_alloc _ _ k (by rw [World.size_setCell]; exact HG.out.lt A1.out.inv hk)).trans (Below.heap_setCell _ _ _ _ (fun e => HOb1.out (by have e' : k = b := e; rw [← e']; exact hk)))))
    have HP0 := Aside0.mk (LoopP.start (F := F) (fs := seenF) (s1 := (F.count s (n : Int) ((8 : Nat) : Int)).1) (wL := (w1.setCell ⟨b, j, none⟩ (.slice (some ⟨w1.heap.size, 0, none⟩) N N)).alloc (.cells (madeCells (zeroRow seenF).toArray (N * (seenF).length)) 70)) (rb := w1.heap.size) (T := 70) (R := List.replicate N (zeroRow seenF)) (off := 0) N (HG.out.move A1.out.inv (fun k hk => (Below.heap_alloc _ _ k (by rw [World.size_setCell]; exact HG.out.lt A1.out.inv hk)).trans (Below.heap_setCell _ _ _ _ (fun e => HOb1.out (by have e' : k = b := e; rw [← e']; exact hk)))) (by rw [World.size_alloc, World.size_setCell]; omega)) (fun h => absurd (HG.out.lt A1.out.inv (HOM.out _ h)) (Nat.lt_irrefl _)) (by have := alloc_new (w1.setCell ⟨b, j, none⟩ (.slice (some ⟨w1.heap.size, 0, none⟩) N N)) (.cells (madeCells (zeroRow seenF).toArray (N * (seenF).length)) 70); rw [World.size_setCell] at this; exact this) (madeRows _ rfl N))
    have HCgL := Aside0.mk (show ((w1.setCell ⟨b, j, none⟩ (.slice (some ⟨w1.heap.size, 0, none⟩) N N)).alloc (.cells (madeCells (zeroRow seenF).toArray (N * (seenF).length)) 70)).cell? ⟨g, 0, none⟩ = some (.iface F.ty F.v) by
      rw [World.cell?_alloc_past _ _ _ (by rw [World.size_setCell]; exact Nat.lt_of_lt_of_le HHg.out A1.out.wrote.size), World.cell?_setCell_other _ _ _ _ (by simp; intro e; exact absurd e.symm HB.out)]
      exact HCg1.out)
    have HCbL := Aside0.mk (show ((w1.setCell ⟨b, j, none⟩ (.slice (some ⟨w1.heap.size, 0, none⟩) N N)).alloc (.cells (madeCells (zeroRow seenF).toArray (N * (seenF).length)) 70)).cell? ⟨b, j, none⟩ = some (.slice (some ⟨w1.heap.size, 0, none⟩) N N) by
      rw [World.cell?_alloc_past _ _ _ (by rw [World.size_setCell]; exact hb1)]
      exact World.cell?_setCell_same _ _ _ cb1)
    have Hne := Aside0.mk (show g ≠ w1.heap.size from fun e => by have := HHg.out; have := A1.out.wrote.size; omega)
    have Hnb := Aside0.mk (show b ≠ w1.heap.size from fun e => by omega)
    generalize hWL : (w1.setCell ⟨b, j, none⟩ (.slice (some ⟨w1.heap.size, 0, none⟩) N N)).alloc (.cells (madeCells (zeroRow seenF).toArray (N * (seenF).length)) 70) = wL at *
    have HWL := Aside0.mk hWL
    clear hWL HMK cb1 fb1 cb0
    generalize hrb : w1.heap.size = rb at *
    go_loopw [9] (fun i wr => ∃ k : Nat, i = .int .i64 k ∧ k ≤ N ∧ Aside0 (LoopP F seenF (F.count s (n : Int) ((8 : Nat) : Int)).1 wL rb 70 0 (List.replicate N (zeroRow seenF)) N k wr)) (fun i _ => N - (intOf i).toNat)
    case atStart => exact ⟨0, rfl, by omega, HP0⟩
    case round =>
      clear HP0
      obtain ⟨k, rfl, hk, HP⟩ := hrel
      have hcb : wr.cell? ⟨b, j, none⟩ = some (.slice (some ⟨rb, 0, none⟩) N N) := by
        obtain ⟨sk, D, l, cc, cs', _, _, _, hAt, _⟩ := HP.out
        exact hAt.cell HCbL.out (fun h => HOb1.out (HOM.out _ h)) Hnb.out
      by_cases hlt2 : k < N
      · have i0 : (0 : Int) ≤ (k : Int) := by omega
        have i2 : (k : Int) < (N : Int) := by omega
        have i3 : (k : Int) < 8 := by omega
        have HCs : Aside0 (Calls Try.prog 81 #[.pointer (some ⟨rb, k * 4, none⟩), .pointer (some ⟨g, 0, none⟩)] wr _) := Aside0.mk (by
          have := (HP.out.step HG.out (by decide) hlt2 (by simp) (fun r hr => by rw [(List.mem_replicate.1 hr).2]; exact fits_zero _) seen_c (fun h => HOg1.out (HOM.out _ h)) Hne.out HCgL.out (by have := HRo.out; have := A1.out.room; omega))
          rw [Nat.zero_add] at this
          exact this)
        go_wp2_with (go_at_call 81; (with_reducible refine HCs.out.mono ?_); rintro e w2 ⟨rfl, H⟩; have HP2 := Aside0.mk H; clear H)
        go_roundw
        case rel => exact ⟨k + 1, by go_num, by omega, HP2⟩
        case measure => simp [intOf]; omega
      · have hkm : k = N := by omega
        have hend : LoopP F seenF (F.count s (n : Int) ((8 : Nat) : Int)).1 wL rb 70 0 (List.replicate N (zeroRow seenF)) N N wr := by subst hkm; exact HP.out
        have HEnd := Aside0.mk hend
        clear hend
        have i2 : ¬ (k : Int) < (N : Int) := by omega
        go_wp2
        go_end0
        have hnr := HRn.out
        have hw := HWL.out
        subst hnr
        subst hrb
        refine ListDone.new_ (most := 8) (Z := (zeroRow seenF).toArray) (Tr := 70) HG.out HH.out HO.out A1.out HN.out hlt hNM ?_
        first | (rw [hw]; exact HEnd.out) | (subst hw; exact HEnd.out)
end Go.Proofs.Ytcbehfbfaonanaa.Wr
end
