/- Words for the packer's two states in memory: a reader's block and its bytes, a writer's block and its row; what a call may turn. -/
import Derived.Test.YtlelddljamfblaaProg
import Derived.Test.YtlelddljamfblaaWWords
import Derived.Test.YtlelddljamfblaaWShare
import Derived.Test.YtlelddljamfblaaWMore
import Derived.Lib.SlBytesConst
namespace Go.Proofs.Ytlelddljamfblaa.Pk
open Go.RowKit Go.Proofs.YtlelddljamfblaaW.PrintWords Go.Proofs.YtlelddljamfblaaW.PrintLast Go.Proofs.YtlelddljamfblaaW.PrintMore
set_option linter.unusedVariables false
set_option linter.unusedSimpArgs false

/-- From w to w' only blocks of S (and new ones) have turned. -/
structure Only (S : Nat → Prop) (w w' : World) : Prop where
  os : w'.os = w.os
  tape : w'.tape = w.tape
  output : w'.output = w.output
  size : w.heap.size ≤ w'.heap.size
  block : ∀ k, k < w.heap.size → ¬ S k → w'.heap[k]? = w.heap[k]?
namespace Only
variable {S S' : Nat → Prop} {a b c w w' : World}
theorem refl (S : Nat → Prop) (w : World) : Only S w w := ⟨rfl, rfl, rfl, Nat.le_refl _, fun _ _ _ => rfl⟩
theorem mono (h : Only S w w') (hs : ∀ k, k < w.heap.size → S k → S' k) : Only S' w w' := ⟨h.os, h.tape, h.output, h.size, fun k hk hn => h.block k hk (fun s => hn (hs k hk s))⟩
theorem trans (h : Only S a b) (k : Only S' b c) (hs : ∀ i, i < a.heap.size → S' i → S i) : Only S a c :=
  ⟨k.os.trans h.os, k.tape.trans h.tape, k.output.trans h.output, Nat.le_trans h.size k.size, fun i hi hn => (k.block i (Nat.lt_of_lt_of_le hi h.size) (fun s => hn (hs i hi s))).trans (h.block i hi hn)⟩
theorem then_ (h : Only S a b) (k : Only S b c) : Only S a c := h.trans k (fun _ _ s => s)
theorem set (h : Only S a w) {p : Addr} (hp : a.heap.size ≤ p.block ∨ S p.block) (u : Value) : Only S a (w.setCell p u) :=
  ⟨h.os, h.tape, h.output, by rw [World.size_setCell]; exact h.size, fun k hk hn => (Below.heap_setCell w p u k (fun e => by subst e; rcases hp with hp | hp; omega; exact hn hp)).trans (h.block k hk hn)⟩
theorem alloc (h : Only S a w) (o : Obj) : Only S a (w.alloc o) :=
  ⟨h.os, h.tape, h.output, by rw [World.size_alloc]; exact Nat.le_succ_of_le h.size, fun k hk hn => (Below.heap_alloc w o k (Nat.lt_of_lt_of_le hk h.size)).trans (h.block k hk hn)⟩
theorem at_ (w : World) (g i : Nat) (u : Value) : Only (· = g) w (w.setCell ⟨g, i, none⟩ u) := (Only.refl (· = g) w).set (.inr rfl) u
theorem drew (h : Only S a w) : Only S a w.drew := ⟨h.os, h.tape, h.output, h.size, h.block⟩
theorem drewN (h : Only S a w) (n : Nat) : Only S a (w.drewN n) := ⟨h.os, h.tape, h.output, h.size, h.block⟩
theorem of_below (h : Below w.heap.size w w') (S : Nat → Prop) : Only S w w' := ⟨h.os, h.tape, h.output, h.size, fun k hk _ => h.block k hk⟩
theorem below (h : Only S w w') (hs : ∀ k, k < w.heap.size → ¬ S k) : Below w.heap.size w w' := ⟨h.os, h.tape, h.output, h.size, fun k hk => h.block k hk (hs k hk)⟩
theorem grown (h : Only S a w) {row : Option Nat} (hg : w.grownBy w' row) (hr : ∀ k, row = some k → a.heap.size ≤ k ∨ S k) : Only S a w' :=
  ⟨hg.os.trans h.os, hg.tape.trans h.tape, hg.output.trans h.output, Nat.le_trans h.size hg.size, fun k hk hn => (hg.block k (Nat.lt_of_lt_of_le hk h.size) (fun e => by
    rcases hr k e.symm with h' | h'
    · omega
    · exact hn h')).trans (h.block k hk hn)⟩
theorem cell {p : Addr} (h : Only S w w') {v : Value} (hc : w.cell? p = some v) (hn : ¬ S p.block) : w'.cell? p = some v :=
  (World.cell?_of_block (w := w) (h.block p.block (World.block_lt_of_cell? w p hc) hn)).trans hc
theorem blk {g : Nat} {o : Obj} (h : Only S w w') (hb : w.heap[g]? = some o) (hn : ¬ S g) : w'.heap[g]? = some o := (h.block g (blk_lt hb) hn).trans hb
end Only

/-- A whole number's bytes lie from ⟨q, off⟩ on. -/
def BytesAt (w : World) (q off : Nat) (bs : List Int) : Prop := ∀ j x, bs[j]? = some x → w.cell? ⟨q, off + j, none⟩ = some (.int .u8 x)
theorem BytesAt.move {w w' : World} {q off : Nat} {bs : List Int} (h : BytesAt w q off bs) (hq : w'.heap[q]? = w.heap[q]?) : BytesAt w' q off bs :=
  fun j x hj => (World.cell?_of_block (w := w) (a := ⟨q, off + j, none⟩) hq).trans (h j x hj)
theorem BytesAt.tail {w : World} {q off : Nat} {x : Int} {bs : List Int} (h : BytesAt w q off (x :: bs)) : BytesAt w q (off + 1) bs := fun j y hj => by
  have := h (j + 1) y (by simpa using hj)
  rwa [show off + (j + 1) = off + 1 + j by omega] at this
theorem BytesAt.head {w : World} {q off : Nat} {x : Int} {bs : List Int} (h : BytesAt w q off (x :: bs)) : w.cell? ⟨q, off, none⟩ = some (.int .u8 x) := h 0 x rfl
theorem BytesAt.drop {w : World} {q off : Nat} {bs : List Int} (h : BytesAt w q off bs) (n : Nat) : BytesAt w q (off + n) (bs.drop n) := fun j x hj => by
  rw [List.getElem?_drop] at hj
  have := h (n + j) x hj
  rwa [show off + (n + j) = off + n + j by omega] at this

/-- A reader at block g: the bytes that are left lie in block q; whether it is spoilt. -/
def RdAt (w : World) (g q : Nat) (bs : List Int) (bad : Bool) : Prop :=
  ∃ off c, w.heap[g]? = some (.cells #[.slice (some ⟨q, off, none⟩) bs.length c, .bool bad] 62 (0, 0)) ∧ bs.length ≤ c ∧ c ≤ 9223372036854775807 ∧ g ≠ q ∧ q < w.heap.size ∧ BytesAt w q off bs
theorem RdAt.move {w w' : World} {g q : Nat} {bs : List Int} {bad : Bool} (h : RdAt w g q bs bad) (hm : ∀ k, k = g ∨ k = q → w'.heap[k]? = w.heap[k]?) : RdAt w' g q bs bad := by
  obtain ⟨off, c, hb, h1, h2, h3, h5, h4⟩ := h
  have hq := hm q (.inr rfl)
  refine ⟨off, c, (hm g (.inl rfl)).trans hb, h1, h2, h3, ?_, h4.move hq⟩
  rw [Array.getElem?_eq_getElem h5] at hq
  exact (Array.getElem?_eq_some_iff.1 hq).1
theorem RdAt.only {w w' : World} {S : Nat → Prop} {g q : Nat} {bs : List Int} {bad : Bool} (h : RdAt w g q bs bad) (ho : Only S w w') (hg : ¬ S g) (hq : ¬ S q) : RdAt w' g q bs bad := by
  have h' := h
  obtain ⟨off, c, hb, h1, h2, h3, h5, h4⟩ := h'
  exact h.move fun k hk => by
    rcases hk with rfl | rfl
    · exact ho.block _ (blk_lt hb) hg
    · exact ho.block _ h5 hq

theorem RdAt.flag {w : World} {g q : Nat} {bs : List Int} {bad : Bool} (h : RdAt w g q bs bad) : w.cell? ⟨g, 1, none⟩ = some (.bool bad) := by
  obtain ⟨off, c, hb, _⟩ := h
  rw [blk_cell hb]; rfl
theorem RdAt.frozen0 {w : World} {g q : Nat} {bs : List Int} {bad : Bool} (h : RdAt w g q bs bad) : w.frozen? ⟨g, 0, none⟩ = false := by
  obtain ⟨off, c, hb, _⟩ := h
  exact blk_frozen hb 0
theorem RdAt.frozen1 {w : World} {g q : Nat} {bs : List Int} {bad : Bool} (h : RdAt w g q bs bad) : w.frozen? ⟨g, 1, none⟩ = false := by
  obtain ⟨off, c, hb, _⟩ := h
  exact blk_frozen hb 1
theorem RdAt.spoil {w : World} {g q : Nat} {bs : List Int} {bad : Bool} (h : RdAt w g q bs bad) (b : Bool) : RdAt (w.setCell ⟨g, 1, none⟩ (.bool b)) g q bs b := by
  obtain ⟨off, c, hb, h1, h2, h3, h5, h4⟩ := h
  exact ⟨off, c, by rw [blk_set hb]; rfl, h1, h2, h3, by simpa using h5, h4.move (Below.heap_setCell _ _ _ _ (Ne.symm h3))⟩

/-- A writer at block g (type T, further cells r): its row is v, with the bytes xs; whether it is spoilt. -/
def WrAt (w : World) (g T : Nat) (r : List Value) (v : Value) (xs : List Int) (bad : Bool) : Prop :=
  w.heap[g]? = some (.cells ([v, .bool bad] ++ r).toArray T (0, 0)) ∧ w.ownsRow 0 5 1 v xs.length (nums .u8 xs) ∧ v.ownBlock ≠ some g
theorem WrAt.move {w w' : World} {g T : Nat} {r : List Value} {v : Value} {xs : List Int} {bad : Bool} (h : WrAt w g T r v xs bad) (hm : ∀ k, k = g ∨ v.ownBlock = some k → w'.heap[k]? = w.heap[k]?) : WrAt w' g T r v xs bad :=
  ⟨(hm g (.inl rfl)).trans h.1, own_move h.2.1 (fun k hk => hm k (.inr hk)), h.2.2⟩
theorem WrAt.only {w w' : World} {S : Nat → Prop} {g T : Nat} {r : List Value} {v : Value} {xs : List Int} {bad : Bool} (h : WrAt w g T r v xs bad) (ho : Only S w w') (hg : ¬ S g) (hq : ∀ k, v.ownBlock = some k → ¬ S k) : WrAt w' g T r v xs bad :=
  h.move fun k hk => by
    rcases hk with rfl | hk
    · exact ho.block _ (blk_lt h.1) hg
    · exact ho.block _ (own_lt h.2.1 k hk) (hq k hk)
/-- The new row is the old one, or new. -/
def NewRow (w : World) (v v' : Value) : Prop := v'.ownBlock = v.ownBlock ∨ ∃ b, v'.ownBlock = some b ∧ w.heap.size ≤ b
theorem NewRow.refl (w : World) (v : Value) : NewRow w v v := .inl rfl
theorem NewRow.trans {w w1 : World} {v v1 v2 : Value} (h : NewRow w v v1) (k : NewRow w1 v1 v2) (hs : w.heap.size ≤ w1.heap.size) : NewRow w v v2 := by
  rcases k with k | ⟨b, k, hb⟩
  · rcases h with h | ⟨b, h, hb⟩
    · exact .inl (k.trans h)
    · exact .inr ⟨b, k.trans h, hb⟩
  · exact .inr ⟨b, k, by omega⟩
/-- What a writer's call may turn. -/
def WS (g : Nat) (v : Value) (k : Nat) : Prop := k = g ∨ v.ownBlock = some k
theorem WS.step {w : World} {v v1 : Value} (h : NewRow w v v1) {g k : Nat} (hk : k < w.heap.size) (s : WS g v1 k) : WS g v k := by
  rcases s with s | s
  · exact .inl s
  · rcases h with h | ⟨b, h, hb⟩
    · exact .inr (h ▸ s)
    · rw [h] at s
      injection s with s
      omega
end Go.Proofs.Ytlelddljamfblaa.Pk
