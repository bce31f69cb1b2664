/- Part 22 of the texts that walk the program and tell its laws, joined in the order of their building. No conditions. -/
import Derived.Test.YtcbehfbfaonanaaJw18
import Derived.Test.YtcbehfbfaonanaaJw19
import Derived.Test.YtcbehfbfaonanaaJw20
set_option maxRecDepth 100000
set_option maxHeartbeats 16000000
section
namespace Go.Proofs.Ytcbehfbfaonanaa.Wr
open Go.RowKit Go.Proofs.YtcbehfbfaonanaaW.PrintWords Go.Proofs.YtcbehfbfaonanaaW.PrintLast Go.Proofs.YtcbehfbfaonanaaW.PrintMore Go.Proofs.Ytcbehfbfaonanaa.Pk
set_option linter.unusedVariables false
set_option linter.unusedSimpArgs false
def ctr : Option Value → Nat
 | some (.int .i64 i) => i.toNat
 | _ => 0
theorem zpi (e0 : Int) (e1 : Int) (e2 : Int) (e3 : Int) (e4 : ByteArray) (e5 : Bool) (e6 : ByteArray) : zbj zak [.int .i64 e0, .int .i64 e1, .int .i64 e2, .int .i64 e3, .string e4, .bool e5, .string e6] ↔ PosB [(e0, e1)] = true ∧ InB (e2) 0 9007199254740992 = true ∧ InB (e3) 0 9007199254740992 = true ∧ decide ((64 : Int) < ((e4.size : Nat) : Int)) = false ∧ decide ((1024 : Int) < ((e6.size : Nat) : Int)) = false := by
 simp only [zbj, InF, zak, PosB, InB, List.all_cons, List.all_nil, Bool.and_true, Bool.and_eq_true, decide_eq_true_eq, decide_eq_false_iff_not, and_true, true_and]
 constructor <;> intro h <;> omega
theorem ri_entry (w : World) (g : Nat) (f : Nat → Value) (K : Exit → Act → World → Prop) (hK : ∀ a, RFr 247 g a → a.tmps[3]? = some (.int .i64 ((0 : Nat) : Int)) → K .normal a w) : Code.wp Try.prog (cl (cl rb9)) K (rfr g f) w := by
 unfold rfr
 have hK := aK hK
 conv => arg 2; whnf
 go_wp2_with fail
 exact hK.out _ ⟨rfl, rfl, rfl⟩ rfl
theorem lp_entry (w : World) (g : Nat) (f : Nat → Value) (x : Nat → Int) (s : Nat → ByteArray) (p : Nat → Bool) (A : Nat → Option Addr) (n c : Nat → Nat) (K : Exit → Act → World → Prop) (HX : w.heap[g]? = some (.cells (cX x s p (fun j => .slice (A j) (n j) (c j))) 32 (0, 0))) (rows : List (List Value)) (hn : n 3 = rows.length) (hrd : ListRd w (.slice (A 3) (n 3) (c 3)) 7 rows) (hfit : ∀ r, r ∈ rows → fits zak r) (hlen : rows.length ≤ 1048576)
  (hno : ¬ (∀ r, r ∈ rows → zbj zak r) → ∀ a w', RFr 247 g a → a.tmps[2]? = some (.bool false) → Below w.heap.size w w' → K .ret a w')
  (hyes : (∀ r, r ∈ rows → zbj zak r) → ∀ a w', RFr 247 g a → Below w.heap.size w w' → K .normal a w') : Code.wp Try.prog (cl rb9) K (rfr g f) w := by
 refine wp_seq (x := cl (cl rb9)) (y := cr (cl rb9)) (ri_entry w g f _ (fun a0 hF0 h0 => ?_))
 show Code.wp Try.prog (cr (cl rb9)) K a0 w
 refine wp_block (id := 0) (c := cl (cr (cl rb9))) ?_
 refine wp_loop (c := cl (cl (cr (cl rb9)))) (fun a w' => RFr 247 g a ∧ Below w.heap.size w w' ∧ ∃ i : Nat, i ≤ rows.length ∧ a.tmps[3]? = some (.int .i64 (i : Int)) ∧ ∀ r, r ∈ rows.take i → zbj zak r) (fun a _ => rows.length - ctr (a.tmps[3]?)) ⟨hF0, Below.refl _ _, 0, by omega, h0, by simp⟩ ?_
 rintro a w' ⟨hF, hB, i, hi, h3, hok⟩
 have e := hF.open
 have hf : (fun i => a.tmps.getD i undef) 3 = .int .i64 (i : Int) := by
  show a.tmps.getD 3 undef = _
  rw [Array.getD_eq_getD_getElem?, h3]
  rfl
 generalize (fun i => a.tmps.getD i undef) = f' at e hf
 subst e
 have HX1 := aK (show w'.heap[g]? = some (.cells (cX x s p (fun j => .slice (A j) (n j) (c j))) 32 (0, 0)) from (hB.block g (zad HX)).trans HX)
 by_cases hil : i = rows.length
 ·refine zmn w' g f' x s p A n c _ i HX1 hf (by rw [hn, hil]; simp) (fun a2 hF2 => ?_)
  show (if 0 = 0 then K .normal a2 w' else K (.exit 0) a2 w')
  rw [if_pos rfl]
  exact hyes (by rw [hil, List.take_length] at hok; exact hok) a2 w' hF2 hB
 ·have hlt : i < n 3 := by omega
  obtain ⟨ad, r, hA, hr, hc⟩ := zby (fs := zak) hrd hn.symm hlt
  have hA := aK hA
  have hmem : r ∈ rows := List.mem_of_getElem? hr
  have hcell : ∀ W, Below w'.heap.size w' W → ∀ j v, r[j]? = some v → W.cell? (ad.add (i * 7 + j)) = some v := fun W hW j v hj => by
   obtain ⟨ad', r', hA', hr', hc'⟩ := zby (fs := zak) (hrd.below (by omega) (fun r hr => zax (hfit r hr)) (hB.trans (hW.mono hB.size))) hn.symm hlt
   rw [hA.out] at hA'
   rw [hr] at hr'
   cases hA'
   cases hr'
   exact hc' j v hj
  obtain ⟨e0, e1, e2, e3, e4, e5, e6, rfl⟩ := zeb (hfit r hmem)
  have fail : ¬ zbj zak [.int .i64 e0, .int .i64 e1, .int .i64 e2, .int .i64 e3, .string e4, .bool e5, .string e6] → ∀ a2 w2, RFr 247 g a2 → a2.tmps[2]? = some (.bool false) → Below w'.heap.size w' w2 → K .ret a2 w2 := fun hb a2 w2 k1 k2 k3 => hno (fun h => hb (h _ hmem)) a2 w2 k1 k2 (hB.trans (k3.mono hB.size))
  refine rl_entry w' g f' x s p A n c _ i e0 e1 e2 e3 e4 e5 e6 hf hlt (by omega) ad hA HX1 (aK (fun j v hj => by rw [Addr.add_add]; exact hcell w' (Below.refl _ _) j v hj)) _ _ _ _ _ (aK (fun W => ztw e0 e1 _ rfl W)) (aK (fun W => in_c _ _ _ _ rfl W)) (aK (fun W => in_c _ _ _ _ rfl W)) rfl rfl (fun hb => fail (fun k => hb ((zpi e0 e1 e2 e3 e4 e5 e6).1 k))) (fun hb a2 w2 k1 k2 k3 => ⟨⟨k1, hB.trans (k3.mono hB.size), i + 1, by omega, k2, fun q hq => ?_⟩, ?_⟩)
  ·rw [List.take_add_one, hr] at hq
   rcases List.mem_append.1 hq with hq | hq
   ·exact hok q hq
   ·obtain rfl : q = [.int .i64 e0, .int .i64 e1, .int .i64 e2, .int .i64 e3, .string e4, .bool e5, .string e6] := by simpa using hq
    exact (zpi e0 e1 e2 e3 e4 e5 e6).2 hb
  ·show rows.length - ctr (a2.tmps[3]?) < rows.length - ctr ((rfr g f').tmps[3]?)
   rw [k2, h3]
   show rows.length - (((i + 1 : Nat) : Int)).toNat < rows.length - ((i : Nat) : Int).toNat
   omega
theorem zug (e0 : ByteArray) (e1 : Int) (e2 : Int) (e3 : Bool) (e4 : ByteArray) : zbj zat [.string e0, .int .i64 e1, .int .i64 e2, .bool e3, .string e4] ↔ PosB [(e1, e2)] = true ∧ decide ((64 : Int) < ((e0.size : Nat) : Int)) = false ∧ decide ((1024 : Int) < ((e4.size : Nat) : Int)) = false := by
 simp only [zbj, InF, zat, PosB, InB, List.all_cons, List.all_nil, Bool.and_true, Bool.and_eq_true, decide_eq_true_eq, decide_eq_false_iff_not, and_true, true_and]
 constructor <;> intro h <;> omega
theorem ri_pair (w : World) (g : Nat) (f : Nat → Value) (K : Exit → Act → World → Prop) (hK : ∀ a, RFr 247 g a → a.tmps[5]? = some (.int .i64 ((0 : Nat) : Int)) → K .normal a w) : Code.wp Try.prog (cl (cl rb15)) K (rfr g f) w := by
 unfold rfr
 have hK := aK hK
 conv => arg 2; whnf
 go_wp2_with fail
 exact hK.out _ ⟨rfl, rfl, rfl⟩ rfl
theorem lp_pair (w : World) (g : Nat) (f : Nat → Value) (x : Nat → Int) (s : Nat → ByteArray) (p : Nat → Bool) (A : Nat → Option Addr) (n c : Nat → Nat) (K : Exit → Act → World → Prop) (HX : w.heap[g]? = some (.cells (cX x s p (fun j => .slice (A j) (n j) (c j))) 32 (0, 0))) (rows : List (List Value)) (hn : n 8 = rows.length) (hrd : ListRd w (.slice (A 8) (n 8) (c 8)) 5 rows) (hfit : ∀ r, r ∈ rows → fits zat r) (hlen : rows.length ≤ 1048576)
  (hno : ¬ (∀ r, r ∈ rows → zbj zat r) → ∀ a w', RFr 247 g a → a.tmps[2]? = some (.bool false) → Below w.heap.size w w' → K .ret a w')
  (hyes : (∀ r, r ∈ rows → zbj zat r) → ∀ a w', RFr 247 g a → Below w.heap.size w w' → K .normal a w') : Code.wp Try.prog (cl rb15) K (rfr g f) w := by
 refine wp_seq (x := cl (cl rb15)) (y := cr (cl rb15)) (ri_pair w g f _ (fun a0 hF0 h0 => ?_))
 show Code.wp Try.prog (cr (cl rb15)) K a0 w
 refine wp_block (id := 2) (c := cl (cr (cl rb15))) ?_
 refine wp_loop (c := cl (cl (cr (cl rb15)))) (fun a w' => RFr 247 g a ∧ Below w.heap.size w w' ∧ ∃ i : Nat, i ≤ rows.length ∧ a.tmps[5]? = some (.int .i64 (i : Int)) ∧ ∀ r, r ∈ rows.take i → zbj zat r) (fun a _ => rows.length - ctr (a.tmps[5]?)) ⟨hF0, Below.refl _ _, 0, by omega, h0, by simp⟩ ?_
 rintro a w' ⟨hF, hB, i, hi, h3, hok⟩
 have e := hF.open
 have hf : (fun i => a.tmps.getD i undef) 5 = .int .i64 (i : Int) := by
  show a.tmps.getD 5 undef = _
  rw [Array.getD_eq_getD_getElem?, h3]
  rfl
 generalize (fun i => a.tmps.getD i undef) = f' at e hf
 subst e
 have HX1 := aK (show w'.heap[g]? = some (.cells (cX x s p (fun j => .slice (A j) (n j) (c j))) 32 (0, 0)) from (hB.block g (zad HX)).trans HX)
 by_cases hil : i = rows.length
 ·refine znu w' g f' x s p A n c _ i HX1 hf (by rw [hn, hil]; simp) (fun a2 hF2 => ?_)
  show (if 2 = 2 then K .normal a2 w' else K (.exit 2) a2 w')
  rw [if_pos rfl]
  exact hyes (by rw [hil, List.take_length] at hok; exact hok) a2 w' hF2 hB
 ·have hlt : i < n 8 := by omega
  obtain ⟨ad, r, hA, hr, hc⟩ := zby (fs := zat) hrd hn.symm hlt
  have hA := aK hA
  have hmem : r ∈ rows := List.mem_of_getElem? hr
  have hcell : ∀ W, Below w'.heap.size w' W → ∀ j v, r[j]? = some v → W.cell? (ad.add (i * 5 + j)) = some v := fun W hW j v hj => by
   obtain ⟨ad', r', hA', hr', hc'⟩ := zby (fs := zat) (hrd.below (by omega) (fun r hr => zax (hfit r hr)) (hB.trans (hW.mono hB.size))) hn.symm hlt
   rw [hA.out] at hA'
   rw [hr] at hr'
   cases hA'
   cases hr'
   exact hc' j v hj
  obtain ⟨e0, e1, e2, e3, e4, rfl⟩ := zer (hfit r hmem)
  have fail : ¬ zbj zat [.string e0, .int .i64 e1, .int .i64 e2, .bool e3, .string e4] → ∀ a2 w2, RFr 247 g a2 → a2.tmps[2]? = some (.bool false) → Below w'.heap.size w' w2 → K .ret a2 w2 := fun hb a2 w2 k1 k2 k3 => hno (fun h => hb (h _ hmem)) a2 w2 k1 k2 (hB.trans (k3.mono hB.size))
  refine rl_pair w' g f' x s p A n c _ i e0 e1 e2 e3 e4 hf hlt (by omega) ad hA HX1 (aK (fun j v hj => by rw [Addr.add_add]; exact hcell w' (Below.refl _ _) j v hj)) _ _ _ (aK (fun W => ztw e1 e2 _ rfl W)) rfl rfl (fun hb => fail (fun k => hb ((zug e0 e1 e2 e3 e4).1 k))) (fun hb a2 w2 k1 k2 k3 => ⟨⟨k1, hB.trans (k3.mono hB.size), i + 1, by omega, k2, fun q hq => ?_⟩, ?_⟩)
  ·rw [List.take_add_one, hr] at hq
   rcases List.mem_append.1 hq with hq | hq
   ·exact hok q hq
   ·obtain rfl : q = [.string e0, .int .i64 e1, .int .i64 e2, .bool e3, .string e4] := by simpa using hq
    exact (zug e0 e1 e2 e3 e4).2 hb
  ·show rows.length - ctr (a2.tmps[5]?) < rows.length - ctr ((rfr g f').tmps[5]?)
   rw [k2, h3]
   show rows.length - (((i + 1 : Nat) : Int)).toNat < rows.length - ((i : Nat) : Int).toNat
   omega
theorem zuh (e0 : Int) (e1 : Int) (e2 : Int) (e3 : Int) : zbj zau [.int .i64 e0, .int .i64 e1, .int .i64 e2, .int .i64 e3] ↔ PosB [(e2, e3)] = true ∧ InB (e0) 0 9007199254740992 = true ∧ InB (e1) 0 9007199254740992 = true := by
 simp only [zbj, InF, zau, PosB, InB, List.all_cons, List.all_nil, Bool.and_true, Bool.and_eq_true, decide_eq_true_eq, decide_eq_false_iff_not, and_true, true_and]
 constructor <;> intro h <;> omega
theorem ri_seen (w : World) (g : Nat) (f : Nat → Value) (K : Exit → Act → World → Prop) (hK : ∀ a, RFr 247 g a → a.tmps[7]? = some (.int .i64 ((0 : Nat) : Int)) → K .normal a w) : Code.wp Try.prog (cl (cl rb21)) K (rfr g f) w := by
 unfold rfr
 have hK := aK hK
 conv => arg 2; whnf
 go_wp2_with fail
 exact hK.out _ ⟨rfl, rfl, rfl⟩ rfl
theorem lp_seen (w : World) (g : Nat) (f : Nat → Value) (x : Nat → Int) (s : Nat → ByteArray) (p : Nat → Bool) (A : Nat → Option Addr) (n c : Nat → Nat) (K : Exit → Act → World → Prop) (HX : w.heap[g]? = some (.cells (cX x s p (fun j => .slice (A j) (n j) (c j))) 32 (0, 0))) (rows : List (List Value)) (hn : n 9 = rows.length) (hrd : ListRd w (.slice (A 9) (n 9) (c 9)) 4 rows) (hfit : ∀ r, r ∈ rows → fits zau r) (hlen : rows.length ≤ 1048576)
  (hno : ¬ (∀ r, r ∈ rows → zbj zau r) → ∀ a w', RFr 247 g a → a.tmps[2]? = some (.bool false) → Below w.heap.size w w' → K .ret a w')
  (hyes : (∀ r, r ∈ rows → zbj zau r) → ∀ a w', RFr 247 g a → Below w.heap.size w w' → K .normal a w') : Code.wp Try.prog (cl rb21) K (rfr g f) w := by
 refine wp_seq (x := cl (cl rb21)) (y := cr (cl rb21)) (ri_seen w g f _ (fun a0 hF0 h0 => ?_))
 show Code.wp Try.prog (cr (cl rb21)) K a0 w
 refine wp_block (id := 4) (c := cl (cr (cl rb21))) ?_
 refine wp_loop (c := cl (cl (cr (cl rb21)))) (fun a w' => RFr 247 g a ∧ Below w.heap.size w w' ∧ ∃ i : Nat, i ≤ rows.length ∧ a.tmps[7]? = some (.int .i64 (i : Int)) ∧ ∀ r, r ∈ rows.take i → zbj zau r) (fun a _ => rows.length - ctr (a.tmps[7]?)) ⟨hF0, Below.refl _ _, 0, by omega, h0, by simp⟩ ?_
 rintro a w' ⟨hF, hB, i, hi, h3, hok⟩
 have e := hF.open
 have hf : (fun i => a.tmps.getD i undef) 7 = .int .i64 (i : Int) := by
  show a.tmps.getD 7 undef = _
  rw [Array.getD_eq_getD_getElem?, h3]
  rfl
 generalize (fun i => a.tmps.getD i undef) = f' at e hf
 subst e
 have HX1 := aK (show w'.heap[g]? = some (.cells (cX x s p (fun j => .slice (A j) (n j) (c j))) 32 (0, 0)) from (hB.block g (zad HX)).trans HX)
 by_cases hil : i = rows.length
 ·refine znv w' g f' x s p A n c _ i HX1 hf (by rw [hn, hil]; simp) (fun a2 hF2 => ?_)
  show (if 4 = 4 then K .normal a2 w' else K (.exit 4) a2 w')
  rw [if_pos rfl]
  exact hyes (by rw [hil, List.take_length] at hok; exact hok) a2 w' hF2 hB
 ·have hlt : i < n 9 := by omega
  obtain ⟨ad, r, hA, hr, hc⟩ := zby (fs := zau) hrd hn.symm hlt
  have hA := aK hA
  have hmem : r ∈ rows := List.mem_of_getElem? hr
  have hcell : ∀ W, Below w'.heap.size w' W → ∀ j v, r[j]? = some v → W.cell? (ad.add (i * 4 + j)) = some v := fun W hW j v hj => by
   obtain ⟨ad', r', hA', hr', hc'⟩ := zby (fs := zau) (hrd.below (by omega) (fun r hr => zax (hfit r hr)) (hB.trans (hW.mono hB.size))) hn.symm hlt
   rw [hA.out] at hA'
   rw [hr] at hr'
   cases hA'
   cases hr'
   exact hc' j v hj
  obtain ⟨e0, e1, e2, e3, rfl⟩ := zes (hfit r hmem)
  have fail : ¬ zbj zau [.int .i64 e0, .int .i64 e1, .int .i64 e2, .int .i64 e3] → ∀ a2 w2, RFr 247 g a2 → a2.tmps[2]? = some (.bool false) → Below w'.heap.size w' w2 → K .ret a2 w2 := fun hb a2 w2 k1 k2 k3 => hno (fun h => hb (h _ hmem)) a2 w2 k1 k2 (hB.trans (k3.mono hB.size))
  refine rl_seen w' g f' x s p A n c _ i e0 e1 e2 e3 hf hlt (by omega) ad hA HX1 (aK (fun j v hj => by rw [Addr.add_add]; exact hcell w' (Below.refl _ _) j v hj)) _ _ _ (aK (fun W => ztw e2 e3 _ rfl W)) (aK (fun W => in_c _ _ _ _ rfl W)) (aK (fun W => in_c _ _ _ _ rfl W)) (fun hb => fail (fun k => hb ((zuh e0 e1 e2 e3).1 k))) (fun hb a2 w2 k1 k2 k3 => ⟨⟨k1, hB.trans (k3.mono hB.size), i + 1, by omega, k2, fun q hq => ?_⟩, ?_⟩)
  ·rw [List.take_add_one, hr] at hq
   rcases List.mem_append.1 hq with hq | hq
   ·exact hok q hq
   ·obtain rfl : q = [.int .i64 e0, .int .i64 e1, .int .i64 e2, .int .i64 e3] := by simpa using hq
    exact (zuh e0 e1 e2 e3).2 hb
  ·show rows.length - ctr (a2.tmps[7]?) < rows.length - ctr ((rfr g f').tmps[7]?)
   rw [k2, h3]
   show rows.length - (((i + 1 : Nat) : Int)).toNat < rows.length - ((i : Nat) : Int).toNat
   omega
theorem zpj (e0 : Int) (e1 : Int) (e2 : Bool) : zbj zaj [.int .i64 e0, .int .i64 e1, .bool e2] ↔ InB (e0) 0 4 = true ∧ InB (e1) 0 512 = true := by
 simp only [zbj, InF, zaj, PosB, InB, List.all_cons, List.all_nil, Bool.and_true, Bool.and_eq_true, decide_eq_true_eq, decide_eq_false_iff_not, and_true, true_and]
 constructor <;> intro h <;> omega
theorem ri_epoch (w : World) (g : Nat) (f : Nat → Value) (K : Exit → Act → World → Prop) (hK : ∀ a, RFr 247 g a → a.tmps[9]? = some (.int .i64 ((0 : Nat) : Int)) → K .normal a w) : Code.wp Try.prog (cl (cl rb27)) K (rfr g f) w := by
 unfold rfr
 have hK := aK hK
 conv => arg 2; whnf
 go_wp2_with fail
 exact hK.out _ ⟨rfl, rfl, rfl⟩ rfl
theorem lp_epoch (w : World) (g : Nat) (f : Nat → Value) (x : Nat → Int) (s : Nat → ByteArray) (p : Nat → Bool) (A : Nat → Option Addr) (n c : Nat → Nat) (K : Exit → Act → World → Prop) (HX : w.heap[g]? = some (.cells (cX x s p (fun j => .slice (A j) (n j) (c j))) 32 (0, 0))) (rows : List (List Value)) (hn : n 10 = rows.length) (hrd : ListRd w (.slice (A 10) (n 10) (c 10)) 3 rows) (hfit : ∀ r, r ∈ rows → fits zaj r) (hlen : rows.length ≤ 1048576)
  (hno : ¬ (∀ r, r ∈ rows → zbj zaj r) → ∀ a w', RFr 247 g a → a.tmps[2]? = some (.bool false) → Below w.heap.size w w' → K .ret a w')
  (hyes : (∀ r, r ∈ rows → zbj zaj r) → ∀ a w', RFr 247 g a → Below w.heap.size w w' → K .normal a w') : Code.wp Try.prog (cl rb27) K (rfr g f) w := by
 refine wp_seq (x := cl (cl rb27)) (y := cr (cl rb27)) (ri_epoch w g f _ (fun a0 hF0 h0 => ?_))
 show Code.wp Try.prog (cr (cl rb27)) K a0 w
 refine wp_block (id := 6) (c := cl (cr (cl rb27))) ?_
 refine wp_loop (c := cl (cl (cr (cl rb27)))) (fun a w' => RFr 247 g a ∧ Below w.heap.size w w' ∧ ∃ i : Nat, i ≤ rows.length ∧ a.tmps[9]? = some (.int .i64 (i : Int)) ∧ ∀ r, r ∈ rows.take i → zbj zaj r) (fun a _ => rows.length - ctr (a.tmps[9]?)) ⟨hF0, Below.refl _ _, 0, by omega, h0, by simp⟩ ?_
 rintro a w' ⟨hF, hB, i, hi, h3, hok⟩
 have e := hF.open
 have hf : (fun i => a.tmps.getD i undef) 9 = .int .i64 (i : Int) := by
  show a.tmps.getD 9 undef = _
  rw [Array.getD_eq_getD_getElem?, h3]
  rfl
 generalize (fun i => a.tmps.getD i undef) = f' at e hf
 subst e
 have HX1 := aK (show w'.heap[g]? = some (.cells (cX x s p (fun j => .slice (A j) (n j) (c j))) 32 (0, 0)) from (hB.block g (zad HX)).trans HX)
 by_cases hil : i = rows.length
 ·refine zmo w' g f' x s p A n c _ i HX1 hf (by rw [hn, hil]; simp) (fun a2 hF2 => ?_)
  show (if 6 = 6 then K .normal a2 w' else K (.exit 6) a2 w')
  rw [if_pos rfl]
  exact hyes (by rw [hil, List.take_length] at hok; exact hok) a2 w' hF2 hB
 ·have hlt : i < n 10 := by omega
  obtain ⟨ad, r, hA, hr, hc⟩ := zby (fs := zaj) hrd hn.symm hlt
  have hA := aK hA
  have hmem : r ∈ rows := List.mem_of_getElem? hr
  have hcell : ∀ W, Below w'.heap.size w' W → ∀ j v, r[j]? = some v → W.cell? (ad.add (i * 3 + j)) = some v := fun W hW j v hj => by
   obtain ⟨ad', r', hA', hr', hc'⟩ := zby (fs := zaj) (hrd.below (by omega) (fun r hr => zax (hfit r hr)) (hB.trans (hW.mono hB.size))) hn.symm hlt
   rw [hA.out] at hA'
   rw [hr] at hr'
   cases hA'
   cases hr'
   exact hc' j v hj
  obtain ⟨e0, e1, e2, rfl⟩ := zec (hfit r hmem)
  have fail : ¬ zbj zaj [.int .i64 e0, .int .i64 e1, .bool e2] → ∀ a2 w2, RFr 247 g a2 → a2.tmps[2]? = some (.bool false) → Below w'.heap.size w' w2 → K .ret a2 w2 := fun hb a2 w2 k1 k2 k3 => hno (fun h => hb (h _ hmem)) a2 w2 k1 k2 (hB.trans (k3.mono hB.size))
  refine rl_epoch w' g f' x s p A n c _ i e0 e1 e2 hf hlt (by omega) ad hA HX1 (aK (fun W hW => hcell W hW 0 _ rfl)) (aK (fun W hW => by rw [← zai _ _ _ (by omega)]; exact hcell W hW 1 _ rfl)) _ _ (aK (fun W => in_c _ _ _ _ rfl W)) (aK (fun W => in_c _ _ _ _ rfl W)) (fun hb => fail (fun k => hb ((zpj e0 e1 e2).1 k))) (fun hb a2 w2 k1 k2 k3 => ⟨⟨k1, hB.trans (k3.mono hB.size), i + 1, by omega, k2, fun q hq => ?_⟩, ?_⟩)
  ·rw [List.take_add_one, hr] at hq
   rcases List.mem_append.1 hq with hq | hq
   ·exact hok q hq
   ·obtain rfl : q = [.int .i64 e0, .int .i64 e1, .bool e2] := by simpa using hq
    exact (zpj e0 e1 e2).2 hb
  ·show rows.length - ctr (a2.tmps[9]?) < rows.length - ctr ((rfr g f').tmps[9]?)
   rw [k2, h3]
   show rows.length - (((i + 1 : Nat) : Int)).toNat < rows.length - ((i : Nat) : Int).toNat
   omega
def zcx (m : M) : Prop :=
 (InB (xi m.c 0) 1 10 = true ∧ MEq m (zbx m) ∧ InB (xi m.c 1) 0 4 = true ∧ InB (xi m.c 2) 0 64 = true ∧ PosB [(xi m.c 4, xi m.c 5), (xi m.c 11, xi m.c 12), (xi m.c 19, xi m.c 20), (xi m.c 22, xi m.c 23)] = true) ∧
 ((m.L 3).length ≤ 8 ∧ (m.L 8).length ≤ 8 ∧ (m.L 9).length ≤ 8 ∧ (m.L 10).length ≤ 64 ∧ InB (xi m.c 21) 0 15 = true) ∧
 (xi m.c 0 = 3 → InB (xi m.c 7) 1 128 = true ∧ InB (xi m.c 6) 1 (xi m.c 7) = true) ∧
 (InB (xi m.c 14) 0 9007199254740992 = true ∧ InB (xi m.c 15) 0 9007199254740992 = true ∧ (si m.c 16).size ≤ 64 ∧ (si m.c 18).size ≤ 1024 ∧ (si m.c 25).size ≤ 1024) ∧
 (∀ r, r ∈ m.L 3 → zbj zak r) ∧ (∀ r, r ∈ m.L 8 → zbj zat r) ∧ (∀ r, r ∈ m.L 9 → zbj zau r) ∧ (∀ r, r ∈ m.L 10 → zbj zaj r)
theorem ce0 {m : M} (ht : zbh m) : m.c 0 = .int .i64 (xi m.c 0) := zct ht rfl (.inr ⟨_, _, rfl⟩)
theorem ce1 {m : M} (ht : zbh m) : m.c 1 = .int .i64 (xi m.c 1) := zct ht rfl (.inr ⟨_, _, rfl⟩)
theorem ce2 {m : M} (ht : zbh m) : m.c 2 = .int .i64 (xi m.c 2) := zct ht rfl (.inr ⟨_, _, rfl⟩)
theorem ce4 {m : M} (ht : zbh m) : m.c 4 = .int .i64 (xi m.c 4) := zct ht rfl (.inr ⟨_, _, rfl⟩)
theorem ce5 {m : M} (ht : zbh m) : m.c 5 = .int .i64 (xi m.c 5) := zct ht rfl (.inr ⟨_, _, rfl⟩)
theorem ce6 {m : M} (ht : zbh m) : m.c 6 = .int .i64 (xi m.c 6) := zct ht rfl (.inr ⟨_, _, rfl⟩)
theorem ce7 {m : M} (ht : zbh m) : m.c 7 = .int .i64 (xi m.c 7) := zct ht rfl (.inr ⟨_, _, rfl⟩)
theorem ce11 {m : M} (ht : zbh m) : m.c 11 = .int .i64 (xi m.c 11) := zct ht rfl (.inr ⟨_, _, rfl⟩)
theorem ce12 {m : M} (ht : zbh m) : m.c 12 = .int .i64 (xi m.c 12) := zct ht rfl (.inr ⟨_, _, rfl⟩)
theorem ce13 {m : M} (ht : zbh m) : m.c 13 = .bool (bi m.c 13) := zhr ht rfl rfl
theorem ce14 {m : M} (ht : zbh m) : m.c 14 = .int .i64 (xi m.c 14) := zct ht rfl (.inr ⟨_, _, rfl⟩)
theorem ce15 {m : M} (ht : zbh m) : m.c 15 = .int .i64 (xi m.c 15) := zct ht rfl (.inr ⟨_, _, rfl⟩)
theorem ce16 {m : M} (ht : zbh m) : m.c 16 = .string (si m.c 16) := zmm ht rfl ⟨_, rfl⟩
theorem ce17 {m : M} (ht : zbh m) : m.c 17 = .bool (bi m.c 17) := zhr ht rfl rfl
theorem ce18 {m : M} (ht : zbh m) : m.c 18 = .string (si m.c 18) := zmm ht rfl ⟨_, rfl⟩
theorem ce19 {m : M} (ht : zbh m) : m.c 19 = .int .i64 (xi m.c 19) := zct ht rfl (.inr ⟨_, _, rfl⟩)
theorem ce20 {m : M} (ht : zbh m) : m.c 20 = .int .i64 (xi m.c 20) := zct ht rfl (.inr ⟨_, _, rfl⟩)
theorem ce21 {m : M} (ht : zbh m) : m.c 21 = .int .i64 (xi m.c 21) := zct ht rfl (.inr ⟨_, _, rfl⟩)
theorem ce22 {m : M} (ht : zbh m) : m.c 22 = .int .i64 (xi m.c 22) := zct ht rfl (.inr ⟨_, _, rfl⟩)
theorem ce23 {m : M} (ht : zbh m) : m.c 23 = .int .i64 (xi m.c 23) := zct ht rfl (.inr ⟨_, _, rfl⟩)
theorem ce24 {m : M} (ht : zbh m) : m.c 24 = .bool (bi m.c 24) := zhr ht rfl rfl
theorem ce25 {m : M} (ht : zbh m) : m.c 25 = .string (si m.c 25) := zmm ht rfl ⟨_, rfl⟩
theorem zx {m : M} {i : Nat} (e : m.c i = .int .i64 0) : xi m.c i = 0 := by unfold xi; rw [e]
theorem zs {m : M} {i : Nat} (e : m.c i = .string ⟨#[]⟩) : si m.c i = ⟨#[]⟩ := by unfold si; rw [e]
theorem in1 {m : M} {i : Nat} {a b x : Int} (e : m.c i = .int .i64 x) : zbv m (.row i [.num a b]) ↔ a ≤ x ∧ x ≤ b ∧ 0 ≤ x ∧ x ≤ 9007199254740992 := by
 simp only [zbv, zbj, InF, zaq, List.length_cons, List.length_nil, Nat.reduceAdd, e, and_true]
theorem in2 {m : M} {i : Nat} {x y : Int} (e1 : m.c i = .int .i64 x) (e2 : m.c (i + 1) = .int .i64 y) : zbv m (.row i posF) ↔ (0 ≤ x ∧ x ≤ 64 ∧ 0 ≤ x ∧ x ≤ 9007199254740992) ∧ 0 ≤ y ∧ y ≤ 512 ∧ 0 ≤ y ∧ y ≤ 9007199254740992 := by
 simp only [zbv, zbj, InF, zaq, posF, List.length_cons, List.length_nil, Nat.reduceAdd, e1, e2, and_true]
theorem inS {m : M} {i : Nat} {k : Int} {x : ByteArray} (e : m.c i = .string x) : zbv m (.row i [.text k]) ↔ (x.size : Int) ≤ k ∧ x.size ≤ 9007199254740992 := by
 simp only [zbv, zbj, InF, zaq, List.length_cons, List.length_nil, Nat.reduceAdd, e, and_true]
theorem inF {m : M} {i : Nat} {x : Bool} (e : m.c i = .bool x) : zbv m (.row i [.flag]) := by
 simp only [zbv, zbj, InF, zaq, List.length_cons, List.length_nil, Nat.reduceAdd, e, and_true]
theorem rc_1 {m : M} (ht : zbh m) (hk : m.c 0 = .int .i64 1) (hm : MEq m (zbx m)) : zcx m ↔ ∀ t, t ∈ zam 1 → zbv m t := by
 have ho : zbx m = copy m zcn (zam 1) := by unfold zbx; rw [zcb hk]
 have hm' := hm
 rw [ho] at hm'
 have hx0 : xi m.c 0 = 1 := by unfold xi; rw [hk]
 have z4 := zx (hm'.1 4 rfl)
 have z5 := zx (hm'.1 5 rfl)
 have z6 := zx (hm'.1 6 rfl)
 have z7 := zx (hm'.1 7 rfl)
 have z11 := zx (hm'.1 11 rfl)
 have z12 := zx (hm'.1 12 rfl)
 have z14 := zx (hm'.1 14 rfl)
 have z15 := zx (hm'.1 15 rfl)
 have z16 := zs (hm'.1 16 rfl)
 have z18 := zs (hm'.1 18 rfl)
 have z19 := zx (hm'.1 19 rfl)
 have z20 := zx (hm'.1 20 rfl)
 have z21 := zx (hm'.1 21 rfl)
 have z22 := zx (hm'.1 22 rfl)
 have z23 := zx (hm'.1 23 rfl)
 have z25 := zs (hm'.1 25 rfl)
 have l8 : m.L 8 = [] := hm'.2 8 zat (by simp [zah])
 have l9 : m.L 9 = [] := hm'.2 9 zau (by simp [zah])
 have l10 : m.L 10 = [] := hm'.2 10 zaj (by simp [zah])
 simp only [zcx, PosB, InB, List.all_cons, List.all_nil, Bool.and_true, Bool.and_eq_true, decide_eq_true_eq]
 constructor
 ·rintro ⟨⟨h1, h2, h3, h4, h5⟩, ⟨h6, h7, h8, h9, h10⟩, h11, ⟨h12, h13, h14, h15, h16⟩, h17, h18, h19, h20⟩ t hmem
  simp only [zam, zel, List.mem_cons, List.not_mem_nil, or_false] at hmem
  rcases hmem with rfl | rfl | rfl | rfl
  ·exact (in1 (ce0 ht)).2 (by and_intros <;> omega)
  ·exact (in1 (ce1 ht)).2 (by and_intros <;> omega)
  ·exact (in1 (ce2 ht)).2 (by and_intros <;> omega)
  ·exact ⟨by omega, by assumption⟩
 ·intro h
  have s0 := (in1 (ce0 ht)).1 (h (.row 0 [.num 1 10]) (by simp [zam, zel]))
  have s1 := (in1 (ce1 ht)).1 (h (.row 1 [.num 0 4]) (by simp [zam, zel]))
  have s2 := (in1 (ce2 ht)).1 (h (.row 2 [.num 0 64]) (by simp [zam, zel]))
  have s3 : zhs zak 8 (m.L 3) := h (.lst 3 zak 8) (by simp [zam, zel])
  obtain ⟨n3, r3⟩ := s3
  simp only [hx0, z4, z5, z6, z7, z11, z12, z14, z15, z16, z18, z19, z20, z21, z22, z23, z25, l8, l9, l10]
  refine ⟨⟨?_, hm, ?_, ?_, ?_⟩, ⟨?_, ?_, ?_, ?_, ?_⟩, ?_, ⟨?_, ?_, ?_, ?_, ?_⟩, ?_, ?_, ?_, ?_⟩
  all_goals first | omega | assumption | (intro _; omega) | (intro r hr; cases hr) | (show (0 : Nat) ≤ _; omega) | (simp; done)
theorem rc_2 {m : M} (ht : zbh m) (hk : m.c 0 = .int .i64 2) (hm : MEq m (zbx m)) : zcx m ↔ ∀ t, t ∈ zam 2 → zbv m t := by
 have ho : zbx m = copy m zcn (zam 2) := by unfold zbx; rw [zcb hk]
 have hm' := hm
 rw [ho] at hm'
 have hx0 : xi m.c 0 = 2 := by unfold xi; rw [hk]
 have z4 := zx (hm'.1 4 rfl)
 have z5 := zx (hm'.1 5 rfl)
 have z6 := zx (hm'.1 6 rfl)
 have z7 := zx (hm'.1 7 rfl)
 have z14 := zx (hm'.1 14 rfl)
 have z15 := zx (hm'.1 15 rfl)
 have z16 := zs (hm'.1 16 rfl)
 have z18 := zs (hm'.1 18 rfl)
 have z19 := zx (hm'.1 19 rfl)
 have z20 := zx (hm'.1 20 rfl)
 have z21 := zx (hm'.1 21 rfl)
 have z22 := zx (hm'.1 22 rfl)
 have z23 := zx (hm'.1 23 rfl)
 have z25 := zs (hm'.1 25 rfl)
 have l3 : m.L 3 = [] := hm'.2 3 zak (by simp [zah])
 have l8 : m.L 8 = [] := hm'.2 8 zat (by simp [zah])
 have l9 : m.L 9 = [] := hm'.2 9 zau (by simp [zah])
 have l10 : m.L 10 = [] := hm'.2 10 zaj (by simp [zah])
 simp only [zcx, PosB, InB, List.all_cons, List.all_nil, Bool.and_true, Bool.and_eq_true, decide_eq_true_eq]
 constructor
 ·rintro ⟨⟨h1, h2, h3, h4, h5⟩, ⟨h6, h7, h8, h9, h10⟩, h11, ⟨h12, h13, h14, h15, h16⟩, h17, h18, h19, h20⟩ t hmem
  simp only [zam, zfe, List.mem_cons, List.not_mem_nil, or_false] at hmem
  rcases hmem with rfl | rfl | rfl | rfl
  ·exact (in1 (ce0 ht)).2 (by and_intros <;> omega)
  ·exact (in1 (ce1 ht)).2 (by and_intros <;> omega)
  ·exact (in1 (ce2 ht)).2 (by and_intros <;> omega)
  ·exact (in2 (ce11 ht) (ce12 ht)).2 (by and_intros <;> omega)
 ·intro h
  have s0 := (in1 (ce0 ht)).1 (h (.row 0 [.num 1 10]) (by simp [zam, zfe]))
  have s1 := (in1 (ce1 ht)).1 (h (.row 1 [.num 0 4]) (by simp [zam, zfe]))
  have s2 := (in1 (ce2 ht)).1 (h (.row 2 [.num 0 64]) (by simp [zam, zfe]))
  have s11 := (in2 (ce11 ht) (ce12 ht)).1 (h (.row 11 posF) (by simp [zam, zfe]))
  simp only [hx0, z4, z5, z6, z7, z14, z15, z16, z18, z19, z20, z21, z22, z23, z25, l3, l8, l9, l10]
  refine ⟨⟨?_, hm, ?_, ?_, ?_⟩, ⟨?_, ?_, ?_, ?_, ?_⟩, ?_, ⟨?_, ?_, ?_, ?_, ?_⟩, ?_, ?_, ?_, ?_⟩
  all_goals first | omega | assumption | (intro _; omega) | (intro r hr; cases hr) | (show (0 : Nat) ≤ _; omega) | (simp; done)
theorem rc_3 {m : M} (ht : zbh m) (hk : m.c 0 = .int .i64 3) (hm : MEq m (zbx m)) : zcx m ↔ ∀ t, t ∈ zam 3 → zbv m t := by
 have ho : zbx m = copy m zcn (zam 3) := by unfold zbx; rw [zcb hk]
 have hm' := hm
 rw [ho] at hm'
 have hx0 : xi m.c 0 = 3 := by unfold xi; rw [hk]
 have z11 := zx (hm'.1 11 rfl)
 have z12 := zx (hm'.1 12 rfl)
 have z14 := zx (hm'.1 14 rfl)
 have z15 := zx (hm'.1 15 rfl)
 have z16 := zs (hm'.1 16 rfl)
 have z18 := zs (hm'.1 18 rfl)
 have z19 := zx (hm'.1 19 rfl)
 have z20 := zx (hm'.1 20 rfl)
 have z21 := zx (hm'.1 21 rfl)
 have z22 := zx (hm'.1 22 rfl)
 have z23 := zx (hm'.1 23 rfl)
 have z25 := zs (hm'.1 25 rfl)
 have l3 : m.L 3 = [] := hm'.2 3 zak (by simp [zah])
 have l10 : m.L 10 = [] := hm'.2 10 zaj (by simp [zah])
 simp only [zcx, PosB, InB, List.all_cons, List.all_nil, Bool.and_true, Bool.and_eq_true, decide_eq_true_eq]
 constructor
 ·rintro ⟨⟨h1, h2, h3, h4, h5⟩, ⟨h6, h7, h8, h9, h10⟩, h11, ⟨h12, h13, h14, h15, h16⟩, h17, h18, h19, h20⟩ t hmem
  simp only [zam, zcu, List.mem_cons, List.not_mem_nil, or_false] at hmem
  rcases hmem with rfl | rfl | rfl | rfl | rfl | rfl | rfl | rfl
  ·exact (in1 (ce0 ht)).2 (by and_intros <;> omega)
  ·exact (in1 (ce1 ht)).2 (by and_intros <;> omega)
  ·exact (in1 (ce2 ht)).2 (by and_intros <;> omega)
  ·exact (in2 (ce4 ht) (ce5 ht)).2 (by and_intros <;> omega)
  ·have h11 := h11 hx0
   exact (in1 (ce6 ht)).2 (by and_intros <;> omega)
  ·simp only [zbv, zbj, InF, zaq, ce6 ht, ce7 ht]
   have h11 := h11 hx0
   unfold zgd
   simp only []
   split <;> (and_intros <;> first | trivial | omega)
  ·exact ⟨by omega, by assumption⟩
  ·exact ⟨by omega, by assumption⟩
 ·intro h
  have s0 := (in1 (ce0 ht)).1 (h (.row 0 [.num 1 10]) (by simp [zam, zcu]))
  have s1 := (in1 (ce1 ht)).1 (h (.row 1 [.num 0 4]) (by simp [zam, zcu]))
  have s2 := (in1 (ce2 ht)).1 (h (.row 2 [.num 0 64]) (by simp [zam, zcu]))
  have s4 := (in2 (ce4 ht) (ce5 ht)).1 (h (.row 4 posF) (by simp [zam, zcu]))
  have s6 := (in1 (ce6 ht)).1 (h (.row 6 [.num 1 128]) (by simp [zam, zcu]))
  have s7 := h .most (by simp [zam, zcu])
  simp only [zbv, zbj, InF, zaq, ce6 ht, ce7 ht] at s7
  have s8 : zhs zat 8 (m.L 8) := h (.lst 8 zat 8) (by simp [zam, zcu])
  obtain ⟨n8, r8⟩ := s8
  have s9 : zhs zau 8 (m.L 9) := h (.lst 9 zau 8) (by simp [zam, zcu])
  obtain ⟨n9, r9⟩ := s9
  have hmax : zgd (.int .i64 (xi m.c 6)) = xi m.c 6 := by unfold zgd; simp only []; split <;> omega
  rw [hmax] at s7
  simp only [hx0, z11, z12, z14, z15, z16, z18, z19, z20, z21, z22, z23, z25, l3, l10]
  refine ⟨⟨?_, hm, ?_, ?_, ?_⟩, ⟨?_, ?_, ?_, ?_, ?_⟩, ?_, ⟨?_, ?_, ?_, ?_, ?_⟩, ?_, ?_, ?_, ?_⟩
  all_goals first | omega | assumption | (intro _; omega) | (intro r hr; cases hr) | (show (0 : Nat) ≤ _; omega) | (simp; done)
theorem rc_4 {m : M} (ht : zbh m) (hk : m.c 0 = .int .i64 4) (hm : MEq m (zbx m)) : zcx m ↔ ∀ t, t ∈ zam 4 → zbv m t := by
 have ho : zbx m = copy m zcn (zam 4) := by unfold zbx; rw [zcb hk]
 have hm' := hm
 rw [ho] at hm'
 have hx0 : xi m.c 0 = 4 := by unfold xi; rw [hk]
 have z1 := zx (hm'.1 1 rfl)
 have z2 := zx (hm'.1 2 rfl)
 have z4 := zx (hm'.1 4 rfl)
 have z5 := zx (hm'.1 5 rfl)
 have z6 := zx (hm'.1 6 rfl)
 have z7 := zx (hm'.1 7 rfl)
 have z11 := zx (hm'.1 11 rfl)
 have z12 := zx (hm'.1 12 rfl)
 have z14 := zx (hm'.1 14 rfl)
 have z15 := zx (hm'.1 15 rfl)
 have z16 := zs (hm'.1 16 rfl)
 have z18 := zs (hm'.1 18 rfl)
 have z19 := zx (hm'.1 19 rfl)
 have z20 := zx (hm'.1 20 rfl)
 have z21 := zx (hm'.1 21 rfl)
 have z22 := zx (hm'.1 22 rfl)
 have z23 := zx (hm'.1 23 rfl)
 have z25 := zs (hm'.1 25 rfl)
 have l3 : m.L 3 = [] := hm'.2 3 zak (by simp [zah])
 have l8 : m.L 8 = [] := hm'.2 8 zat (by simp [zah])
 have l9 : m.L 9 = [] := hm'.2 9 zau (by simp [zah])
 simp only [zcx, PosB, InB, List.all_cons, List.all_nil, Bool.and_true, Bool.and_eq_true, decide_eq_true_eq]
 constructor
 ·rintro ⟨⟨h1, h2, h3, h4, h5⟩, ⟨h6, h7, h8, h9, h10⟩, h11, ⟨h12, h13, h14, h15, h16⟩, h17, h18, h19, h20⟩ t hmem
  simp only [zam, zgc, List.mem_cons, List.not_mem_nil, or_false] at hmem
  rcases hmem with rfl | rfl
  ·exact (in1 (ce0 ht)).2 (by and_intros <;> omega)
  ·exact ⟨by omega, by assumption⟩
 ·intro h
  have s0 := (in1 (ce0 ht)).1 (h (.row 0 [.num 1 10]) (by simp [zam, zgc]))
  have s10 : zhs zaj 64 (m.L 10) := h (.lst 10 zaj 64) (by simp [zam, zgc])
  obtain ⟨n10, r10⟩ := s10
  simp only [hx0, z1, z2, z4, z5, z6, z7, z11, z12, z14, z15, z16, z18, z19, z20, z21, z22, z23, z25, l3, l8, l9]
  refine ⟨⟨?_, hm, ?_, ?_, ?_⟩, ⟨?_, ?_, ?_, ?_, ?_⟩, ?_, ⟨?_, ?_, ?_, ?_, ?_⟩, ?_, ?_, ?_, ?_⟩
  all_goals first | omega | assumption | (intro _; omega) | (intro r hr; cases hr) | (show (0 : Nat) ≤ _; omega) | (simp; done)
theorem rc_5 {m : M} (ht : zbh m) (hk : m.c 0 = .int .i64 5) (hm : MEq m (zbx m)) : zcx m ↔ ∀ t, t ∈ zam 5 → zbv m t := by
 have ho : zbx m = copy m zcn (zam 5) := by unfold zbx; rw [zcb hk]
 have hm' := hm
 rw [ho] at hm'
 have hx0 : xi m.c 0 = 5 := by unfold xi; rw [hk]
 have z4 := zx (hm'.1 4 rfl)
 have z5 := zx (hm'.1 5 rfl)
 have z6 := zx (hm'.1 6 rfl)
 have z7 := zx (hm'.1 7 rfl)
 have z14 := zx (hm'.1 14 rfl)
 have z15 := zx (hm'.1 15 rfl)
 have z16 := zs (hm'.1 16 rfl)
 have z18 := zs (hm'.1 18 rfl)
 have z19 := zx (hm'.1 19 rfl)
 have z20 := zx (hm'.1 20 rfl)
 have z21 := zx (hm'.1 21 rfl)
 have z22 := zx (hm'.1 22 rfl)
 have z23 := zx (hm'.1 23 rfl)
 have z25 := zs (hm'.1 25 rfl)
 have l3 : m.L 3 = [] := hm'.2 3 zak (by simp [zah])
 have l8 : m.L 8 = [] := hm'.2 8 zat (by simp [zah])
 have l9 : m.L 9 = [] := hm'.2 9 zau (by simp [zah])
 have l10 : m.L 10 = [] := hm'.2 10 zaj (by simp [zah])
 simp only [zcx, PosB, InB, List.all_cons, List.all_nil, Bool.and_true, Bool.and_eq_true, decide_eq_true_eq]
 constructor
 ·rintro ⟨⟨h1, h2, h3, h4, h5⟩, ⟨h6, h7, h8, h9, h10⟩, h11, ⟨h12, h13, h14, h15, h16⟩, h17, h18, h19, h20⟩ t hmem
  simp only [zam, zff, List.mem_cons, List.not_mem_nil, or_false] at hmem
  rcases hmem with rfl | rfl | rfl | rfl | rfl
  ·exact (in1 (ce0 ht)).2 (by and_intros <;> omega)
  ·exact (in1 (ce1 ht)).2 (by and_intros <;> omega)
  ·exact (in1 (ce2 ht)).2 (by and_intros <;> omega)
  ·exact (in2 (ce11 ht) (ce12 ht)).2 (by and_intros <;> omega)
  ·exact inF (ce13 ht)
 ·intro h
  have s0 := (in1 (ce0 ht)).1 (h (.row 0 [.num 1 10]) (by simp [zam, zff]))
  have s1 := (in1 (ce1 ht)).1 (h (.row 1 [.num 0 4]) (by simp [zam, zff]))
  have s2 := (in1 (ce2 ht)).1 (h (.row 2 [.num 0 64]) (by simp [zam, zff]))
  have s11 := (in2 (ce11 ht) (ce12 ht)).1 (h (.row 11 posF) (by simp [zam, zff]))
  simp only [hx0, z4, z5, z6, z7, z14, z15, z16, z18, z19, z20, z21, z22, z23, z25, l3, l8, l9, l10]
  refine ⟨⟨?_, hm, ?_, ?_, ?_⟩, ⟨?_, ?_, ?_, ?_, ?_⟩, ?_, ⟨?_, ?_, ?_, ?_, ?_⟩, ?_, ?_, ?_, ?_⟩
  all_goals first | omega | assumption | (intro _; omega) | (intro r hr; cases hr) | (show (0 : Nat) ≤ _; omega) | (simp; done)
theorem rc_6 {m : M} (ht : zbh m) (hk : m.c 0 = .int .i64 6) (hm : MEq m (zbx m)) : zcx m ↔ ∀ t, t ∈ zam 6 → zbv m t := by
 have ho : zbx m = copy m zcn (zam 6) := by unfold zbx; rw [zcb hk]
 have hm' := hm
 rw [ho] at hm'
 have hx0 : xi m.c 0 = 6 := by unfold xi; rw [hk]
 have z1 := zx (hm'.1 1 rfl)
 have z4 := zx (hm'.1 4 rfl)
 have z5 := zx (hm'.1 5 rfl)
 have z6 := zx (hm'.1 6 rfl)
 have z7 := zx (hm'.1 7 rfl)
 have z11 := zx (hm'.1 11 rfl)
 have z12 := zx (hm'.1 12 rfl)
 have z14 := zx (hm'.1 14 rfl)
 have z15 := zx (hm'.1 15 rfl)
 have z16 := zs (hm'.1 16 rfl)
 have z18 := zs (hm'.1 18 rfl)
 have z19 := zx (hm'.1 19 rfl)
 have z20 := zx (hm'.1 20 rfl)
 have z21 := zx (hm'.1 21 rfl)
 have z22 := zx (hm'.1 22 rfl)
 have z23 := zx (hm'.1 23 rfl)
 have z25 := zs (hm'.1 25 rfl)
 have l3 : m.L 3 = [] := hm'.2 3 zak (by simp [zah])
 have l8 : m.L 8 = [] := hm'.2 8 zat (by simp [zah])
 have l9 : m.L 9 = [] := hm'.2 9 zau (by simp [zah])
 have l10 : m.L 10 = [] := hm'.2 10 zaj (by simp [zah])
 simp only [zcx, PosB, InB, List.all_cons, List.all_nil, Bool.and_true, Bool.and_eq_true, decide_eq_true_eq]
 constructor
 ·rintro ⟨⟨h1, h2, h3, h4, h5⟩, ⟨h6, h7, h8, h9, h10⟩, h11, ⟨h12, h13, h14, h15, h16⟩, h17, h18, h19, h20⟩ t hmem
  simp only [zam, zhd, List.mem_cons, List.not_mem_nil, or_false] at hmem
  rcases hmem with rfl | rfl
  ·exact (in1 (ce0 ht)).2 (by and_intros <;> omega)
  ·exact (in1 (ce2 ht)).2 (by and_intros <;> omega)
 ·intro h
  have s0 := (in1 (ce0 ht)).1 (h (.row 0 [.num 1 10]) (by simp [zam, zhd]))
  have s2 := (in1 (ce2 ht)).1 (h (.row 2 [.num 0 64]) (by simp [zam, zhd]))
  simp only [hx0, z1, z4, z5, z6, z7, z11, z12, z14, z15, z16, z18, z19, z20, z21, z22, z23, z25, l3, l8, l9, l10]
  refine ⟨⟨?_, hm, ?_, ?_, ?_⟩, ⟨?_, ?_, ?_, ?_, ?_⟩, ?_, ⟨?_, ?_, ?_, ?_, ?_⟩, ?_, ?_, ?_, ?_⟩
  all_goals first | omega | assumption | (intro _; omega) | (intro r hr; cases hr) | (show (0 : Nat) ≤ _; omega) | (simp; done)
theorem rc_7 {m : M} (ht : zbh m) (hk : m.c 0 = .int .i64 7) (hm : MEq m (zbx m)) : zcx m ↔ ∀ t, t ∈ zam 7 → zbv m t := by
 have ho : zbx m = copy m zcn (zam 7) := by unfold zbx; rw [zcb hk]
 have hm' := hm
 rw [ho] at hm'
 have hx0 : xi m.c 0 = 7 := by unfold xi; rw [hk]
 have z4 := zx (hm'.1 4 rfl)
 have z5 := zx (hm'.1 5 rfl)
 have z6 := zx (hm'.1 6 rfl)
 have z7 := zx (hm'.1 7 rfl)
 have z11 := zx (hm'.1 11 rfl)
 have z12 := zx (hm'.1 12 rfl)
 have z18 := zs (hm'.1 18 rfl)
 have z21 := zx (hm'.1 21 rfl)
 have z22 := zx (hm'.1 22 rfl)
 have z23 := zx (hm'.1 23 rfl)
 have z25 := zs (hm'.1 25 rfl)
 have l3 : m.L 3 = [] := hm'.2 3 zak (by simp [zah])
 have l8 : m.L 8 = [] := hm'.2 8 zat (by simp [zah])
 have l9 : m.L 9 = [] := hm'.2 9 zau (by simp [zah])
 have l10 : m.L 10 = [] := hm'.2 10 zaj (by simp [zah])
 simp only [zcx, PosB, InB, List.all_cons, List.all_nil, Bool.and_true, Bool.and_eq_true, decide_eq_true_eq]
 constructor
 ·rintro ⟨⟨h1, h2, h3, h4, h5⟩, ⟨h6, h7, h8, h9, h10⟩, h11, ⟨h12, h13, h14, h15, h16⟩, h17, h18, h19, h20⟩ t hmem
  simp only [zam, zdr, List.mem_cons, List.not_mem_nil, or_false] at hmem
  rcases hmem with rfl | rfl | rfl | rfl | rfl | rfl | rfl
  ·exact (in1 (ce0 ht)).2 (by and_intros <;> omega)
  ·exact (in1 (ce1 ht)).2 (by and_intros <;> omega)
  ·exact (in1 (ce2 ht)).2 (by and_intros <;> omega)
  ·exact (in1 (ce14 ht)).2 (by and_intros <;> omega)
  ·exact (in1 (ce15 ht)).2 (by and_intros <;> omega)
  ·exact (inS (ce16 ht)).2 (by and_intros <;> omega)
  ·exact (in2 (ce19 ht) (ce20 ht)).2 (by and_intros <;> omega)
 ·intro h
  have s0 := (in1 (ce0 ht)).1 (h (.row 0 [.num 1 10]) (by simp [zam, zdr]))
  have s1 := (in1 (ce1 ht)).1 (h (.row 1 [.num 0 4]) (by simp [zam, zdr]))
  have s2 := (in1 (ce2 ht)).1 (h (.row 2 [.num 0 64]) (by simp [zam, zdr]))
  have s14 := (in1 (ce14 ht)).1 (h (.row 14 [.num 0 9007199254740992]) (by simp [zam, zdr]))
  have s15 := (in1 (ce15 ht)).1 (h (.row 15 [.num 0 9007199254740992]) (by simp [zam, zdr]))
  have s16 := (inS (ce16 ht)).1 (h (.row 16 [.text 64]) (by simp [zam, zdr]))
  have s19 := (in2 (ce19 ht) (ce20 ht)).1 (h (.row 19 posF) (by simp [zam, zdr]))
  simp only [hx0, z4, z5, z6, z7, z11, z12, z18, z21, z22, z23, z25, l3, l8, l9, l10]
  refine ⟨⟨?_, hm, ?_, ?_, ?_⟩, ⟨?_, ?_, ?_, ?_, ?_⟩, ?_, ⟨?_, ?_, ?_, ?_, ?_⟩, ?_, ?_, ?_, ?_⟩
  all_goals first | omega | assumption | (intro _; omega) | (intro r hr; cases hr) | (show (0 : Nat) ≤ _; omega) | (simp; done)
theorem rc_8 {m : M} (ht : zbh m) (hk : m.c 0 = .int .i64 8) (hm : MEq m (zbx m)) : zcx m ↔ ∀ t, t ∈ zam 8 → zbv m t := by
 have ho : zbx m = copy m zcn (zam 8) := by unfold zbx; rw [zcb hk]
 have hm' := hm
 rw [ho] at hm'
 have hx0 : xi m.c 0 = 8 := by unfold xi; rw [hk]
 have z4 := zx (hm'.1 4 rfl)
 have z5 := zx (hm'.1 5 rfl)
 have z6 := zx (hm'.1 6 rfl)
 have z7 := zx (hm'.1 7 rfl)
 have z11 := zx (hm'.1 11 rfl)
 have z12 := zx (hm'.1 12 rfl)
 have z21 := zx (hm'.1 21 rfl)
 have z22 := zx (hm'.1 22 rfl)
 have z23 := zx (hm'.1 23 rfl)
 have z25 := zs (hm'.1 25 rfl)
 have l3 : m.L 3 = [] := hm'.2 3 zak (by simp [zah])
 have l8 : m.L 8 = [] := hm'.2 8 zat (by simp [zah])
 have l9 : m.L 9 = [] := hm'.2 9 zau (by simp [zah])
 have l10 : m.L 10 = [] := hm'.2 10 zaj (by simp [zah])
 simp only [zcx, PosB, InB, List.all_cons, List.all_nil, Bool.and_true, Bool.and_eq_true, decide_eq_true_eq]
 constructor
 ·rintro ⟨⟨h1, h2, h3, h4, h5⟩, ⟨h6, h7, h8, h9, h10⟩, h11, ⟨h12, h13, h14, h15, h16⟩, h17, h18, h19, h20⟩ t hmem
  simp only [zam, zdl, List.mem_cons, List.not_mem_nil, or_false] at hmem
  rcases hmem with rfl | rfl | rfl | rfl | rfl | rfl | rfl | rfl | rfl
  ·exact (in1 (ce0 ht)).2 (by and_intros <;> omega)
  ·exact (in1 (ce1 ht)).2 (by and_intros <;> omega)
  ·exact (in1 (ce2 ht)).2 (by and_intros <;> omega)
  ·exact (in1 (ce14 ht)).2 (by and_intros <;> omega)
  ·exact (in1 (ce15 ht)).2 (by and_intros <;> omega)
  ·exact (inS (ce16 ht)).2 (by and_intros <;> omega)
  ·exact inF (ce17 ht)
  ·exact (inS (ce18 ht)).2 (by and_intros <;> omega)
  ·exact (in2 (ce19 ht) (ce20 ht)).2 (by and_intros <;> omega)
 ·intro h
  have s0 := (in1 (ce0 ht)).1 (h (.row 0 [.num 1 10]) (by simp [zam, zdl]))
  have s1 := (in1 (ce1 ht)).1 (h (.row 1 [.num 0 4]) (by simp [zam, zdl]))
  have s2 := (in1 (ce2 ht)).1 (h (.row 2 [.num 0 64]) (by simp [zam, zdl]))
  have s14 := (in1 (ce14 ht)).1 (h (.row 14 [.num 0 9007199254740992]) (by simp [zam, zdl]))
  have s15 := (in1 (ce15 ht)).1 (h (.row 15 [.num 0 9007199254740992]) (by simp [zam, zdl]))
  have s16 := (inS (ce16 ht)).1 (h (.row 16 [.text 64]) (by simp [zam, zdl]))
  have s18 := (inS (ce18 ht)).1 (h (.row 18 [.text 1024]) (by simp [zam, zdl]))
  have s19 := (in2 (ce19 ht) (ce20 ht)).1 (h (.row 19 posF) (by simp [zam, zdl]))
  simp only [hx0, z4, z5, z6, z7, z11, z12, z21, z22, z23, z25, l3, l8, l9, l10]
  refine ⟨⟨?_, hm, ?_, ?_, ?_⟩, ⟨?_, ?_, ?_, ?_, ?_⟩, ?_, ⟨?_, ?_, ?_, ?_, ?_⟩, ?_, ?_, ?_, ?_⟩
  all_goals first | omega | assumption | (intro _; omega) | (intro r hr; cases hr) | (show (0 : Nat) ≤ _; omega) | (simp; done)
theorem rc_9 {m : M} (ht : zbh m) (hk : m.c 0 = .int .i64 9) (hm : MEq m (zbx m)) : zcx m ↔ ∀ t, t ∈ zam 9 → zbv m t := by
 have ho : zbx m = copy m zcn (zam 9) := by unfold zbx; rw [zcb hk]
 have hm' := hm
 rw [ho] at hm'
 have hx0 : xi m.c 0 = 9 := by unfold xi; rw [hk]
 have z4 := zx (hm'.1 4 rfl)
 have z5 := zx (hm'.1 5 rfl)
 have z6 := zx (hm'.1 6 rfl)
 have z7 := zx (hm'.1 7 rfl)
 have z16 := zs (hm'.1 16 rfl)
 have z18 := zs (hm'.1 18 rfl)
 have l3 : m.L 3 = [] := hm'.2 3 zak (by simp [zah])
 have l8 : m.L 8 = [] := hm'.2 8 zat (by simp [zah])
 have l9 : m.L 9 = [] := hm'.2 9 zau (by simp [zah])
 have l10 : m.L 10 = [] := hm'.2 10 zaj (by simp [zah])
 simp only [zcx, PosB, InB, List.all_cons, List.all_nil, Bool.and_true, Bool.and_eq_true, decide_eq_true_eq]
 constructor
 ·rintro ⟨⟨h1, h2, h3, h4, h5⟩, ⟨h6, h7, h8, h9, h10⟩, h11, ⟨h12, h13, h14, h15, h16⟩, h17, h18, h19, h20⟩ t hmem
  simp only [zam, zdc, List.mem_cons, List.not_mem_nil, or_false] at hmem
  rcases hmem with rfl | rfl | rfl | rfl | rfl | rfl | rfl | rfl | rfl
  ·exact (in1 (ce0 ht)).2 (by and_intros <;> omega)
  ·exact (in1 (ce1 ht)).2 (by and_intros <;> omega)
  ·exact (in1 (ce2 ht)).2 (by and_intros <;> omega)
  ·exact (in1 (ce14 ht)).2 (by and_intros <;> omega)
  ·exact (in1 (ce15 ht)).2 (by and_intros <;> omega)
  ·exact (in1 (ce21 ht)).2 (by and_intros <;> omega)
  ·simp only [zbv, zbj, InF, zaq, posF, zdm, List.length_cons, List.length_nil, Nat.reduceAdd, ce22 ht, ce23 ht, ce24 ht, ce25 ht]
   and_intros <;> first | trivial | omega
  ·exact (in2 (ce11 ht) (ce12 ht)).2 (by and_intros <;> omega)
  ·exact (in2 (ce19 ht) (ce20 ht)).2 (by and_intros <;> omega)
 ·intro h
  have s0 := (in1 (ce0 ht)).1 (h (.row 0 [.num 1 10]) (by simp [zam, zdc]))
  have s1 := (in1 (ce1 ht)).1 (h (.row 1 [.num 0 4]) (by simp [zam, zdc]))
  have s2 := (in1 (ce2 ht)).1 (h (.row 2 [.num 0 64]) (by simp [zam, zdc]))
  have s14 := (in1 (ce14 ht)).1 (h (.row 14 [.num 0 9007199254740992]) (by simp [zam, zdc]))
  have s15 := (in1 (ce15 ht)).1 (h (.row 15 [.num 0 9007199254740992]) (by simp [zam, zdc]))
  have s21 := (in1 (ce21 ht)).1 (h (.row 21 [.num 0 15]) (by simp [zam, zdc]))
  have s22 := h (.row 22 zdm) (by simp [zam, zdc])
  simp only [zbv, zbj, InF, zaq, posF, zdm, List.length_cons, List.length_nil, Nat.reduceAdd, ce22 ht, ce23 ht, ce24 ht, ce25 ht] at s22
  have s11 := (in2 (ce11 ht) (ce12 ht)).1 (h (.row 11 posF) (by simp [zam, zdc]))
  have s19 := (in2 (ce19 ht) (ce20 ht)).1 (h (.row 19 posF) (by simp [zam, zdc]))
  simp only [hx0, z4, z5, z6, z7, z16, z18, l3, l8, l9, l10]
  refine ⟨⟨?_, hm, ?_, ?_, ?_⟩, ⟨?_, ?_, ?_, ?_, ?_⟩, ?_, ⟨?_, ?_, ?_, ?_, ?_⟩, ?_, ?_, ?_, ?_⟩
  all_goals first | omega | assumption | (intro _; omega) | (intro r hr; cases hr) | (show (0 : Nat) ≤ _; omega) | (simp; done)
theorem rc_10 {m : M} (ht : zbh m) (hk : m.c 0 = .int .i64 10) (hm : MEq m (zbx m)) : zcx m ↔ ∀ t, t ∈ zam 10 → zbv m t := by
 have ho : zbx m = copy m zcn (zam 10) := by unfold zbx; rw [zcb hk]
 have hm' := hm
 rw [ho] at hm'
 have hx0 : xi m.c 0 = 10 := by unfold xi; rw [hk]
 have z6 := zx (hm'.1 6 rfl)
 have z7 := zx (hm'.1 7 rfl)
 have z11 := zx (hm'.1 11 rfl)
 have z12 := zx (hm'.1 12 rfl)
 have z16 := zs (hm'.1 16 rfl)
 have z18 := zs (hm'.1 18 rfl)
 have z22 := zx (hm'.1 22 rfl)
 have z23 := zx (hm'.1 23 rfl)
 have z25 := zs (hm'.1 25 rfl)
 have l3 : m.L 3 = [] := hm'.2 3 zak (by simp [zah])
 have l8 : m.L 8 = [] := hm'.2 8 zat (by simp [zah])
 have l9 : m.L 9 = [] := hm'.2 9 zau (by simp [zah])
 have l10 : m.L 10 = [] := hm'.2 10 zaj (by simp [zah])
 simp only [zcx, PosB, InB, List.all_cons, List.all_nil, Bool.and_true, Bool.and_eq_true, decide_eq_true_eq]
 constructor
 ·rintro ⟨⟨h1, h2, h3, h4, h5⟩, ⟨h6, h7, h8, h9, h10⟩, h11, ⟨h12, h13, h14, h15, h16⟩, h17, h18, h19, h20⟩ t hmem
  simp only [zam, zcq, List.mem_cons, List.not_mem_nil, or_false] at hmem
  rcases hmem with rfl | rfl | rfl | rfl | rfl | rfl | rfl | rfl
  ·exact (in1 (ce0 ht)).2 (by and_intros <;> omega)
  ·exact (in1 (ce1 ht)).2 (by and_intros <;> omega)
  ·exact (in1 (ce2 ht)).2 (by and_intros <;> omega)
  ·exact (in1 (ce14 ht)).2 (by and_intros <;> omega)
  ·exact (in1 (ce15 ht)).2 (by and_intros <;> omega)
  ·exact (in1 (ce21 ht)).2 (by and_intros <;> omega)
  ·exact (in2 (ce4 ht) (ce5 ht)).2 (by and_intros <;> omega)
  ·exact (in2 (ce19 ht) (ce20 ht)).2 (by and_intros <;> omega)
 ·intro h
  have s0 := (in1 (ce0 ht)).1 (h (.row 0 [.num 1 10]) (by simp [zam, zcq]))
  have s1 := (in1 (ce1 ht)).1 (h (.row 1 [.num 0 4]) (by simp [zam, zcq]))
  have s2 := (in1 (ce2 ht)).1 (h (.row 2 [.num 0 64]) (by simp [zam, zcq]))
  have s14 := (in1 (ce14 ht)).1 (h (.row 14 [.num 0 9007199254740992]) (by simp [zam, zcq]))
  have s15 := (in1 (ce15 ht)).1 (h (.row 15 [.num 0 9007199254740992]) (by simp [zam, zcq]))
  have s21 := (in1 (ce21 ht)).1 (h (.row 21 [.num 0 15]) (by simp [zam, zcq]))
  have s4 := (in2 (ce4 ht) (ce5 ht)).1 (h (.row 4 posF) (by simp [zam, zcq]))
  have s19 := (in2 (ce19 ht) (ce20 ht)).1 (h (.row 19 posF) (by simp [zam, zcq]))
  simp only [hx0, z6, z7, z11, z12, z16, z18, z22, z23, z25, l3, l8, l9, l10]
  refine ⟨⟨?_, hm, ?_, ?_, ?_⟩, ⟨?_, ?_, ?_, ?_, ?_⟩, ?_, ⟨?_, ?_, ?_, ?_, ?_⟩, ?_, ?_, ?_, ?_⟩
  all_goals first | omega | assumption | (intro _; omega) | (intro r hr; cases hr) | (show (0 : Nat) ≤ _; omega) | (simp; done)
theorem zui {m : M} (ht : zbh m) (hf : Fit m) : zcx m ↔ zdk m := by
 rw [zmr ht hf]
 obtain ⟨n, hn⟩ : ∃ x, m.c 0 = .int .i64 x := ht 0 rfl
 have hx : xi m.c 0 = n := by unfold xi; rw [hn]
 unfold zlg
 rw [zcb hn]
 by_cases hk : 1 ≤ n ∧ n ≤ 10
 ·by_cases hm : MEq m (zbx m)
  ·have key : zcx m ↔ ∀ t, t ∈ zam n → zbv m t := by
    rcases in_10 hk with rfl | rfl | rfl | rfl | rfl | rfl | rfl | rfl | rfl | rfl
    ·exact rc_1 ht hn hm
    ·exact rc_2 ht hn hm
    ·exact rc_3 ht hn hm
    ·exact rc_4 ht hn hm
    ·exact rc_5 ht hn hm
    ·exact rc_6 ht hn hm
    ·exact rc_7 ht hn hm
    ·exact rc_8 ht hn hm
    ·exact rc_9 ht hn hm
    ·exact rc_10 ht hn hm
   rw [key]
   exact ⟨fun h => ⟨⟨hk, h⟩, hm⟩, fun h => h.1.2⟩
  ·exact ⟨fun h => absurd h.1.2.1 hm, fun h => absurd h.2 hm⟩
 ·refine ⟨fun h => absurd ?_ hk, fun h => absurd h.1.1 hk⟩
  have := h.1.1
  rw [hx] at this
  simpa [InB] using this
theorem r1_cond (w : World) (g : Nat) (f : Nat → Value) (K : Exit → Act → World → Prop) (b : Bool) (h : f 46 = .bool b)
  (hno : b = true → ∀ a, RFr 247 g a → a.tmps[2]? = some (.bool false) → K .ret a w) (hyes : b = false → ∀ a, RFr 247 g a → K .normal a w) : Code.wp Try.prog (cr (cl rb1)) K (rfr g f) w := by
 cases b
 ·have hK := aK (hyes rfl)
  clear hno hyes
  unfold rfr
  rw [h]
  conv => arg 2; whnf
  go_wp2_with fail
  exact hK.out _ ⟨rfl, rfl, rfl⟩
 ·have hK := aK (hno rfl)
  clear hno hyes
  unfold rfr
  rw [h]
  conv => arg 2; whnf
  go_wp2_with fail
  exact hK.out _ ⟨rfl, rfl, rfl⟩ rfl
theorem r32_c (w : World) (g : Nat) (f : Nat → Value) (K : Exit → Act → World → Prop) (hK : ∀ a, RFr 247 g a → a.tmps[2]? = some (.bool true) → K .ret a w) : Code.wp Try.prog rb32 K (rfr g f) w := by
 have hK := aK hK
 unfold rfr
 conv => arg 2; whnf
 go_wp2_with fail
 exact hK.out _ ⟨rfl, rfl, rfl⟩ rfl
theorem zuj {g : Nat} {a : Act} {w' : World} {post : Ending → World → Prop} (hF : RFr 247 g a) {b : Bool} (h2 : a.tmps[2]? = some (.bool b)) (hp : post (.returned (.bool b)) w') : bodyPost Try.prog Try.f21 post .ret a w' := by
 refine bodyPost_ret (results_tmp (t := 2) rfl a.tmps _ w') hF.2.2 ?_
 rw [Array.getD_eq_getD_getElem?, h2]
 exact hp
theorem RFr.wp {g : Nat} {a : Act} {w : World} {c : Code} {Q : Exit → Act → World → Prop} (h : RFr 247 g a) (hw : ∀ f, (∀ i v, a.tmps[i]? = some v → f i = v) → c.wp Try.prog Q (rfr g f) w) : c.wp Try.prog Q a w := by
 rw [h.open]
 exact hw _ (fun i v hv => by rw [Array.getD_eq_getD_getElem?, hv]; rfl)
theorem r0_c (w : World) (cs : Array Value) (K : Exit → Act → World → Prop) (hK : ∀ g a w', w'.heap[g]? = some (.cells cs 32 (0, 0)) → RFr 247 g a → Below w.heap.size w w' → K .normal a w') :
  Code.wp Try.prog (cl rb0) K ⟨#[.agg cs] ++ Array.replicate (Try.f21.ntmps - (#[Value.agg cs] : Array Value).size) undef, []⟩ w := by
 simp only [Try.ntmps21, List.size_toArray, List.length_cons, List.length_nil, Nat.reduceAdd, Nat.reduceSub, Array.replicate_succ,
  Array.replicate_zero, List.push_toArray, List.append_toArray, List.nil_append, List.cons_append]
 have hK := aK hK
 conv => arg 2; whnf
 go_wp2_with (first | ((with_reducible refine zag (N := 1) rfl ?_); refine zbf rfl 32 (.tmp 0) rfl cs rfl ?_; intro g1 w1 hg hbox hb; have HB1 := aK hb; have HX1 := aK hbox; clear hb hg hbox))
 exact hK.out g1 _ _ HX1.out ⟨rfl, rfl, rfl⟩ HB1.out
theorem zkc {m : M} (hm : zbh m) : ∀ (ts : List Step) (a : M), zbh a → zbh (copy m a ts)
 | [], a, h => h
 | t :: ts, a, h => zkc hm ts _ (by
   cases t with
   | row i fs => exact zhc h hm i fs.length
   | most => exact zhc h hm 7 1
   | lst j fs n => exact h)
theorem zqr {m : M} (hm : zbh m) : zbh (zbx m) := zkc hm _ _ zea
theorem only_rd {w w' : World} {v : Value} {m : M} {sv so : Nat → Value} (h : MsgRd w v m sv) (hB : Below w.heap.size w w') (hs : ∀ j fs, (j, fs) ∈ zah → (so j = sv j ∧ (zbx m).L j = m.L j) ∨ (so j = .slice none 0 0 ∧ (zbx m).L j = [])) : MsgRd w' (.agg (msgC (zbx m).c so)) (zbx m) so :=
 ⟨rfl, zqr h.typed, (fun j fs hj r hr => by
  rcases hs j fs hj with ⟨_, e⟩ | ⟨_, e⟩
  ·rw [e] at hr; exact h.fit j fs hj r hr
  ·rw [e] at hr; exact absurd hr (List.not_mem_nil)),
 (fun j fs hj => by
  rcases hs j fs hj with ⟨e1, e2⟩ | ⟨e1, e2⟩
  ·rw [e1, e2]; exact (h.below hB).rd j fs hj
  ·rw [e1, e2]; exact ⟨none, 0, rfl, fun _ => rfl, fun k => absurd rfl k⟩)⟩
def sA : Value → Option Addr | .slice a _ _ => a | _ => none
def sC : Value → Nat | .slice _ _ c => c | _ => 0
theorem zqs (w : World) (va : Value) (m : M) (sv : Nat → Value) (h : MsgRd w va m sv) (hs : ∀ j, (m.L j).length ≤ 1048576) (hso : ∀ j, ((zbx m).L j).length ≤ 1048576) :
  Calls Try.prog 21 #[va] w (zgj (zdk m) w) := by
 have ht := h.typed
 have hf := h.fit
 have hr : ∀ j fs, (j, fs) ∈ zah → sv j = .slice (sA (sv j)) (m.L j).length (sC (sv j)) := fun j fs hj => by
  obtain ⟨a, c, e, _⟩ := h.rd j fs hj
  rw [e]; rfl
 have e : va = .agg (cX (xi m.c) (si m.c) (bi m.c) (fun j => .slice (sA (sv j)) (m.L j).length (sC (sv j)))) := by
  rw [h.eq]
  unfold msgV
  rw [zpa ht]
  unfold cX
  rw [hr 3 zak (by simp [zah]), hr 8 zat (by simp [zah]), hr 9 zau (by simp [zah]), hr 10 zaj (by simp [zah])]
 have hrd : ∀ W, Below w.heap.size w W → ∀ j fs, (j, fs) ∈ zah → ListRd W (.slice (sA (sv j)) (m.L j).length (sC (sv j))) fs.length (m.L j) := fun W hW j fs hj => by
  have := (h.below hW).rd j fs hj
  rwa [hr j fs hj] at this
 obtain ⟨r2, hr2⟩ := zgk (MEq m (zbx m))
 have hO : InB (xi m.c 0) 1 10 = true → ∀ W, Below w.heap.size w W → Calls Try.prog 48 #[va] W (fun e w' => ∃ vo, e = .returned vo ∧ Below W.heap.size W w' ∧ ∀ W', Below w'.heap.size w' W' → Calls Try.prog 15 #[va, vo] W' (fun e w'' => e = .returned (.bool r2) ∧ Below W'.heap.size W' w'')) := fun hk W hW => by
  have hk' : 1 ≤ zbs m ∧ zbs m ≤ 10 := by
   obtain ⟨n, hn⟩ : ∃ x, m.c 0 = .int .i64 x := ht 0 rfl
   rw [zcb hn]
   have : xi m.c 0 = n := by unfold xi; rw [hn]
   rw [this] at hk
   simpa [InB] using hk
  refine (only_c W va m sv (h.below hW) hk').mono ?_
  rintro e w' ⟨so, rfl, hB, hso'⟩
  refine ⟨_, rfl, hB, fun W' hW' => ?_⟩
  refine (zjf W' va _ m (zbx m) sv so (h.below (hW.trans ((hB.trans (hW'.mono hB.size)).mono hW.size))) (only_rd (h.below hW) (hB.trans (hW'.mono hB.size)) hso') hs hso).mono ?_
  rintro e w'' ⟨r, rfl, hr, hB2⟩
  refine ⟨?_, hB2⟩
  have : r = r2 := by
   cases r <;> cases r2 <;> first | rfl | (exact (hr.2 (hr2.1 rfl)).symm ▸ rfl) | (exact absurd (hr2.2 (hr.1 rfl)) (by decide))
  rw [this]
 have hiff := zui ht hf
 rw [e] at hO ⊢
 generalize hx : xi m.c = x at *
 generalize hsx : si m.c = s at *
 generalize hp : bi m.c = p at *
 clear e h hr
 refine calls_of_wp (c := rb0) Try.func21 rfl ?_
 refine wp_seq (x := cl rb0) (y := rb1) (r0_c w _ _ (fun g a1 w1 hX1 hF1 hB1 => ?_))
 show rb1.wp Try.prog _ a1 w1
 have hB1' := hB1
 have HX : ∀ W, Below w1.heap.size w1 W → W.heap[g]? = some (.cells (cX x s p (fun j => .slice (sA (sv j)) (m.L j).length (sC (sv j)))) 32 (0, 0)) := fun W hW => (hW.block g (zad hX1)).trans hX1
 have no : ¬ zcx m → ∀ a w', RFr 247 g a → a.tmps[2]? = some (.bool false) → Below w1.heap.size w1 w' → bodyPost Try.prog Try.f21 (zgj (zdk m) w) .ret a w' := fun hc a w' k1 k2 k3 =>
  zuj k1 k2 ⟨false, rfl, ⟨fun k => (by cases k), fun k => absurd (hiff.2 k) hc⟩, hB1.trans (k3.mono hB1.size)⟩
 have yes : zcx m → ∀ a w', RFr 247 g a → a.tmps[2]? = some (.bool true) → Below w1.heap.size w1 w' → bodyPost Try.prog Try.f21 (zgj (zdk m) w) .ret a w' := fun hc a w' k1 k2 k3 =>
  zuj k1 k2 ⟨true, rfl, ⟨fun k => hiff.1 hc, fun _ => rfl⟩, hB1.trans (k3.mono hB1.size)⟩
 have hP : ∀ c a d v w', bodyPost Try.prog Try.f21 (zgj (zdk m) w) (.panic c) (a.put d v) w' → bodyPost Try.prog Try.f21 (zgj (zdk m) w) (.panic c) a w' := fun c a d v w' k => by cases d <;> exact k
 generalize bodyPost Try.prog Try.f21 (zgj (zdk m) w) = Q at no yes hP ⊢
 clear hiff hB1
 have T32 : zcx m → ∀ a w', RFr 247 g a → Below w1.heap.size w1 w' → rb32.wp Try.prog Q a w' := fun hc a w' hF hB => hF.wp (fun f _ => r32_c w' g f Q (fun a k1 k2 => yes hc a w' k1 k2 hB))
 have T27 : (zcx m ↔ (∀ r, r ∈ m.L 10 → zbj zaj r)) → ∀ a w', RFr 247 g a → Below w1.heap.size w1 w' → rb27.wp Try.prog Q a w' := fun hP a w' hF hB => hF.wp (fun f _ => wp_seq (x := cl rb27) (y := rb32) (lp_epoch w' g f x s p _ _ _ _ (HX w' hB) (m.L 10) rfl (hrd w' (hB1'.trans (hB.mono hB1'.size)) 10 zaj (by simp [zah])) (hf 10 zaj (by simp [zah])) (hs 10)
  (fun hb a2 w2 k1 k2 k3 => no (fun k => hb (hP.1 k)) a2 w2 k1 k2 (hB.trans (k3.mono hB.size)))
  (fun hb a2 w2 k1 k3 => T32 (hP.2 hb) a2 w2 k1 (hB.trans (k3.mono hB.size)))))
 have T21 : (zcx m ↔ (∀ r, r ∈ m.L 9 → zbj zau r) ∧ (∀ r, r ∈ m.L 10 → zbj zaj r)) → ∀ a w', RFr 247 g a → Below w1.heap.size w1 w' → rb21.wp Try.prog Q a w' := fun hP a w' hF hB => hF.wp (fun f _ => wp_seq (x := cl rb21) (y := rb27) (lp_seen w' g f x s p _ _ _ _ (HX w' hB) (m.L 9) rfl (hrd w' (hB1'.trans (hB.mono hB1'.size)) 9 zau (by simp [zah])) (hf 9 zau (by simp [zah])) (hs 9)
  (fun hb a2 w2 k1 k2 k3 => no (fun k => hb (hP.1 k).1) a2 w2 k1 k2 (hB.trans (k3.mono hB.size)))
  (fun hb a2 w2 k1 k3 => T27 (hP.trans (and_iff_right hb)) a2 w2 k1 (hB.trans (k3.mono hB.size)))))
 have T15 : (zcx m ↔ (∀ r, r ∈ m.L 8 → zbj zat r) ∧ (∀ r, r ∈ m.L 9 → zbj zau r) ∧ (∀ r, r ∈ m.L 10 → zbj zaj r)) → ∀ a w', RFr 247 g a → Below w1.heap.size w1 w' → rb15.wp Try.prog Q a w' := fun hP a w' hF hB => hF.wp (fun f _ => wp_seq (x := cl rb15) (y := rb21) (lp_pair w' g f x s p _ _ _ _ (HX w' hB) (m.L 8) rfl (hrd w' (hB1'.trans (hB.mono hB1'.size)) 8 zat (by simp [zah])) (hf 8 zat (by simp [zah])) (hs 8)
  (fun hb a2 w2 k1 k2 k3 => no (fun k => hb (hP.1 k).1) a2 w2 k1 k2 (hB.trans (k3.mono hB.size)))
  (fun hb a2 w2 k1 k3 => T21 (hP.trans (and_iff_right hb)) a2 w2 k1 (hB.trans (k3.mono hB.size)))))
 have T9 : (zcx m ↔ (∀ r, r ∈ m.L 3 → zbj zak r) ∧ (∀ r, r ∈ m.L 8 → zbj zat r) ∧ (∀ r, r ∈ m.L 9 → zbj zau r) ∧ (∀ r, r ∈ m.L 10 → zbj zaj r)) → ∀ a w', RFr 247 g a → Below w1.heap.size w1 w' → rb9.wp Try.prog Q a w' := fun hP a w' hF hB => hF.wp (fun f _ => wp_seq (x := cl rb9) (y := rb15) (lp_entry w' g f x s p _ _ _ _ (HX w' hB) (m.L 3) rfl (hrd w' (hB1'.trans (hB.mono hB1'.size)) 3 zak (by simp [zah])) (hf 3 zak (by simp [zah])) (hs 3)
  (fun hb a2 w2 k1 k2 k3 => no (fun k => hb (hP.1 k).1) a2 w2 k1 k2 (hB.trans (k3.mono hB.size)))
  (fun hb a2 w2 k1 k3 => T15 (hP.trans (and_iff_right hb)) a2 w2 k1 (hB.trans (k3.mono hB.size)))))
 have T7 : (zcx m ↔ (InB (x 14) 0 9007199254740992 = true ∧ InB (x 15) 0 9007199254740992 = true ∧ (s 16).size ≤ 64 ∧ (s 18).size ≤ 1024 ∧ (s 25).size ≤ 1024) ∧ (∀ r, r ∈ m.L 3 → zbj zak r) ∧ (∀ r, r ∈ m.L 8 → zbj zat r) ∧ (∀ r, r ∈ m.L 9 → zbj zau r) ∧ (∀ r, r ∈ m.L 10 → zbj zaj r)) → ∀ a w', RFr 247 g a → Below w1.heap.size w1 w' → rb7.wp Try.prog Q a w' := fun hP a w' hF hB => hF.wp (fun f _ => wp_seq (x := cl rb7) (y := rb9) (by
  refine r7 w' g f x s p _ _ _ _ (aK (HX w' hB)) _ _ _ _ _ (aK (fun W => in_c _ _ _ _ rfl W)) (aK (fun W => in_c _ _ _ _ rfl W)) rfl rfl rfl (fun hb a2 w2 k1 k2 k3 => no (fun k => hb ?_) a2 w2 k1 k2 (hB.trans (k3.mono hB.size))) (fun hb a2 w2 k1 k3 => T9 (hP.trans (and_iff_right ?_)) a2 w2 k1 (hB.trans (k3.mono hB.size)))
  ·have k := (hP.1 k).1
   simp only [decide_eq_false_iff_not] at *
   and_intros <;> first | exact k.1 | exact k.2.1 | exact k.2.2.2.2 | omega
  ·simp only [decide_eq_false_iff_not] at hb
   and_intros <;> first | exact hb.1 | exact hb.2.1 | exact hb.2.2.2.2 | omega))
 have T5 : (zcx m ↔ (x 0 = 3 → InB (x 7) 1 128 = true ∧ InB (x 6) 1 (x 7) = true) ∧ (InB (x 14) 0 9007199254740992 = true ∧ InB (x 15) 0 9007199254740992 = true ∧ (s 16).size ≤ 64 ∧ (s 18).size ≤ 1024 ∧ (s 25).size ≤ 1024) ∧ (∀ r, r ∈ m.L 3 → zbj zak r) ∧ (∀ r, r ∈ m.L 8 → zbj zat r) ∧ (∀ r, r ∈ m.L 9 → zbj zau r) ∧ (∀ r, r ∈ m.L 10 → zbj zaj r)) → ∀ a w', RFr 247 g a → Below w1.heap.size w1 w' → rb5.wp Try.prog Q a w' := fun hP a w' hF hB => hF.wp (fun f _ => wp_seq (x := cl rb5) (y := rb7) (by
  refine r5 w' g f x s p _ _ _ _ (aK (HX w' hB)) _ _ _ rfl (aK (fun W => in_c _ _ _ _ rfl W)) (aK (fun W => in_c _ _ _ _ rfl W)) (fun hb a2 w2 k1 k2 k3 => no (fun k => hb ?_) a2 w2 k1 k2 (hB.trans (k3.mono hB.size))) (fun hb a2 w2 k1 k3 => T7 (hP.trans (and_iff_right ?_)) a2 w2 k1 (hB.trans (k3.mono hB.size)))
  ·exact fun h => (hP.1 k).1 (by simpa using h)
  ·exact fun h => hb (by simpa using h)))
 have T3 : (zcx m ↔ ((m.L 3).length ≤ 8 ∧ (m.L 8).length ≤ 8 ∧ (m.L 9).length ≤ 8 ∧ (m.L 10).length ≤ 64 ∧ InB (x 21) 0 15 = true) ∧ (x 0 = 3 → InB (x 7) 1 128 = true ∧ InB (x 6) 1 (x 7) = true) ∧ (InB (x 14) 0 9007199254740992 = true ∧ InB (x 15) 0 9007199254740992 = true ∧ (s 16).size ≤ 64 ∧ (s 18).size ≤ 1024 ∧ (s 25).size ≤ 1024) ∧ (∀ r, r ∈ m.L 3 → zbj zak r) ∧ (∀ r, r ∈ m.L 8 → zbj zat r) ∧ (∀ r, r ∈ m.L 9 → zbj zau r) ∧ (∀ r, r ∈ m.L 10 → zbj zaj r)) → ∀ a w', RFr 247 g a → Below w1.heap.size w1 w' → rb3.wp Try.prog Q a w' := fun hP a w' hF hB => hF.wp (fun f _ => wp_seq (x := cl rb3) (y := rb5) (by
  refine r3 w' g f x s p _ _ _ _ (aK (HX w' hB)) _ _ _ _ _ rfl rfl rfl rfl (aK (fun W => in_c _ _ _ _ rfl W)) (fun hb a2 w2 k1 k2 k3 => no (fun k => hb ?_) a2 w2 k1 k2 (hB.trans (k3.mono hB.size))) (fun hb a2 w2 k1 k3 => T5 (hP.trans (and_iff_right ?_)) a2 w2 k1 (hB.trans (k3.mono hB.size)))
  ·have k := (hP.1 k).1
   simp only [decide_eq_false_iff_not] at *
   and_intros <;> first | exact k.1 | exact k.2.1 | exact k.2.2.2.2 | omega
  ·simp only [decide_eq_false_iff_not] at hb
   and_intros <;> first | exact hb.1 | exact hb.2.1 | exact hb.2.2.2.2 | omega))
 refine hF1.wp (fun f _ => wp_seq (x := cl rb1) (y := rb3) (wp_seq (x := rR1) (y := cr (cl rb1)) (r1_any w1 g f x s p _ _ _ _ (fun c a d v w' k => hP c a d v w' k) hX1 _ r2 _ _ _ rfl rfl rfl rfl (fun hk W hW => hO hk W (hB1'.trans (hW.mono hB1'.size))) (fun a w' hF h46 hB => ?_))))
 refine hF.wp (fun f hf => r1_cond w' g f _ _ (hf 46 _ h46) (fun hb a k1 k2 => no (fun k => ?_) a w' k1 k2 hB) (fun hb a k1 => T3 ?_ a w' k1 hB))
 ·obtain ⟨⟨k1, k2, k3, k4, k5⟩, _⟩ := k
  rw [hx] at k1 k3 k4 k5
  rw [k1, k3, k4, k5, hr2.2 k2] at hb
  cases hb
 ·have hb' : (InB (x 0) 1 10 && r2 && InB (x 1) 0 4 && InB (x 2) 0 64 && PosB [(x 4, x 5), (x 11, x 12), (x 19, x 20), (x 22, x 23)]) = true := by simpa using hb
  simp only [Bool.and_eq_true] at hb'
  obtain ⟨⟨⟨⟨b1, b2⟩, b3⟩, b4⟩, b5⟩ := hb'
  unfold zcx
  rw [hx, hsx]
  exact and_iff_right ⟨b1, hr2.1 b2, b3, b4, b5⟩
abbrev It := PRf.S98
def iN (n : Int) : It := ⟨0, n, ⟨#[]⟩⟩
def fi (b : Bool) : Int := if b = true then 1 else 0
def iF (b : Bool) : It := ⟨1, fi b, ⟨#[]⟩⟩
def iS (s : ByteArray) : It := ⟨2, 0, s⟩
def RI (W : World) (base : Nat) (v : Value) (l : List It) : Prop := Kd.R PRf.k98 98 W base (fun _ => True) v l
def ifr (g : Nat) (f : Nat → Value) : Act := ⟨#[f 0, .pointer (some ⟨g, 0, none⟩), f 2, f 3, f 4, f 5, f 6, f 7, f 8, f 9, f 10, f 11, f 12, f 13, f 14, f 15, f 16, f 17, f 18, f 19, f 20, f 21, f 22, f 23, f 24, f 25, f 26, f 27, f 28, f 29, f 30, f 31, f 32, f 33, f 34, f 35, f 36, f 37, f 38, f 39, f 40, f 41, f 42, f 43, f 44, f 45, f 46, f 47, f 48, f 49, f 50, f 51, f 52, f 53, f 54, f 55, f 56, f 57, f 58, f 59, f 60, f 61, f 62, f 63, f 64, f 65, f 66, f 67, f 68, f 69, f 70, f 71, f 72, f 73, f 74, f 75, f 76, f 77, f 78, f 79, f 80, f 81, f 82, f 83, f 84, f 85, f 86, f 87, f 88, f 89, f 90, f 91, f 92, f 93, f 94, f 95, f 96, f 97, f 98, f 99, f 100, f 101, f 102, f 103, f 104, f 105, f 106, f 107, f 108, f 109, f 110, f 111, f 112, f 113, f 114, f 115, f 116, f 117, f 118, f 119, f 120, f 121, f 122, f 123, f 124, f 125, f 126, f 127, f 128, f 129, f 130, f 131, f 132, f 133, f 134, f 135, f 136, f 137, f 138, f 139, f 140, f 141, f 142, f 143, f 144, f 145, f 146, f 147, f 148, f 149, f 150, f 151, f 152, f 153, f 154, f 155, f 156, f 157, f 158, f 159, f 160, f 161, f 162, f 163, f 164, f 165, f 166, f 167, f 168, f 169, f 170, f 171, f 172, f 173, f 174, f 175, f 176, f 177, f 178, f 179, f 180, f 181, f 182, f 183, f 184, f 185, f 186, f 187, f 188, f 189, f 190, f 191, f 192, f 193, f 194, f 195, f 196, f 197, f 198, f 199, f 200, f 201, f 202, f 203, f 204, f 205, f 206, f 207, f 208, f 209, f 210, f 211, f 212, f 213, f 214, f 215, f 216, f 217, f 218, f 219, f 220, f 221, f 222, f 223, f 224, f 225, f 226, f 227, f 228, f 229, f 230, f 231, f 232, f 233, f 234, f 235, f 236, f 237, f 238, f 239, f 240, f 241, f 242, f 243, f 244, f 245, f 246, f 247, f 248, f 249, f 250, f 251, f 252, f 253, f 254, f 255, f 256, f 257, f 258, f 259, f 260, f 261, f 262, f 263, f 264, f 265, f 266, f 267, f 268, f 269, f 270, f 271, f 272, f 273, f 274, f 275, f 276, f 277, f 278, f 279, f 280, f 281, f 282, f 283, f 284, f 285, f 286, f 287, f 288, f 289, f 290, f 291, f 292, f 293, f 294, f 295, f 296, f 297, f 298, f 299, f 300, f 301, f 302, f 303, f 304, f 305, f 306, f 307, f 308, f 309, f 310, f 311, f 312], []⟩
theorem RFr.openI {g : Nat} {a : Act} (h : RFr 313 g a) : a = ifr g (fun i => a.tmps.getD i undef) :=
 h.lit _ (by
  have e : a.tmps.getD 1 undef = .pointer (some ⟨g, 0, none⟩) := by rw [Array.getD_eq_getD_getElem?, h.2.1]; rfl
  rw [← e]
  rfl)
theorem RFr.wpI {g : Nat} {a : Act} {w : World} {c : Code} {Q : Exit → Act → World → Prop} (h : RFr 313 g a) (hw : ∀ f, (∀ i v, a.tmps[i]? = some v → f i = v) → c.wp Try.prog Q (ifr g f) w) : c.wp Try.prog Q a w := by
 rw [h.openI]
 exact hw _ (fun i v hv => by rw [Array.getD_eq_getD_getElem?, hv]; rfl)
theorem RI.below {W W' : World} {base : Nat} {v : Value} {l : List It} (h : RI W base v l) (hb : Below W.heap.size W W') : RI W' base v l := Kd.R_below h hb
theorem RI.low {W : World} {base base' : Nat} {v : Value} {l : List It} (h : RI W base v l) (hb : base' ≤ base) : RI W base' v l := Kd.R_lower h hb
theorem RI.lit (W : World) (l : List It) (inner : List Value) (hr : Reps (PRf.k98.M W W.heap.size (fun _ => True)) 3 l inner) (hm : l.length ≤ 1000) :
  RI (W.alloc (.cells inner.toArray 98)) W.heap.size (.slice (some ⟨W.heap.size, 0, none⟩) l.length l.length) l := by
 refine ⟨fun k hk => trivial, inner, ?_, ?_⟩
 ·have h2 := World.ownsRow_lit (base := W.heap.size) (e := 98) (size := PRf.k98.sz) W inner.toArray l.length (Nat.le_refl _) (by simp only [maxLen]; omega) (by rw [List.size_toArray]; exact hr.1)
  simpa using h2
 ·refine hr.imp_ (fun p c hp => PRf.k98.M_mono (fun k hk => ⟨trivial, fun he => ?_⟩) (Kd.M_below (PRf.k98.M_bound hp) (zaa (Below.refl _ _) _)))
  have h3 : k = W.heap.size := by simpa [Value.ownBlock] using he
  have := hk.2.2.1
  omega
theorem zuk (W : World) (xs : List Int) (inner : List Value) (hr : Reps ((Kd.int .i64).M W W.heap.size (fun _ => True)) 1 xs inner) (hm : xs.length ≤ 1000) :
  Kd.C (Kd.int .i64) (W.alloc (.cells inner.toArray 3)) (some ⟨W.heap.size, 0, none⟩) xs.length xs := by
 have h : Kd.R (Kd.int .i64) 3 (W.alloc (.cells inner.toArray 3)) W.heap.size (fun _ => True) (.slice (some ⟨W.heap.size, 0, none⟩) xs.length xs.length) xs := by
  refine ⟨fun k hk => trivial, inner, ?_, ?_⟩
  ·have h2 := World.ownsRow_lit (base := W.heap.size) (e := 3) (size := (Kd.int .i64).sz) W inner.toArray xs.length (Nat.le_refl _) (by simp only [maxLen]; omega) (by rw [List.size_toArray]; exact hr.1)
   simpa using h2
  ·refine hr.imp_ (fun p c hp => (Kd.int .i64).M_mono (fun k hk => ⟨trivial, fun he => ?_⟩) (Kd.M_below ((Kd.int .i64).M_bound hp) (zaa (Below.refl _ _) _)))
   have h3 : k = W.heap.size := by simpa [Value.ownBlock] using he
   have := hk.2.2.1
   omega
 exact (Kd.R_reads' h).2.2
def zcy (l : List It) (W : World) (e : Ending) (w' : World) : Prop := ∃ v, e = .returned v ∧ RI w' W.heap.size v l ∧ Below W.heap.size W w'
theorem n_l (l : List Int) (hl : l.length ≤ 1000) : ∀ (t : List Int) (j : Nat), l.drop j = t → ∀ k (acc : List It), acc.length + t.length ≤ 1000 → t.length < k → PRf.meridianref17_N.l0 k l acc (j : Int) = some (acc ++ t.map iN)
 | [], j, ht, k + 1, acc, ha, hk => by
  have : l.length ≤ j := by simpa using ht
  unfold PRf.meridianref17_N.l0
  rw [if_neg (by omega)]
  simp
 | q :: t, j, ht, k + 1, acc, ha, hk => by
  have hj : l[j]? = some q := by have := congrArg (·[0]?) ht; simpa using this
  have hlt : j < l.length := (List.getElem?_eq_some_iff.1 hj).1
  have hd : l.drop (j + 1) = t := by have := congrArg (List.drop 1) ht; simpa [Nat.add_comm] using this
  have hr : rd l (j : Int) = q := by
   unfold rd
   rw [List.getD_eq_getElem?_getD, Int.toNat_natCast, hj]
   rfl
  simp only [List.length_cons] at ha hk
  unfold PRf.meridianref17_N.l0
  rw [if_pos (by omega), if_pos (by omega), if_pos (by omega), hr]
  have hw : wrap64 ((j : Int) + 1) = ((j + 1 : Nat) : Int) := by unfold wrap64; omega
  rw [hw, n_l l hl t (j + 1) hd k _ (by simp only [List.length_append, List.length_cons, List.length_nil]; omega) (by omega)]
  simp [iN]
theorem n_f (l : List Int) (hl : l.length ≤ 1000) : PRf.meridianref17_N.f (l.length + 1) l = some (l.map iN) := by
 have := n_l l hl l 0 rfl (l.length + 1) [] (by simpa using hl) (by omega)
 simpa [PRf.meridianref17_N.f] using this
theorem n1_c (a : Int) (W : World) : Calls Try.prog 51 #[.slice (some ⟨W.heap.size, 0, none⟩) 1 1] (W.alloc (.cells #[.int .i64 a] 3)) (zcy [iN a] (W.alloc (.cells #[.int .i64 a] 3))) :=
 PRf.meridianref17_N.calls 2 _ 1 [a] _ _ (zuk W [a] [.int .i64 a] (Reps.one (show Kd.M (Kd.int .i64) _ _ _ a [.int .i64 a] from rfl) (Reps.none _ _)) (by simp)) (by simp) (n_f [a] (by simp))
theorem n2_c (a b : Int) (W : World) : Calls Try.prog 51 #[.slice (some ⟨W.heap.size, 0, none⟩) 2 2] (W.alloc (.cells #[.int .i64 a, .int .i64 b] 3)) (zcy [iN a, iN b] (W.alloc (.cells #[.int .i64 a, .int .i64 b] 3))) :=
 PRf.meridianref17_N.calls 3 _ 2 [a, b] _ _ (zuk W [a, b] [.int .i64 a, .int .i64 b] (Reps.one (show Kd.M (Kd.int .i64) _ _ _ a [.int .i64 a] from rfl) (Reps.one (show Kd.M (Kd.int .i64) _ _ _ b [.int .i64 b] from rfl) (Reps.none _ _))) (by simp)) (by simp) (n_f [a, b] (by simp))
theorem n3_c (a b c : Int) (W : World) : Calls Try.prog 51 #[.slice (some ⟨W.heap.size, 0, none⟩) 3 3] (W.alloc (.cells #[.int .i64 a, .int .i64 b, .int .i64 c] 3)) (zcy [iN a, iN b, iN c] (W.alloc (.cells #[.int .i64 a, .int .i64 b, .int .i64 c] 3))) :=
 PRf.meridianref17_N.calls 4 _ 3 [a, b, c] _ _ (zuk W [a, b, c] [.int .i64 a, .int .i64 b, .int .i64 c] (Reps.one (show Kd.M (Kd.int .i64) _ _ _ a [.int .i64 a] from rfl) (Reps.one (show Kd.M (Kd.int .i64) _ _ _ b [.int .i64 b] from rfl) (Reps.one (show Kd.M (Kd.int .i64) _ _ _ c [.int .i64 c] from rfl) (Reps.none _ _)))) (by simp)) (by simp) (n_f [a, b, c] (by simp))
theorem p_c (a b : Int) (W : World) : Calls Try.prog 52 #[.agg #[.int .i64 a, .int .i64 b]] W (zcy [iN a, iN b] W) := by
 go_enter Try.func52, Try.ntmps52
 go_wp2_with (first | ((with_reducible refine zag (N := 1) rfl ?_); refine zbf rfl 24 (.tmp 0) rfl #[.int .i64 a, .int .i64 b] rfl ?_; intro g wc hg hbox hb; have HX := aK hbox; have HB := aK hb; clear hg hbox hb) | ((with_reducible refine zae [4, 6] (by decide) ?_); refine ld (T := 3) (g := g) (v := .int .i64 _) rfl rfl HX.out rfl rfl TuI rfl ?_) | ((with_reducible refine zae [7] (by decide) ?_); refine Kd.event_run rfl (v := .slice (some ⟨wc.heap.size, 0, none⟩) 2 2) (w1 := wc.alloc (.cells #[.int .i64 a, .int .i64 b] 3)) (by first | (go_simp; done) | (go_simp; rfl)) ?_; have HB := aK (zaa HB.out (.cells #[.int .i64 a, .int .i64 b] 3))) | (go_at_call 51; (with_reducible refine (n2_c _ _ _).mono ?_); rintro e wd ⟨v, rfl, hu, hb⟩; have HU := aK (hu.low HB.out.size); have HB := aK (HB.out.trans (hb.mono HB.out.size)); clear hu hb))
 go_ret
 exact ⟨_, rfl, HU.out, HB.out⟩
theorem s_c (s : ByteArray) (W : World) : Calls Try.prog 53 #[.string s] W (fun e w' => e = .returned (.agg #[.int .i64 2, .int .i64 0, .string s]) ∧ Below W.heap.size W w') := by
 go_enter Try.func53, Try.ntmps53
 all_goals go_wp2_with (first | ((with_reducible refine zag (N := 2) rfl ?_); refine zbe rfl 98 rfl #[.int .i64 0, .int .i64 0, .string ⟨#[]⟩] (by first | (go_simp; done) | (go_simp; rfl)) ?_; intro g wc hg hbox hb; have HX := aK hbox; have HB := aK hb; have HG := aK hg; clear hg hbox hb) | ((with_reducible refine zan (t := 98) (p := 2) rfl ?_); refine zbk rfl 98 (.tmp 2) (.tmp _) rfl g rfl _ _ rfl 98 HX.out rfl (by kernel_rfl) rfl ?_; intro wd hX hO; have HX := aK hX; have HB := aK (zaz HB.out hO HB.out.size (fun k hk => by rw [hk, HG.out]; exact Nat.le_refl _)); clear hX hO))
 all_goals
  refine bodyPost_ret (results_cell_row rfl _ _ g _ _ (0, 0) _ rfl HX.out Try.underlying98 rfl (by kernel_rfl)) rfl ?_
  exact ⟨rfl, HB.out⟩
theorem f_c (b : Bool) (W : World) : Calls Try.prog 54 #[.bool b] W (fun e w' => e = .returned (.agg #[.int .i64 1, .int .i64 (fi b), .string ⟨#[]⟩]) ∧ Below W.heap.size W w') := by
 cases b
 all_goals
  go_enter Try.func54, Try.ntmps54
 all_goals go_wp2_with (first | ((with_reducible refine zag (N := 2) rfl ?_); refine zbe rfl 98 rfl #[.int .i64 0, .int .i64 0, .string ⟨#[]⟩] (by first | (go_simp; done) | (go_simp; rfl)) ?_; intro g wc hg hbox hb; have HX := aK hbox; have HB := aK hb; have HG := aK hg; clear hg hbox hb) | ((with_reducible refine zan (t := 98) (p := 2) rfl ?_); refine zbk rfl 98 (.tmp 2) (.tmp _) rfl g rfl _ _ rfl 98 HX.out rfl (by kernel_rfl) rfl ?_; intro wd hX hO; have HX := aK hX; have HB := aK (zaz HB.out hO HB.out.size (fun k hk => by rw [hk, HG.out]; exact Nat.le_refl _)); clear hX hO))
 all_goals
  refine bodyPost_ret (results_cell_row rfl _ _ g _ _ (0, 0) _ rfl HX.out Try.underlying98 rfl (by kernel_rfl)) rfl ?_
  exact ⟨rfl, HB.out⟩
section
variable {ops : Array Oper} {o : Oper} {rest : List Oper} {a : Act} {Q : Exit → Act → World → Prop} {W w0 : World} {base base' : Nat} {v u : Value} {xs ys : List It}
theorem i_km (W : World) (base : Nat) (x : It) (cs : List Value) (h : PRf.k98.K W x cs) : PRf.k98.M W base (fun _ => False) x cs := by
 rw [PRf.k98_open h]
 exact PRf.k98_mkM _ _ _ _
theorem appI (hgd : o.guard = none) {s x : Operand} (ho : o.op = .call { callee := .builtin .append, args := #[s, x], argTypes := #[56, 56] }) (hs : a.eval s = v) (hx : a.eval x = u)
  (HO : RI W base v xs) (HU : RI W base' u ys) (HB : Below base w0 W) (hbase : base ≤ W.heap.size) (hl : xs.length + ys.length ≤ 1000000)
  (h : ∀ v1 w1, RI w1 base v1 (xs ++ ys) → Below base w0 w1 → (∀ (k : Nat) (cs : Array Value) (T : TypeId), 98 ≠ T → W.heap[k]? = some (Obj.cells cs T (0, 0)) → w1.heap[k]? = some (Obj.cells cs T (0, 0))) → wpList Try.prog ops Q rest (a.put o.dst v1) w1) : wpList Try.prog ops Q (o :: rest) a W := by
 obtain ⟨A, c, rfl, hc, hC⟩ := Kd.R_reads HU
 exact Kd.R_append_rows PRf.k98 base hgd s x 56 98 (.agg #[(.int .i64 0), (.int .i64 0), (.string ⟨#[]⟩)]) 32 ho Try.underlying56 PRf.info98 rfl (by decide) (by omega) v xs ys A _ c (fun _ => True) (fun _ => False) hs hx HO hC
  (i_km W base) (fun _ h => h.elim) (fun _ _ => trivial) HB hbase (by omega) (fun v1 w1 h1 h2 hg _ => h v1 w1 h1 h2 (fun k cs T hT hk => zij hk hg (Kd.R_ne HO hk hT)))
theorem zul {Kc : Act → World → Prop} (hw : Region.wanted o (yielded ops a.tmps) = true) {s x : Operand} (ho : o.op = .call { callee := .builtin .append, args := #[s, x], argTypes := #[56, 56] }) (hs : a.eval s = v) (hx : a.eval x = u)
  (HO : RI W base v xs) (HU : RI W base' u ys) (HB : Below base w0 W) (hbase : base ≤ W.heap.size) (hl : xs.length + ys.length ≤ 1000000)
  (h : ∀ v1 w1, RI w1 base v1 (xs ++ ys) → Below base w0 w1 → (∀ (k : Nat) (cs : Array Value) (T : TypeId), 98 ≠ T → W.heap[k]? = some (Obj.cells cs T (0, 0)) → w1.heap[k]? = some (Obj.cells cs T (0, 0))) → Kc (a.put o.dst v1) w1) : if Region.wanted o (yielded ops a.tmps) = true then Oper.wp Try.prog o a W Kc Q else Kc (a.put o.dst undef) W := by
 obtain ⟨A, c, rfl, hc, hC⟩ := Kd.R_reads HU
 exact Kd.R_append_rows_step PRf.k98 base hw s x 56 98 (.agg #[(.int .i64 0), (.int .i64 0), (.string ⟨#[]⟩)]) 32 ho Try.underlying56 PRf.info98 rfl (by decide) (by omega) v xs ys A _ c (fun _ => True) (fun _ => False) hs hx HO hC
  (i_km W base) (fun _ h => h.elim) (fun _ _ => trivial) HB hbase (by omega) (fun v1 w1 h1 h2 hg _ => h v1 w1 h1 h2 (fun k cs T hT hk => zij hk hg (Kd.R_ne HO hk hT)))
theorem appH {md : Region.Mode} {S : World → Prop} {fuel : Nat} {listed : Array Bool} (i N : Nat) (hi : ops[i]? = some o) (hd : o.dst = some N) (hr : (Region.ready md ops listed == [i]) = true) (hw : Region.wanted o (yielded ops a.tmps) = true)
  {s x : Operand} (ho : o.op = .call { callee := .builtin .append, args := #[s, x], argTypes := #[56, 56] }) (hs : a.eval s = v) (hx : a.eval x = u)
  (HO : RI W base v xs) (HU : RI W base' u ys) (HB : Below base w0 W) (hbase : base ≤ W.heap.size) (hl : xs.length + ys.length ≤ 1000000)
  (h : ∀ v1 w1, RI w1 base v1 (xs ++ ys) → Below base w0 w1 → (∀ (k : Nat) (cs : Array Value) (T : TypeId), 98 ≠ T → W.heap[k]? = some (Obj.cells cs T (0, 0)) → w1.heap[k]? = some (Obj.cells cs T (0, 0))) → S w1 ∧ wpAnyH Try.prog md ops Q S fuel (listed.setIfInBounds i true) (a.put (some N) v1) w1) : wpAnyH Try.prog md ops Q S (fuel + 1) listed a W := by
 rw [← hd] at h
 refine wpAnyH_ready (rs := [i]) (by simpa using hr) (by simp) (AllReadyH.cons hi (fun K' hK => ?_) (fun j hj => nomatch hj))
 exact zul hw ho hs hx HO HU HB hbase hl (fun v1 w1 k1 k2 k3 => hK _ _ (h v1 w1 k1 k2 k3).1 (fun _ => (h v1 w1 k1 k2 k3).2))
end
theorem v_c (a b : Int) (t : Bool) (s : ByteArray) (W : World) : Calls Try.prog 55 #[.agg #[.int .i64 a, .int .i64 b, .bool t, .string s]] W (zcy [iN a, iN b, iF t, iS s] W) := by
 go_enter Try.func55, Try.ntmps55
 go_upto_region 1 with (first | ((with_reducible refine zag (N := 1) rfl ?_); refine zbf rfl 30 (.tmp 0) rfl #[.int .i64 a, .int .i64 b, .bool t, .string s] rfl ?_; intro g w1 hg hbox hb; have HX := aK hbox; have HB := aK hb; clear hg hbox hb))
 have F : ∀ W2, Below w1.heap.size w1 W2 → W2.heap[g]? = some (.cells #[.int .i64 a, .int .i64 b, .bool t, .string s] 30 (0, 0)) := fun W2 hB => (hB.block g (zad HX.out)).trans HX.out
 refine wp_region_held_drew (S := fun W2 => Below w1.heap.size w1 W2) (by kernel_rfl) ((Below.refl _ _).drew) (fun hHeld => ?_)
 refine tkH 0 3 (.pointer (some ⟨g, 0, none⟩)) rfl rfl (by kernel_rfl) (fun c a d v w h => by cases d <;> exact h) hHeld (by rfl) (by intro W2 hSW; go_simp; (try with_reducible rfl)) ?_; try simp only [Act.put, aS, aZ, aC]
 refine tkH 1 4 (.agg #[.int .i64 a, .int .i64 b]) rfl rfl (by kernel_rfl) (fun c a d v w h => by cases d <;> exact h) hHeld (by rfl) (by exact fun W2 hSW => zas rfl (g := g) (off := 0) rfl [.int .i64 a, .int .i64 b] (seg2 ((zab (F W2 hSW) 0).trans rfl) ((zab (F W2 hSW) 1).trans rfl)) Try.underlying24 rfl (by kernel_rfl)) ?_; try simp only [Act.put, aS, aZ, aC]
 refine tkH 3 6 (.pointer (some ⟨g, 2, none⟩)) rfl rfl (by kernel_rfl) (fun c a d v w h => by cases d <;> exact h) hHeld (by rfl) (by intro W2 hSW; go_simp; (try with_reducible rfl)) ?_; try simp only [Act.put, aS, aZ, aC]
 refine tkH 4 7 (.bool t) rfl rfl (by kernel_rfl) (fun c a d v w h => by cases d <;> exact h) hHeld (by rfl) (by exact fun W2 hSW => zca rfl (g := g) (off := 2) rfl ((zab (F W2 hSW) 2).trans rfl) TuB rfl) ?_; try simp only [Act.put, aS, aZ, aC]
 refine tkH 6 9 (.pointer (some ⟨g, 3, none⟩)) rfl rfl (by kernel_rfl) (fun c a d v w h => by cases d <;> exact h) hHeld (by rfl) (by intro W2 hSW; go_simp; (try with_reducible rfl)) ?_; try simp only [Act.put, aS, aZ, aC]
 refine tkH 7 10 (.string s) rfl rfl (by kernel_rfl) (fun c a d v w h => by cases d <;> exact h) hHeld (by rfl) (by exact fun W2 hSW => zca rfl (g := g) (off := 3) rfl ((zab (F W2 hSW) 3).trans rfl) TuX rfl) ?_; try simp only [Act.put, aS, aZ, aC]
 refine zdg 2 5 rfl rfl (by kernel_rfl) (by rfl) Try.func52 (by kernel_rfl) #[.agg #[.int .i64 a, .int .i64 b]] rfl (by simp only [List.map_toArray, List.map_cons, List.map_nil]; rfl) ((p_c _ _ _).mono ?_); rintro e wc ⟨vp, rfl, hu, hb⟩; have HO := aK (hu.low (Below.size hHeld)); clear hu; have hHeld := Below.trans hHeld (hb.mono (Below.size hHeld)); refine ⟨_, rfl, hHeld, ?_⟩; clear hb; try simp only [Act.put, aS, aZ, aC]
 refine zdg 5 8 rfl rfl (by kernel_rfl) (by rfl) Try.func54 (by kernel_rfl) #[.bool t] rfl (by simp only [List.map_toArray, List.map_cons, List.map_nil]; rfl) ((f_c _ _).mono ?_); rintro e wc ⟨rfl, hb⟩; have HO := aK (HO.out.below hb); have hHeld := Below.trans hHeld (hb.mono (Below.size hHeld)); refine ⟨_, rfl, hHeld, ?_⟩; clear hb; try simp only [Act.put, aS, aZ, aC]
 refine zdg 8 11 rfl rfl (by kernel_rfl) (by rfl) Try.func53 (by kernel_rfl) #[.string s] rfl (by simp only [List.map_toArray, List.map_cons, List.map_nil]; rfl) ((s_c _ _).mono ?_); rintro e wc ⟨rfl, hb⟩; have HO := aK (HO.out.below hb); have hHeld := Below.trans hHeld (hb.mono (Below.size hHeld)); refine ⟨_, rfl, hHeld, ?_⟩; clear hb; try simp only [Act.put, aS, aZ, aC]
 have hb := zaa (Below.refl wc.heap.size wc) (.cells #[.int .i64 1, .int .i64 (fi t), .string ⟨#[]⟩, .int .i64 2, .int .i64 0, .string s] 98)
 have HU := aK (RI.lit wc [iF t, iS s] [.int .i64 1, .int .i64 (fi t), .string ⟨#[]⟩, .int .i64 2, .int .i64 0, .string s] (Reps.c3 (PRf.k98_mkM _ _ _ (iF t)) (Reps.c3 (PRf.k98_mkM _ _ _ (iS s)) (Reps.none _ _))) (by simp))
 have HO := aK (HO.out.below hb)
 have hHeld := Below.trans hHeld (hb.mono (Below.size hHeld))
 refine evH 9 12 (v := .slice (some ⟨wc.heap.size, 0, none⟩) 2 2) (w1 := wc.alloc (.cells #[.int .i64 1, .int .i64 (fi t), .string ⟨#[]⟩, .int .i64 2, .int .i64 0, .string s] 98)) rfl rfl (by kernel_rfl) (by rfl) (by first | (go_simp; done) | (go_simp; rfl)) hHeld ?_
 clear hb
 try simp only [Act.put, aS, aZ, aC]
 refine appH 10 13 rfl rfl (by kernel_rfl) (by rfl) rfl rfl rfl HO.out HU.out hHeld (Below.size hHeld) (by simp) ?_
 intro v1 wd ho hb hkp
 have HO := aK ho
 refine ⟨hb, ?_⟩
 try simp only [Act.put, aS, aZ, aC]
 refine tkH 11 2 v1 rfl rfl (by kernel_rfl) (fun c a d v w h => by cases d <;> exact h) hb (by rfl) (by intro W2 hSW; go_simp; (try with_reducible rfl)) ?_; try simp only [Act.put, aS, aZ, aC]
 refine wpAnyH_done (by kernel_rfl) ?_ _
 go_wp2
 go_ret
 exact ⟨_, rfl, HO.out.low HB.out.size, HB.out.trans (hb.mono HB.out.size)⟩
def KI (K : Exit → Act → World → Prop) (g : Nat) (w1 : World) (kd : Value) (l : List It) : Prop := ∀ a W vo, RFr 313 g a → a.tmps[3]? = some vo → RI W w1.heap.size vo l → Below w1.heap.size w1 W → a.tmps[37]? = some kd → K .normal a W
noncomputable def ib0 : Code := Try.f23.body.getD .skip
noncomputable def ib1 : Code := cr ib0
noncomputable def ib2 : Code := cr ib1
noncomputable def ib4 : Code := cr ib2
noncomputable def ib6 : Code := cr ib4
noncomputable def ib58 : Code := cr ib6
theorem it_2 (w1 wc : World) (g : Nat) (f : Nat → Value) (x : Nat → Int) (s : Nat → ByteArray) (p : Nat → Bool) (A : Nat → Option Addr) (n c : Nat → Nat) (K : Exit → Act → World → Prop) (l0 : List It) (vo kd : Value) (HX0 : Aside0 (w1.heap[g]? = some (.cells (cX x s p (fun j => .slice (A j) (n j) (c j))) 32 (0, 0)))) (h3 : f 3 = vo) (h37 : f 37 = kd) (HO : Aside0 (RI wc w1.heap.size vo l0)) (HB : Aside0 (Below w1.heap.size w1 wc)) (HL : Aside0 (l0.length ≤ 1000)) (k1 : (x 0 == 1) = false) (k2 : (x 0 == 2) = true) (k3 : (x 0 == 3) = false) (k4 : (x 0 == 4) = false) (k5 : (x 0 == 5) = false) (k7 : (x 0 == 7) = false) (k8 : (x 0 == 8) = false) (k9 : (x 0 == 9) = false) (k10 : (x 0 == 10) = false)
  (hK : Aside0 (KI K g w1 (.int .i64 (x 0)) (l0 ++ [iN (x 11), iN (x 12)]))) : Code.wp Try.prog (cl ib6) K (ifr g f) wc := by
 have HX := aK ((HB.out.block g (zad HX0.out)).trans HX0.out)
 unfold ifr
 rw [h3, h37]
 conv => arg 2; whnf
 go_wp2_with (first | ((with_reducible refine zae [37] (by decide) ?_); refine ld (T := 3) (g := g) (v := .int .i64 _) rfl rfl HX.out rfl rfl TuI rfl ?_) | ((with_reducible refine zae [88] (by decide) ?_); refine ldr (T := 24) (g := g) (vs := [.int .i64 _, .int .i64 _]) rfl rfl HX.out 2 rfl rfl Try.underlying24 rfl (by kernel_rfl) ?_) | (go_at_call 52; (with_reducible refine (p_c _ _ _).mono ?_); rintro e wc ⟨vn, rfl, hu, hb⟩; have HU := aK hu; have HO := aK (HO.out.below hb); have HB := aK (HB.out.trans (hb.mono HB.out.size)); have HX := aK ((HB.out.block g (zad HX0.out)).trans HX0.out); clear hu hb) | ((with_reducible refine zap (b := .append) rfl ?_); refine appI rfl rfl rfl rfl HO.out HU.out HB.out HB.out.size (by have := HL.out; simp only [List.length_append, List.length_cons, List.length_nil]; omega) ?_; intro v1 wc ho hb hkp; have HO := aK ho; have HB := aK hb; have HX := aK ((HB.out.block g (zad HX0.out)).trans HX0.out); clear ho hb HU hkp))
 exact hK.out _ wc _ ⟨rfl, rfl, rfl⟩ rfl HO.out HB.out rfl
theorem it_5 (w1 wc : World) (g : Nat) (f : Nat → Value) (x : Nat → Int) (s : Nat → ByteArray) (p : Nat → Bool) (A : Nat → Option Addr) (n c : Nat → Nat) (K : Exit → Act → World → Prop) (l0 : List It) (vo kd : Value) (HX0 : Aside0 (w1.heap[g]? = some (.cells (cX x s p (fun j => .slice (A j) (n j) (c j))) 32 (0, 0)))) (h3 : f 3 = vo) (h37 : f 37 = kd) (HO : Aside0 (RI wc w1.heap.size vo l0)) (HB : Aside0 (Below w1.heap.size w1 wc)) (HL : Aside0 (l0.length ≤ 1000)) (k1 : (x 0 == 1) = false) (k2 : (x 0 == 2) = false) (k3 : (x 0 == 3) = false) (k4 : (x 0 == 4) = false) (k5 : (x 0 == 5) = true) (k7 : (x 0 == 7) = false) (k8 : (x 0 == 8) = false) (k9 : (x 0 == 9) = false) (k10 : (x 0 == 10) = false)
  (hK : Aside0 (KI K g w1 (.int .i64 (x 0)) (l0 ++ [iN (x 11), iN (x 12)] ++ [iF (p 13)]))) : Code.wp Try.prog (cl ib6) K (ifr g f) wc := by
 have HX := aK ((HB.out.block g (zad HX0.out)).trans HX0.out)
 unfold ifr
 rw [h3, h37]
 conv => arg 2; whnf
 go_wp2_with (first | ((with_reducible refine zae [37] (by decide) ?_); refine ld (T := 3) (g := g) (v := .int .i64 _) rfl rfl HX.out rfl rfl TuI rfl ?_) | ((with_reducible refine zae [225] (by decide) ?_); refine ld (T := 4) (g := g) (v := .bool _) rfl rfl HX.out rfl rfl TuB rfl ?_) | ((with_reducible refine zae [220] (by decide) ?_); refine ldr (T := 24) (g := g) (vs := [.int .i64 _, .int .i64 _]) rfl rfl HX.out 2 rfl rfl Try.underlying24 rfl (by kernel_rfl) ?_) | ((with_reducible refine zae [227] (by decide) ?_); refine Kd.event_run rfl (v := .slice (some ⟨wc.heap.size, 0, none⟩) 1 1) (w1 := wc.alloc (.cells #[.int .i64 1, .int .i64 (fi (p 13)), .string ⟨#[]⟩] 98)) (by first | (go_simp; done) | (go_simp; rfl)) ?_; have HU := aK (RI.lit wc [iF (p 13)] [.int .i64 1, .int .i64 (fi (p 13)), .string ⟨#[]⟩] (Reps.c3 (PRf.k98_mkM _ _ _ (iF (p 13))) (Reps.none _ _)) (by simp)); have hb := zaa (Below.refl wc.heap.size wc) (.cells #[.int .i64 1, .int .i64 (fi (p 13)), .string ⟨#[]⟩] 98); have HO := aK (HO.out.below hb); have HB := aK (HB.out.trans (hb.mono HB.out.size)); have HX := aK ((HB.out.block g (zad HX0.out)).trans HX0.out); clear hb) | (go_at_call 52; (with_reducible refine (p_c _ _ _).mono ?_); rintro e wc ⟨vn, rfl, hu, hb⟩; have HU := aK hu; have HO := aK (HO.out.below hb); have HB := aK (HB.out.trans (hb.mono HB.out.size)); have HX := aK ((HB.out.block g (zad HX0.out)).trans HX0.out); clear hu hb) | (go_at_call 54; (with_reducible refine (f_c _ _).mono ?_); rintro e wc ⟨rfl, hb⟩; have HO := aK (HO.out.below hb); have HB := aK (HB.out.trans (hb.mono HB.out.size)); have HX := aK ((HB.out.block g (zad HX0.out)).trans HX0.out); clear hb) | ((with_reducible refine zap (b := .append) rfl ?_); refine appI rfl rfl rfl rfl HO.out HU.out HB.out HB.out.size (by have := HL.out; simp only [List.length_append, List.length_cons, List.length_nil]; omega) ?_; intro v1 wc ho hb hkp; have HO := aK ho; have HB := aK hb; have HX := aK ((HB.out.block g (zad HX0.out)).trans HX0.out); clear ho hb HU hkp))
 exact hK.out _ wc _ ⟨rfl, rfl, rfl⟩ rfl HO.out HB.out rfl
theorem it_6 (w1 wc : World) (g : Nat) (f : Nat → Value) (x : Nat → Int) (s : Nat → ByteArray) (p : Nat → Bool) (A : Nat → Option Addr) (n c : Nat → Nat) (K : Exit → Act → World → Prop) (l0 : List It) (vo kd : Value) (HX0 : Aside0 (w1.heap[g]? = some (.cells (cX x s p (fun j => .slice (A j) (n j) (c j))) 32 (0, 0)))) (h3 : f 3 = vo) (h37 : f 37 = kd) (HO : Aside0 (RI wc w1.heap.size vo l0)) (HB : Aside0 (Below w1.heap.size w1 wc)) (HL : Aside0 (l0.length ≤ 1000)) (k1 : (x 0 == 1) = false) (k2 : (x 0 == 2) = false) (k3 : (x 0 == 3) = false) (k4 : (x 0 == 4) = false) (k5 : (x 0 == 5) = false) (k7 : (x 0 == 7) = false) (k8 : (x 0 == 8) = false) (k9 : (x 0 == 9) = false) (k10 : (x 0 == 10) = false)
  (hK : Aside0 (KI K g w1 (.int .i64 (x 0)) (l0))) : Code.wp Try.prog (cl ib6) K (ifr g f) wc := by
 have HX := aK ((HB.out.block g (zad HX0.out)).trans HX0.out)
 unfold ifr
 rw [h3, h37]
 conv => arg 2; whnf
 go_wp2_with (first | ((with_reducible refine zae [37] (by decide) ?_); refine ld (T := 3) (g := g) (v := .int .i64 _) rfl rfl HX.out rfl rfl TuI rfl ?_) | ((with_reducible refine zap (b := .append) rfl ?_); refine appI rfl rfl rfl rfl HO.out HU.out HB.out HB.out.size (by have := HL.out; simp only [List.length_append, List.length_cons, List.length_nil]; omega) ?_; intro v1 wc ho hb hkp; have HO := aK ho; have HB := aK hb; have HX := aK ((HB.out.block g (zad HX0.out)).trans HX0.out); clear ho hb HU hkp))
 exact hK.out _ wc _ ⟨rfl, rfl, rfl⟩ rfl HO.out HB.out rfl
theorem it_7 (w1 wc : World) (g : Nat) (f : Nat → Value) (x : Nat → Int) (s : Nat → ByteArray) (p : Nat → Bool) (A : Nat → Option Addr) (n c : Nat → Nat) (K : Exit → Act → World → Prop) (l0 : List It) (vo kd : Value) (HX0 : Aside0 (w1.heap[g]? = some (.cells (cX x s p (fun j => .slice (A j) (n j) (c j))) 32 (0, 0)))) (h3 : f 3 = vo) (h37 : f 37 = kd) (HO : Aside0 (RI wc w1.heap.size vo l0)) (HB : Aside0 (Below w1.heap.size w1 wc)) (HL : Aside0 (l0.length ≤ 1000)) (k1 : (x 0 == 1) = false) (k2 : (x 0 == 2) = false) (k3 : (x 0 == 3) = false) (k4 : (x 0 == 4) = false) (k5 : (x 0 == 5) = false) (k7 : (x 0 == 7) = true) (k8 : (x 0 == 8) = false) (k9 : (x 0 == 9) = false) (k10 : (x 0 == 10) = false)
  (hK : Aside0 (KI K g w1 (.int .i64 (x 0)) (l0 ++ [iN (x 14), iN (x 15)] ++ [iS (s 16)] ++ [iN (x 19), iN (x 20)]))) : Code.wp Try.prog (cl ib6) K (ifr g f) wc := by
 have HX := aK ((HB.out.block g (zad HX0.out)).trans HX0.out)
 unfold ifr
 rw [h3, h37]
 conv => arg 2; whnf
 go_wp2_with (first | ((with_reducible refine zae [37, 247, 234, 236] (by decide) ?_); refine ld (T := 3) (g := g) (v := .int .i64 _) rfl rfl HX.out rfl rfl TuI rfl ?_) | ((with_reducible refine zae [242] (by decide) ?_); refine ld (T := 9) (g := g) (v := .string _) rfl rfl HX.out rfl rfl TuX rfl ?_) | ((with_reducible refine zae [260] (by decide) ?_); refine ldr (T := 24) (g := g) (vs := [.int .i64 _, .int .i64 _]) rfl rfl HX.out 2 rfl rfl Try.underlying24 rfl (by kernel_rfl) ?_) | ((with_reducible refine zae [237] (by decide) ?_); refine Kd.event_run rfl (v := .slice (some ⟨wc.heap.size, 0, none⟩) 2 2) (w1 := wc.alloc (.cells #[.int .i64 (x 14), .int .i64 (x 15)] 3)) (by first | (go_simp; done) | (go_simp; rfl)) ?_; have hb := zaa (Below.refl wc.heap.size wc) (.cells #[.int .i64 (x 14), .int .i64 (x 15)] 3); have HO := aK (HO.out.below hb); have HB := aK (HB.out.trans (hb.mono HB.out.size)); have HX := aK ((HB.out.block g (zad HX0.out)).trans HX0.out); clear hb) | ((with_reducible refine zae [244] (by decide) ?_); refine Kd.event_run rfl (v := .slice (some ⟨wc.heap.size, 0, none⟩) 1 1) (w1 := wc.alloc (.cells #[.int .i64 2, .int .i64 0, .string (s 16)] 98)) (by first | (go_simp; done) | (go_simp; rfl)) ?_; have HU := aK (RI.lit wc [iS (s 16)] [.int .i64 2, .int .i64 0, .string (s 16)] (Reps.c3 (PRf.k98_mkM _ _ _ (iS (s 16))) (Reps.none _ _)) (by simp)); have hb := zaa (Below.refl wc.heap.size wc) (.cells #[.int .i64 2, .int .i64 0, .string (s 16)] 98); have HO := aK (HO.out.below hb); have HB := aK (HB.out.trans (hb.mono HB.out.size)); have HX := aK ((HB.out.block g (zad HX0.out)).trans HX0.out); clear hb) | (go_at_call 51; (with_reducible refine (n2_c _ _ _).mono ?_); rintro e wc ⟨vn, rfl, hu, hb⟩; have HU := aK hu; have HO := aK (HO.out.below hb); have HB := aK (HB.out.trans (hb.mono HB.out.size)); have HX := aK ((HB.out.block g (zad HX0.out)).trans HX0.out); clear hu hb) | (go_at_call 52; (with_reducible refine (p_c _ _ _).mono ?_); rintro e wc ⟨vn, rfl, hu, hb⟩; have HU := aK hu; have HO := aK (HO.out.below hb); have HB := aK (HB.out.trans (hb.mono HB.out.size)); have HX := aK ((HB.out.block g (zad HX0.out)).trans HX0.out); clear hu hb) | (go_at_call 53; (with_reducible refine (s_c _ _).mono ?_); rintro e wc ⟨rfl, hb⟩; have HO := aK (HO.out.below hb); have HB := aK (HB.out.trans (hb.mono HB.out.size)); have HX := aK ((HB.out.block g (zad HX0.out)).trans HX0.out); clear hb) | ((with_reducible refine zap (b := .append) rfl ?_); refine appI rfl rfl rfl rfl HO.out HU.out HB.out HB.out.size (by have := HL.out; simp only [List.length_append, List.length_cons, List.length_nil]; omega) ?_; intro v1 wc ho hb hkp; have HO := aK ho; have HB := aK hb; have HX := aK ((HB.out.block g (zad HX0.out)).trans HX0.out); clear ho hb HU hkp))
 exact hK.out _ wc _ ⟨rfl, rfl, rfl⟩ rfl HO.out HB.out rfl
theorem it_9 (w1 wc : World) (g : Nat) (f : Nat → Value) (x : Nat → Int) (s : Nat → ByteArray) (p : Nat → Bool) (A : Nat → Option Addr) (n c : Nat → Nat) (K : Exit → Act → World → Prop) (l0 : List It) (vo kd : Value) (HX0 : Aside0 (w1.heap[g]? = some (.cells (cX x s p (fun j => .slice (A j) (n j) (c j))) 32 (0, 0)))) (h3 : f 3 = vo) (h37 : f 37 = kd) (HO : Aside0 (RI wc w1.heap.size vo l0)) (HB : Aside0 (Below w1.heap.size w1 wc)) (HL : Aside0 (l0.length ≤ 1000)) (k1 : (x 0 == 1) = false) (k2 : (x 0 == 2) = false) (k3 : (x 0 == 3) = false) (k4 : (x 0 == 4) = false) (k5 : (x 0 == 5) = false) (k7 : (x 0 == 7) = false) (k8 : (x 0 == 8) = false) (k9 : (x 0 == 9) = true) (k10 : (x 0 == 10) = false)
  (hK : Aside0 (KI K g w1 (.int .i64 (x 0)) (l0 ++ [iN (x 14), iN (x 15), iN (x 21)] ++ [iN (x 22), iN (x 23), iF (p 24), iS (s 25)] ++ [iN (x 11), iN (x 12)] ++ [iN (x 19), iN (x 20)]))) : Code.wp Try.prog (cl ib6) K (ifr g f) wc := by
 have HX := aK ((HB.out.block g (zad HX0.out)).trans HX0.out)
 unfold ifr
 rw [h3, h37]
 conv => arg 2; whnf
 go_wp2_with (first | ((with_reducible refine zae [37, 267, 269] (by decide) ?_); refine ld (T := 3) (g := g) (v := .int .i64 _) rfl rfl HX.out rfl rfl TuI rfl ?_) | ((with_reducible refine zae [282, 287] (by decide) ?_); refine ldr (T := 24) (g := g) (vs := [.int .i64 _, .int .i64 _]) rfl rfl HX.out 2 rfl rfl Try.underlying24 rfl (by kernel_rfl) ?_) | ((with_reducible refine zae [271] (by decide) ?_); refine ld (T := 28) (g := g) (v := .int .i64 _) rfl rfl HX.out rfl rfl TuN rfl ?_) | ((with_reducible refine zae [277] (by decide) ?_); refine ldr (T := 30) (g := g) (vs := [.int .i64 _, .int .i64 _, .bool _, .string _]) rfl rfl HX.out 4 rfl rfl Try.underlying30 rfl (by kernel_rfl) ?_) | ((with_reducible refine zae [272] (by decide) ?_); refine Kd.event_run rfl (v := .slice (some ⟨wc.heap.size, 0, none⟩) 3 3) (w1 := wc.alloc (.cells #[.int .i64 (x 14), .int .i64 (x 15), .int .i64 (x 21)] 3)) (by first | (go_simp; done) | (go_simp; rfl)) ?_; have hb := zaa (Below.refl wc.heap.size wc) (.cells #[.int .i64 (x 14), .int .i64 (x 15), .int .i64 (x 21)] 3); have HO := aK (HO.out.below hb); have HB := aK (HB.out.trans (hb.mono HB.out.size)); have HX := aK ((HB.out.block g (zad HX0.out)).trans HX0.out); clear hb) | (go_at_call 51; (with_reducible refine (n3_c _ _ _ _).mono ?_); rintro e wc ⟨vn, rfl, hu, hb⟩; have HU := aK hu; have HO := aK (HO.out.below hb); have HB := aK (HB.out.trans (hb.mono HB.out.size)); have HX := aK ((HB.out.block g (zad HX0.out)).trans HX0.out); clear hu hb) | (go_at_call 52; (with_reducible refine (p_c _ _ _).mono ?_); rintro e wc ⟨vn, rfl, hu, hb⟩; have HU := aK hu; have HO := aK (HO.out.below hb); have HB := aK (HB.out.trans (hb.mono HB.out.size)); have HX := aK ((HB.out.block g (zad HX0.out)).trans HX0.out); clear hu hb) | (go_at_call 55; (with_reducible refine (v_c _ _ _ _ _).mono ?_); rintro e wc ⟨vn, rfl, hu, hb⟩; have HU := aK hu; have HO := aK (HO.out.below hb); have HB := aK (HB.out.trans (hb.mono HB.out.size)); have HX := aK ((HB.out.block g (zad HX0.out)).trans HX0.out); clear hu hb) | ((with_reducible refine zap (b := .append) rfl ?_); refine appI rfl rfl rfl rfl HO.out HU.out HB.out HB.out.size (by have := HL.out; simp only [List.length_append, List.length_cons, List.length_nil]; omega) ?_; intro v1 wc ho hb hkp; have HO := aK ho; have HB := aK hb; have HX := aK ((HB.out.block g (zad HX0.out)).trans HX0.out); clear ho hb HU hkp))
 exact hK.out _ wc _ ⟨rfl, rfl, rfl⟩ rfl HO.out HB.out rfl
theorem it_10 (w1 wc : World) (g : Nat) (f : Nat → Value) (x : Nat → Int) (s : Nat → ByteArray) (p : Nat → Bool) (A : Nat → Option Addr) (n c : Nat → Nat) (K : Exit → Act → World → Prop) (l0 : List It) (vo kd : Value) (HX0 : Aside0 (w1.heap[g]? = some (.cells (cX x s p (fun j => .slice (A j) (n j) (c j))) 32 (0, 0)))) (h3 : f 3 = vo) (h37 : f 37 = kd) (HO : Aside0 (RI wc w1.heap.size vo l0)) (HB : Aside0 (Below w1.heap.size w1 wc)) (HL : Aside0 (l0.length ≤ 1000)) (k1 : (x 0 == 1) = false) (k2 : (x 0 == 2) = false) (k3 : (x 0 == 3) = false) (k4 : (x 0 == 4) = false) (k5 : (x 0 == 5) = false) (k7 : (x 0 == 7) = false) (k8 : (x 0 == 8) = false) (k9 : (x 0 == 9) = false) (k10 : (x 0 == 10) = true)
  (hK : Aside0 (KI K g w1 (.int .i64 (x 0)) (l0 ++ [iN (x 14), iN (x 15), iN (x 21)] ++ [iN (x 4), iN (x 5)] ++ [iN (x 19), iN (x 20)]))) : Code.wp Try.prog (cl ib6) K (ifr g f) wc := by
 have HX := aK ((HB.out.block g (zad HX0.out)).trans HX0.out)
 unfold ifr
 rw [h3, h37]
 conv => arg 2; whnf
 go_wp2_with (first | ((with_reducible refine zae [37, 294, 296] (by decide) ?_); refine ld (T := 3) (g := g) (v := .int .i64 _) rfl rfl HX.out rfl rfl TuI rfl ?_) | ((with_reducible refine zae [304, 309] (by decide) ?_); refine ldr (T := 24) (g := g) (vs := [.int .i64 _, .int .i64 _]) rfl rfl HX.out 2 rfl rfl Try.underlying24 rfl (by kernel_rfl) ?_) | ((with_reducible refine zae [298] (by decide) ?_); refine ld (T := 28) (g := g) (v := .int .i64 _) rfl rfl HX.out rfl rfl TuN rfl ?_) | ((with_reducible refine zae [299] (by decide) ?_); refine Kd.event_run rfl (v := .slice (some ⟨wc.heap.size, 0, none⟩) 3 3) (w1 := wc.alloc (.cells #[.int .i64 (x 14), .int .i64 (x 15), .int .i64 (x 21)] 3)) (by first | (go_simp; done) | (go_simp; rfl)) ?_; have hb := zaa (Below.refl wc.heap.size wc) (.cells #[.int .i64 (x 14), .int .i64 (x 15), .int .i64 (x 21)] 3); have HO := aK (HO.out.below hb); have HB := aK (HB.out.trans (hb.mono HB.out.size)); have HX := aK ((HB.out.block g (zad HX0.out)).trans HX0.out); clear hb) | (go_at_call 51; (with_reducible refine (n3_c _ _ _ _).mono ?_); rintro e wc ⟨vn, rfl, hu, hb⟩; have HU := aK hu; have HO := aK (HO.out.below hb); have HB := aK (HB.out.trans (hb.mono HB.out.size)); have HX := aK ((HB.out.block g (zad HX0.out)).trans HX0.out); clear hu hb) | (go_at_call 52; (with_reducible refine (p_c _ _ _).mono ?_); rintro e wc ⟨vn, rfl, hu, hb⟩; have HU := aK hu; have HO := aK (HO.out.below hb); have HB := aK (HB.out.trans (hb.mono HB.out.size)); have HX := aK ((HB.out.block g (zad HX0.out)).trans HX0.out); clear hu hb) | ((with_reducible refine zap (b := .append) rfl ?_); refine appI rfl rfl rfl rfl HO.out HU.out HB.out HB.out.size (by have := HL.out; simp only [List.length_append, List.length_cons, List.length_nil]; omega) ?_; intro v1 wc ho hb hkp; have HO := aK ho; have HB := aK hb; have HX := aK ((HB.out.block g (zad HX0.out)).trans HX0.out); clear ho hb HU hkp))
 exact hK.out _ wc _ ⟨rfl, rfl, rfl⟩ rfl HO.out HB.out rfl
theorem zjh {P : Program} {o : Oper} {ρ : Operand → Value} {W : World} {T : TypeId} {x : Operand} (ho : o.op = .load T x) {q : Addr} (hx : ρ x = .pointer (some q)) {v : Value} (hc : W.cell? q = some v)
  {d : TypeDesc} (hu : P.underlying T = some d) (hd : d.isRow = false) : (execOp ρ o).run P W = .ok (.value v) W := by
 unfold execOp
 simp only [ho, hx, Instr.loadAt, Instr.sureAddr, Sem.run_bind, Sem.run_pure, Result.andThen_ok]
 unfold loadVar isAgg
 simp only [Sem.run_bind, run_underlying hu, Result.andThen_ok]
 cases d <;> first | (exact Bool.noConfusion hd) | (simp [load, hc]; done) | (go_simp; done)
theorem ldq {P : Program} {ops : Array Oper} {o : Oper} {rest : List Oper} {a : Act} {Q : Exit → Act → World → Prop} {W : World} {T : TypeId} {x : Operand} (ho : o.op = .load T x) {q : Addr} (hx : a.eval x = .pointer (some q)) {v : Value} (hc : W.cell? q = some v)
  (hw : Region.wanted o (yielded ops a.tmps) = true) {d : TypeDesc} (hu : P.underlying T = some d) (hd : d.isRow = false) (h : wpList P ops Q rest (a.put o.dst v) W) : wpList P ops Q (o :: rest) a W :=
 zbi hw (Kd.event_run rfl (zjh ho hx hc hu hd) h)
theorem it_8 (w1 wc : World) (g : Nat) (f : Nat → Value) (x : Nat → Int) (s : Nat → ByteArray) (p : Nat → Bool) (A : Nat → Option Addr) (n c : Nat → Nat) (K : Exit → Act → World → Prop) (l0 : List It) (vo kd : Value) (HX0 : Aside0 (w1.heap[g]? = some (.cells (cX x s p (fun j => .slice (A j) (n j) (c j))) 32 (0, 0)))) (h3 : f 3 = vo) (h37 : f 37 = kd) (HO : Aside0 (RI wc w1.heap.size vo l0)) (HB : Aside0 (Below w1.heap.size w1 wc)) (HL : Aside0 (l0.length ≤ 1000)) (k1 : (x 0 == 1) = false) (k2 : (x 0 == 2) = false) (k3 : (x 0 == 3) = false) (k4 : (x 0 == 4) = false) (k5 : (x 0 == 5) = false) (k7 : (x 0 == 7) = false) (k8 : (x 0 == 8) = true) (k9 : (x 0 == 9) = false) (k10 : (x 0 == 10) = false) (hP : ∀ c a d v w, K (.panic c) (a.put d v) w → K (.panic c) a w)
  (hK : Aside0 (KI K g w1 (.int .i64 (x 0)) (l0 ++ [iN (x 14), iN (x 15)] ++ [iS (s 16)] ++ [iF (p 17), iS (s 18)] ++ [iN (x 19), iN (x 20)]))) : Code.wp Try.prog (cl ib6) K (ifr g f) wc := by
 have HX := aK ((HB.out.block g (zad HX0.out)).trans HX0.out)
 have F : ∀ W, Below w1.heap.size w1 W → W.heap[g]? = some (.cells (cX x s p (fun j => .slice (A j) (n j) (c j))) 32 (0, 0)) := fun W hB => (hB.block g (zad HX0.out)).trans HX0.out
 unfold ifr
 rw [h3, h37]
 conv => arg 2; whnf
 go_upto_region 47 with (first | ((with_reducible refine zae [37, 247, 234, 236] (by decide) ?_); refine ld (T := 3) (g := g) (v := .int .i64 _) rfl rfl HX.out rfl rfl TuI rfl ?_) | ((with_reducible refine zae [242] (by decide) ?_); refine ld (T := 9) (g := g) (v := .string _) rfl rfl HX.out rfl rfl TuX rfl ?_) | ((with_reducible refine zae [260] (by decide) ?_); refine ldr (T := 24) (g := g) (vs := [.int .i64 _, .int .i64 _]) rfl rfl HX.out 2 rfl rfl Try.underlying24 rfl (by kernel_rfl) ?_) | ((with_reducible refine zae [237] (by decide) ?_); refine Kd.event_run rfl (v := .slice (some ⟨wc.heap.size, 0, none⟩) 2 2) (w1 := wc.alloc (.cells #[.int .i64 (x 14), .int .i64 (x 15)] 3)) (by first | (go_simp; done) | (go_simp; rfl)) ?_; have hb := zaa (Below.refl wc.heap.size wc) (.cells #[.int .i64 (x 14), .int .i64 (x 15)] 3); have HO := aK (HO.out.below hb); have HB := aK (HB.out.trans (hb.mono HB.out.size)); have HX := aK ((HB.out.block g (zad HX0.out)).trans HX0.out); clear hb) | ((with_reducible refine zae [244] (by decide) ?_); refine Kd.event_run rfl (v := .slice (some ⟨wc.heap.size, 0, none⟩) 1 1) (w1 := wc.alloc (.cells #[.int .i64 2, .int .i64 0, .string (s 16)] 98)) (by first | (go_simp; done) | (go_simp; rfl)) ?_; have HU := aK (RI.lit wc [iS (s 16)] [.int .i64 2, .int .i64 0, .string (s 16)] (Reps.c3 (PRf.k98_mkM _ _ _ (iS (s 16))) (Reps.none _ _)) (by simp)); have hb := zaa (Below.refl wc.heap.size wc) (.cells #[.int .i64 2, .int .i64 0, .string (s 16)] 98); have HO := aK (HO.out.below hb); have HB := aK (HB.out.trans (hb.mono HB.out.size)); have HX := aK ((HB.out.block g (zad HX0.out)).trans HX0.out); clear hb) | (go_at_call 51; (with_reducible refine (n2_c _ _ _).mono ?_); rintro e wc ⟨vn, rfl, hu, hb⟩; have HU := aK hu; have HO := aK (HO.out.below hb); have HB := aK (HB.out.trans (hb.mono HB.out.size)); have HX := aK ((HB.out.block g (zad HX0.out)).trans HX0.out); clear hu hb) | (go_at_call 52; (with_reducible refine (p_c _ _ _).mono ?_); rintro e wc ⟨vn, rfl, hu, hb⟩; have HU := aK hu; have HO := aK (HO.out.below hb); have HB := aK (HB.out.trans (hb.mono HB.out.size)); have HX := aK ((HB.out.block g (zad HX0.out)).trans HX0.out); clear hu hb) | (go_at_call 53; (with_reducible refine (s_c _ _).mono ?_); rintro e wc ⟨rfl, hb⟩; have HO := aK (HO.out.below hb); have HB := aK (HB.out.trans (hb.mono HB.out.size)); have HX := aK ((HB.out.block g (zad HX0.out)).trans HX0.out); clear hb) | ((with_reducible refine zap (b := .append) rfl ?_); refine appI rfl rfl rfl rfl HO.out HU.out HB.out HB.out.size (by have := HL.out; simp only [List.length_append, List.length_cons, List.length_nil]; omega) ?_; intro v1 wc ho hb hkp; have HO := aK ho; have HB := aK hb; have HX := aK ((HB.out.block g (zad HX0.out)).trans HX0.out); clear ho hb HU hkp))
 rename_i vo8 _ _ _ _
 refine wp_region_held_drew (S := (fun W => Below w1.heap.size w1 W)) (by kernel_rfl) (HB.out.drew) (fun hHeld => ?_)
 have HO := aK (HO.out.below (Below.refl _ _).drew); have HB := aK (HB.out.drew); generalize wc.drew = wc at HO HB hHeld ⊢
 refine tkH 0 249 (_) rfl rfl (by kernel_rfl) (fun c a d v w h => hP c a d v w h) hHeld (by rfl) (by intro W hSW; go_simp; (try with_reducible rfl)) ?_; try simp only [Act.put, aS, aZ, aC]
 refine tkH 1 250 (.pointer (some ⟨g, 17, none⟩)) rfl rfl (by kernel_rfl) (fun c a d v w h => hP c a d v w h) hHeld (by rfl) (by intro W hSW; go_simp; (try with_reducible rfl)) ?_; try simp only [Act.put, aS, aZ, aC]
 refine tkH 2 251 (.bool (p 17)) rfl rfl (by kernel_rfl) (fun c a d v w h => hP c a d v w h) hHeld (by rfl) (by exact fun W hSW => zca rfl (g := g) (off := 17) rfl ((zab (F W hSW) 17).trans (by rfl)) TuB rfl) ?_; try simp only [Act.put, aS, aZ, aC]
 refine tkH 4 253 (.pointer (some ⟨g, 18, none⟩)) rfl rfl (by kernel_rfl) (fun c a d v w h => hP c a d v w h) hHeld (by rfl) (by intro W hSW; go_simp; (try with_reducible rfl)) ?_; try simp only [Act.put, aS, aZ, aC]
 refine tkH 5 254 (.string (s 18)) rfl rfl (by kernel_rfl) (fun c a d v w h => hP c a d v w h) hHeld (by rfl) (by exact fun W hSW => zca rfl (g := g) (off := 18) rfl ((zab (F W hSW) 18).trans (by rfl)) TuX rfl) ?_; try simp only [Act.put, aS, aZ, aC]
 refine zdg 3 252 rfl rfl (by kernel_rfl) (by rfl) Try.func54 (by kernel_rfl) #[.bool (p 17)] rfl (by simp only [List.map_toArray, List.map_cons, List.map_nil]; rfl) ((f_c _ _).mono ?_); rintro e wc ⟨rfl, hb⟩; have HO := aK (HO.out.below hb); have HB := aK (HB.out.trans (hb.mono HB.out.size)); have hHeld := HB.out; refine ⟨_, rfl, hHeld, ?_⟩; clear hb; try simp only [Act.put, aS, aZ, aC]
 refine zdg 6 255 rfl rfl (by kernel_rfl) (by rfl) Try.func53 (by kernel_rfl) #[.string (s 18)] rfl (by simp only [List.map_toArray, List.map_cons, List.map_nil]; rfl) ((s_c _ _).mono ?_); rintro e wc ⟨rfl, hb⟩; have HO := aK (HO.out.below hb); have HB := aK (HB.out.trans (hb.mono HB.out.size)); have hHeld := HB.out; refine ⟨_, rfl, hHeld, ?_⟩; clear hb; try simp only [Act.put, aS, aZ, aC]
 have HU := aK (RI.lit wc [iF (p 17), iS (s 18)] [.int .i64 1, .int .i64 (fi (p 17)), .string ⟨#[]⟩, .int .i64 2, .int .i64 0, .string (s 18)] (Reps.c3 (PRf.k98_mkM _ _ _ (iF (p 17))) (Reps.c3 (PRf.k98_mkM _ _ _ (iS (s 18))) (Reps.none _ _))) (by simp)); have hb := zaa (Below.refl wc.heap.size wc) (.cells #[.int .i64 1, .int .i64 (fi (p 17)), .string ⟨#[]⟩, .int .i64 2, .int .i64 0, .string (s 18)] 98); have HO := aK (HO.out.below hb); have HB := aK (HB.out.trans (hb.mono HB.out.size)); have hHeld := HB.out; refine evH 7 256 (v := .slice (some ⟨wc.heap.size, 0, none⟩) 2 2) (w1 := wc.alloc (.cells #[.int .i64 1, .int .i64 (fi (p 17)), .string ⟨#[]⟩, .int .i64 2, .int .i64 0, .string (s 18)] 98)) rfl rfl (by kernel_rfl) (by rfl) (by first | (go_simp; done) | (go_simp; rfl)) hHeld ?_; clear hb; try simp only [Act.put, aS, aZ, aC]
 refine appH 8 257 rfl rfl (by kernel_rfl) (by rfl) rfl rfl rfl HO.out HU.out HB.out HB.out.size (by have := HL.out; simp only [List.length_append, List.length_cons, List.length_nil]; omega) ?_; intro v1 wc ho hb hkp; have HO := aK ho; have HB := aK hb; have hHeld := HB.out; clear ho hb; refine ⟨hHeld, ?_⟩; try simp only [Act.put, aS, aZ, aC]
 refine tkH 9 3 (v1) rfl rfl (by kernel_rfl) (fun c a d v w h => hP c a d v w h) hHeld (by rfl) (by intro W hSW; go_simp; (try with_reducible rfl)) ?_; try simp only [Act.put, aS, aZ, aC]
 refine wpAnyH_done (by kernel_rfl) ?_ _; have HX := aK (F _ HB.out)
 go_wp2_with (first | ((with_reducible refine zae [37, 247, 234, 236] (by decide) ?_); refine ld (T := 3) (g := g) (v := .int .i64 _) rfl rfl HX.out rfl rfl TuI rfl ?_) | ((with_reducible refine zae [242] (by decide) ?_); refine ld (T := 9) (g := g) (v := .string _) rfl rfl HX.out rfl rfl TuX rfl ?_) | ((with_reducible refine zae [260] (by decide) ?_); refine ldr (T := 24) (g := g) (vs := [.int .i64 _, .int .i64 _]) rfl rfl HX.out 2 rfl rfl Try.underlying24 rfl (by kernel_rfl) ?_) | ((with_reducible refine zae [237] (by decide) ?_); refine Kd.event_run rfl (v := .slice (some ⟨wc.heap.size, 0, none⟩) 2 2) (w1 := wc.alloc (.cells #[.int .i64 (x 14), .int .i64 (x 15)] 3)) (by first | (go_simp; done) | (go_simp; rfl)) ?_; have hb := zaa (Below.refl wc.heap.size wc) (.cells #[.int .i64 (x 14), .int .i64 (x 15)] 3); have HO := aK (HO.out.below hb); have HB := aK (HB.out.trans (hb.mono HB.out.size)); have HX := aK ((HB.out.block g (zad HX0.out)).trans HX0.out); clear hb) | ((with_reducible refine zae [244] (by decide) ?_); refine Kd.event_run rfl (v := .slice (some ⟨wc.heap.size, 0, none⟩) 1 1) (w1 := wc.alloc (.cells #[.int .i64 2, .int .i64 0, .string (s 16)] 98)) (by first | (go_simp; done) | (go_simp; rfl)) ?_; have HU := aK (RI.lit wc [iS (s 16)] [.int .i64 2, .int .i64 0, .string (s 16)] (Reps.c3 (PRf.k98_mkM _ _ _ (iS (s 16))) (Reps.none _ _)) (by simp)); have hb := zaa (Below.refl wc.heap.size wc) (.cells #[.int .i64 2, .int .i64 0, .string (s 16)] 98); have HO := aK (HO.out.below hb); have HB := aK (HB.out.trans (hb.mono HB.out.size)); have HX := aK ((HB.out.block g (zad HX0.out)).trans HX0.out); clear hb) | (go_at_call 51; (with_reducible refine (n2_c _ _ _).mono ?_); rintro e wc ⟨vn, rfl, hu, hb⟩; have HU := aK hu; have HO := aK (HO.out.below hb); have HB := aK (HB.out.trans (hb.mono HB.out.size)); have HX := aK ((HB.out.block g (zad HX0.out)).trans HX0.out); clear hu hb) | (go_at_call 52; (with_reducible refine (p_c _ _ _).mono ?_); rintro e wc ⟨vn, rfl, hu, hb⟩; have HU := aK hu; have HO := aK (HO.out.below hb); have HB := aK (HB.out.trans (hb.mono HB.out.size)); have HX := aK ((HB.out.block g (zad HX0.out)).trans HX0.out); clear hu hb) | (go_at_call 53; (with_reducible refine (s_c _ _).mono ?_); rintro e wc ⟨rfl, hb⟩; have HO := aK (HO.out.below hb); have HB := aK (HB.out.trans (hb.mono HB.out.size)); have HX := aK ((HB.out.block g (zad HX0.out)).trans HX0.out); clear hb) | ((with_reducible refine zap (b := .append) rfl ?_); refine appI rfl rfl rfl rfl HO.out HU.out HB.out HB.out.size (by have := HL.out; simp only [List.length_append, List.length_cons, List.length_nil]; omega) ?_; intro v1 wc ho hb hkp; have HO := aK ho; have HB := aK hb; have HX := aK ((HB.out.block g (zad HX0.out)).trans HX0.out); clear ho hb HU hkp))
 refine hK.out _ wc _ ⟨rfl, rfl, rfl⟩ rfl HO.out HB.out ?_
 first | rfl | (have e : x 0 = 8 := (by simpa using k8); rw [e]; rfl)
theorem ir0_c (w : World) (cs : Array Value) (K : Exit → Act → World → Prop) (hK : ∀ g a w', w'.heap[g]? = some (.cells cs 32 (0, 0)) → RFr 313 g a → Below w.heap.size w w' → K .normal a w') :
  Code.wp Try.prog (cl ib0) K ⟨#[.agg cs] ++ Array.replicate (Try.f23.ntmps - (#[Value.agg cs] : Array Value).size) undef, []⟩ w := by
 simp only [Try.ntmps23, List.size_toArray, List.length_cons, List.length_nil, Nat.reduceAdd, Nat.reduceSub, Array.replicate_succ,
  Array.replicate_zero, List.push_toArray, List.append_toArray, List.nil_append, List.cons_append]
 have hK := aK hK
 conv => arg 2; whnf
 go_wp2_with (first | ((with_reducible refine zag (N := 1) rfl ?_); refine zbf rfl 32 (.tmp 0) rfl cs rfl ?_; intro g1 w1 hg hbox hb; have HB1 := aK hb; have HX1 := aK hbox; clear hb hg hbox))
 exact hK.out g1 _ _ HX1.out ⟨rfl, rfl, rfl⟩ HB1.out
theorem ir1_c (w1 : World) (g : Nat) (f : Nat → Value) (x : Nat → Int) (s : Nat → ByteArray) (p : Nat → Bool) (A : Nat → Option Addr) (n c : Nat → Nat) (K : Exit → Act → World → Prop) (HX0 : Aside0 (w1.heap[g]? = some (.cells (cX x s p (fun j => .slice (A j) (n j) (c j))) 32 (0, 0))))
  (hK : Aside0 (∀ a W vo, RFr 313 g a → a.tmps[3]? = some vo → RI W w1.heap.size vo [iN (x 0)] → Below w1.heap.size w1 W → K .normal a W)) : Code.wp Try.prog (cl ib1) K (ifr g f) w1 := by
 have HX := HX0
 obtain ⟨wc, hwc⟩ : ∃ wc, wc = w1 := ⟨_, rfl⟩
 have HO := aK (show RI wc w1.heap.size (.slice none 0 0) [] from Kd.R_nil _ _ _ _ _)
 have HB := aK (show Below w1.heap.size w1 wc from hwc ▸ Below.refl _ _)
 have HX := aK ((HB.out.block g (zad HX0.out)).trans HX0.out)
 have hsz := aK (show w1.heap.size ≤ (wc.alloc (.cells #[.int .i64 (x 0)] 3)).heap.size from (zaa HB.out _).size)
 have e := hwc
 clear hwc
 conv => arg 5; rw [← e]
 clear e
 unfold ifr
 conv => arg 2; whnf
 go_wp2_with (first | ((with_reducible refine zae [10] (by decide) ?_); refine ld (T := 3) (g := g) (v := .int .i64 _) rfl rfl HX.out rfl rfl TuI rfl ?_) | ((with_reducible refine zae [11] (by decide) ?_); refine Kd.event_run rfl (v := .slice (some ⟨wc.heap.size, 0, none⟩) 1 1) (w1 := wc.alloc (.cells #[.int .i64 (x 0)] 3)) (by first | (go_simp; done) | (go_simp; rfl)) ?_; have hb := zaa (Below.refl wc.heap.size wc) (.cells #[.int .i64 (x 0)] 3); have HO := aK (HO.out.below hb); have HB := aK (HB.out.trans (hb.mono HB.out.size)); have HX := aK ((HB.out.block g (zad HX0.out)).trans HX0.out); clear hb) | (go_at_call 51; (with_reducible refine (n1_c _ _).mono ?_); rintro e wc ⟨vn, rfl, hu, hb⟩; have HU := aK hu; have HO := aK (HO.out.below hb); have HB := aK (HB.out.trans (hb.mono HB.out.size)); have HX := aK ((HB.out.block g (zad HX0.out)).trans HX0.out); clear hu hb) | ((with_reducible refine zap (b := .append) rfl ?_); refine appI rfl rfl rfl rfl HO.out HU.out HB.out HB.out.size (by have := HL.out; simp only [List.length_append, List.length_cons, List.length_nil]; omega) ?_; intro v1 wc ho hb hkp; have HO := aK ho; have HB := aK hb; have HX := aK ((HB.out.block g (zad HX0.out)).trans HX0.out); clear ho hb HU hkp))
 exact hK.out _ wc _ ⟨rfl, rfl, rfl⟩ rfl (HU.out.low hsz.out) HB.out
theorem is2_y (w1 wc : World) (g : Nat) (f : Nat → Value) (x : Nat → Int) (s : Nat → ByteArray) (p : Nat → Bool) (A : Nat → Option Addr) (n c : Nat → Nat) (K : Exit → Act → World → Prop) (l0 : List It) (vo kd : Value) (HX0 : Aside0 (w1.heap[g]? = some (.cells (cX x s p (fun j => .slice (A j) (n j) (c j))) 32 (0, 0)))) (h3 : f 3 = vo) (h37 : f 37 = kd) (HO : Aside0 (RI wc w1.heap.size vo l0)) (HB : Aside0 (Below w1.heap.size w1 wc)) (HL : Aside0 (l0.length ≤ 1000)) (k4 : (x 0 != 4) = true) (k6 : (x 0 != 6) = true)
  (hK : Aside0 (KI K g w1 kd (l0 ++ [iN (x 1)]))) : Code.wp Try.prog (cl ib2) K (ifr g f) wc := by
 have HX := aK ((HB.out.block g (zad HX0.out)).trans HX0.out)
 unfold ifr
 rw [h3, h37]
 conv => arg 2; whnf
 go_wp2_with (first | ((with_reducible refine zae [14, 18, 23] (by decide) ?_); refine ld (T := 3) (g := g) (v := .int .i64 _) rfl rfl HX.out rfl rfl TuI rfl ?_) | ((with_reducible refine zae [24] (by decide) ?_); refine Kd.event_run rfl (v := .slice (some ⟨wc.heap.size, 0, none⟩) 1 1) (w1 := wc.alloc (.cells #[.int .i64 (x 1)] 3)) (by first | (go_simp; done) | (go_simp; rfl)) ?_; have hb := zaa (Below.refl wc.heap.size wc) (.cells #[.int .i64 (x 1)] 3); have HO := aK (HO.out.below hb); have HB := aK (HB.out.trans (hb.mono HB.out.size)); have HX := aK ((HB.out.block g (zad HX0.out)).trans HX0.out); clear hb) | (go_at_call 51; (with_reducible refine (n1_c _ _).mono ?_); rintro e wc ⟨vn, rfl, hu, hb⟩; have HU := aK hu; have HO := aK (HO.out.below hb); have HB := aK (HB.out.trans (hb.mono HB.out.size)); have HX := aK ((HB.out.block g (zad HX0.out)).trans HX0.out); clear hu hb) | ((with_reducible refine zap (b := .append) rfl ?_); refine appI rfl rfl rfl rfl HO.out HU.out HB.out HB.out.size (by have := HL.out; simp only [List.length_append, List.length_cons, List.length_nil]; omega) ?_; intro v1 wc ho hb hkp; have HO := aK ho; have HB := aK hb; have HX := aK ((HB.out.block g (zad HX0.out)).trans HX0.out); clear ho hb HU hkp))
 exact hK.out _ wc _ ⟨rfl, rfl, rfl⟩ rfl HO.out HB.out rfl
theorem is2_n4 (w1 wc : World) (g : Nat) (f : Nat → Value) (x : Nat → Int) (s : Nat → ByteArray) (p : Nat → Bool) (A : Nat → Option Addr) (n c : Nat → Nat) (K : Exit → Act → World → Prop) (l0 : List It) (vo kd : Value) (HX0 : Aside0 (w1.heap[g]? = some (.cells (cX x s p (fun j => .slice (A j) (n j) (c j))) 32 (0, 0)))) (h3 : f 3 = vo) (h37 : f 37 = kd) (HO : Aside0 (RI wc w1.heap.size vo l0)) (HB : Aside0 (Below w1.heap.size w1 wc)) (HL : Aside0 (l0.length ≤ 1000)) (k4 : (x 0 != 4) = false)
  (hK : Aside0 (KI K g w1 kd (l0))) : Code.wp Try.prog (cl ib2) K (ifr g f) wc := by
 have HX := aK ((HB.out.block g (zad HX0.out)).trans HX0.out)
 unfold ifr
 rw [h3, h37]
 conv => arg 2; whnf
 go_wp2_with (first | ((with_reducible refine zae [14, 18, 23] (by decide) ?_); refine ld (T := 3) (g := g) (v := .int .i64 _) rfl rfl HX.out rfl rfl TuI rfl ?_) | ((with_reducible refine zae [24] (by decide) ?_); refine Kd.event_run rfl (v := .slice (some ⟨wc.heap.size, 0, none⟩) 1 1) (w1 := wc.alloc (.cells #[.int .i64 (x 1)] 3)) (by first | (go_simp; done) | (go_simp; rfl)) ?_; have hb := zaa (Below.refl wc.heap.size wc) (.cells #[.int .i64 (x 1)] 3); have HO := aK (HO.out.below hb); have HB := aK (HB.out.trans (hb.mono HB.out.size)); have HX := aK ((HB.out.block g (zad HX0.out)).trans HX0.out); clear hb) | (go_at_call 51; (with_reducible refine (n1_c _ _).mono ?_); rintro e wc ⟨vn, rfl, hu, hb⟩; have HU := aK hu; have HO := aK (HO.out.below hb); have HB := aK (HB.out.trans (hb.mono HB.out.size)); have HX := aK ((HB.out.block g (zad HX0.out)).trans HX0.out); clear hu hb) | ((with_reducible refine zap (b := .append) rfl ?_); refine appI rfl rfl rfl rfl HO.out HU.out HB.out HB.out.size (by have := HL.out; simp only [List.length_append, List.length_cons, List.length_nil]; omega) ?_; intro v1 wc ho hb hkp; have HO := aK ho; have HB := aK hb; have HX := aK ((HB.out.block g (zad HX0.out)).trans HX0.out); clear ho hb HU hkp))
 exact hK.out _ wc _ ⟨rfl, rfl, rfl⟩ rfl HO.out HB.out rfl
theorem is2_n6 (w1 wc : World) (g : Nat) (f : Nat → Value) (x : Nat → Int) (s : Nat → ByteArray) (p : Nat → Bool) (A : Nat → Option Addr) (n c : Nat → Nat) (K : Exit → Act → World → Prop) (l0 : List It) (vo kd : Value) (HX0 : Aside0 (w1.heap[g]? = some (.cells (cX x s p (fun j => .slice (A j) (n j) (c j))) 32 (0, 0)))) (h3 : f 3 = vo) (h37 : f 37 = kd) (HO : Aside0 (RI wc w1.heap.size vo l0)) (HB : Aside0 (Below w1.heap.size w1 wc)) (HL : Aside0 (l0.length ≤ 1000)) (k4 : (x 0 != 4) = true) (k6 : (x 0 != 6) = false)
  (hK : Aside0 (KI K g w1 kd (l0))) : Code.wp Try.prog (cl ib2) K (ifr g f) wc := by
 have HX := aK ((HB.out.block g (zad HX0.out)).trans HX0.out)
 unfold ifr
 rw [h3, h37]
 conv => arg 2; whnf
 go_wp2_with (first | ((with_reducible refine zae [14, 18, 23] (by decide) ?_); refine ld (T := 3) (g := g) (v := .int .i64 _) rfl rfl HX.out rfl rfl TuI rfl ?_) | ((with_reducible refine zae [24] (by decide) ?_); refine Kd.event_run rfl (v := .slice (some ⟨wc.heap.size, 0, none⟩) 1 1) (w1 := wc.alloc (.cells #[.int .i64 (x 1)] 3)) (by first | (go_simp; done) | (go_simp; rfl)) ?_; have hb := zaa (Below.refl wc.heap.size wc) (.cells #[.int .i64 (x 1)] 3); have HO := aK (HO.out.below hb); have HB := aK (HB.out.trans (hb.mono HB.out.size)); have HX := aK ((HB.out.block g (zad HX0.out)).trans HX0.out); clear hb) | (go_at_call 51; (with_reducible refine (n1_c _ _).mono ?_); rintro e wc ⟨vn, rfl, hu, hb⟩; have HU := aK hu; have HO := aK (HO.out.below hb); have HB := aK (HB.out.trans (hb.mono HB.out.size)); have HX := aK ((HB.out.block g (zad HX0.out)).trans HX0.out); clear hu hb) | ((with_reducible refine zap (b := .append) rfl ?_); refine appI rfl rfl rfl rfl HO.out HU.out HB.out HB.out.size (by have := HL.out; simp only [List.length_append, List.length_cons, List.length_nil]; omega) ?_; intro v1 wc ho hb hkp; have HO := aK ho; have HB := aK hb; have HX := aK ((HB.out.block g (zad HX0.out)).trans HX0.out); clear ho hb HU hkp))
 exact hK.out _ wc _ ⟨rfl, rfl, rfl⟩ rfl HO.out HB.out rfl
theorem is4_y (w1 wc : World) (g : Nat) (f : Nat → Value) (x : Nat → Int) (s : Nat → ByteArray) (p : Nat → Bool) (A : Nat → Option Addr) (n c : Nat → Nat) (K : Exit → Act → World → Prop) (l0 : List It) (vo kd : Value) (HX0 : Aside0 (w1.heap[g]? = some (.cells (cX x s p (fun j => .slice (A j) (n j) (c j))) 32 (0, 0)))) (h3 : f 3 = vo) (h37 : f 37 = kd) (HO : Aside0 (RI wc w1.heap.size vo l0)) (HB : Aside0 (Below w1.heap.size w1 wc)) (HL : Aside0 (l0.length ≤ 1000)) (k4 : (x 0 != 4) = true)
  (hK : Aside0 (KI K g w1 kd (l0 ++ [iN (x 2)]))) : Code.wp Try.prog (cl ib4) K (ifr g f) wc := by
 have HX := aK ((HB.out.block g (zad HX0.out)).trans HX0.out)
 unfold ifr
 rw [h3, h37]
 conv => arg 2; whnf
 go_wp2_with (first | ((with_reducible refine zae [28, 32] (by decide) ?_); refine ld (T := 3) (g := g) (v := .int .i64 _) rfl rfl HX.out rfl rfl TuI rfl ?_) | ((with_reducible refine zae [33] (by decide) ?_); refine Kd.event_run rfl (v := .slice (some ⟨wc.heap.size, 0, none⟩) 1 1) (w1 := wc.alloc (.cells #[.int .i64 (x 2)] 3)) (by first | (go_simp; done) | (go_simp; rfl)) ?_; have hb := zaa (Below.refl wc.heap.size wc) (.cells #[.int .i64 (x 2)] 3); have HO := aK (HO.out.below hb); have HB := aK (HB.out.trans (hb.mono HB.out.size)); have HX := aK ((HB.out.block g (zad HX0.out)).trans HX0.out); clear hb) | (go_at_call 51; (with_reducible refine (n1_c _ _).mono ?_); rintro e wc ⟨vn, rfl, hu, hb⟩; have HU := aK hu; have HO := aK (HO.out.below hb); have HB := aK (HB.out.trans (hb.mono HB.out.size)); have HX := aK ((HB.out.block g (zad HX0.out)).trans HX0.out); clear hu hb) | ((with_reducible refine zap (b := .append) rfl ?_); refine appI rfl rfl rfl rfl HO.out HU.out HB.out HB.out.size (by have := HL.out; simp only [List.length_append, List.length_cons, List.length_nil]; omega) ?_; intro v1 wc ho hb hkp; have HO := aK ho; have HB := aK hb; have HX := aK ((HB.out.block g (zad HX0.out)).trans HX0.out); clear ho hb HU hkp))
 exact hK.out _ wc _ ⟨rfl, rfl, rfl⟩ rfl HO.out HB.out rfl
theorem is4_n (w1 wc : World) (g : Nat) (f : Nat → Value) (x : Nat → Int) (s : Nat → ByteArray) (p : Nat → Bool) (A : Nat → Option Addr) (n c : Nat → Nat) (K : Exit → Act → World → Prop) (l0 : List It) (vo kd : Value) (HX0 : Aside0 (w1.heap[g]? = some (.cells (cX x s p (fun j => .slice (A j) (n j) (c j))) 32 (0, 0)))) (h3 : f 3 = vo) (h37 : f 37 = kd) (HO : Aside0 (RI wc w1.heap.size vo l0)) (HB : Aside0 (Below w1.heap.size w1 wc)) (HL : Aside0 (l0.length ≤ 1000)) (k4 : (x 0 != 4) = false)
  (hK : Aside0 (KI K g w1 kd (l0))) : Code.wp Try.prog (cl ib4) K (ifr g f) wc := by
 have HX := aK ((HB.out.block g (zad HX0.out)).trans HX0.out)
 unfold ifr
 rw [h3, h37]
 conv => arg 2; whnf
 go_wp2_with (first | ((with_reducible refine zae [28, 32] (by decide) ?_); refine ld (T := 3) (g := g) (v := .int .i64 _) rfl rfl HX.out rfl rfl TuI rfl ?_) | ((with_reducible refine zae [33] (by decide) ?_); refine Kd.event_run rfl (v := .slice (some ⟨wc.heap.size, 0, none⟩) 1 1) (w1 := wc.alloc (.cells #[.int .i64 (x 2)] 3)) (by first | (go_simp; done) | (go_simp; rfl)) ?_; have hb := zaa (Below.refl wc.heap.size wc) (.cells #[.int .i64 (x 2)] 3); have HO := aK (HO.out.below hb); have HB := aK (HB.out.trans (hb.mono HB.out.size)); have HX := aK ((HB.out.block g (zad HX0.out)).trans HX0.out); clear hb) | (go_at_call 51; (with_reducible refine (n1_c _ _).mono ?_); rintro e wc ⟨vn, rfl, hu, hb⟩; have HU := aK hu; have HO := aK (HO.out.below hb); have HB := aK (HB.out.trans (hb.mono HB.out.size)); have HX := aK ((HB.out.block g (zad HX0.out)).trans HX0.out); clear hu hb) | ((with_reducible refine zap (b := .append) rfl ?_); refine appI rfl rfl rfl rfl HO.out HU.out HB.out HB.out.size (by have := HL.out; simp only [List.length_append, List.length_cons, List.length_nil]; omega) ?_; intro v1 wc ho hb hkp; have HO := aK ho; have HB := aK hb; have HX := aK ((HB.out.block g (zad HX0.out)).trans HX0.out); clear ho hb HU hkp))
 exact hK.out _ wc _ ⟨rfl, rfl, rfl⟩ rfl HO.out HB.out rfl
theorem ir6_c (w1 wc : World) (g : Nat) (f : Nat → Value) (x : Nat → Int) (s : Nat → ByteArray) (p : Nat → Bool) (A : Nat → Option Addr) (n c : Nat → Nat) (K : Exit → Act → World → Prop) (vo kd : Value) (HX0 : Aside0 (w1.heap[g]? = some (.cells (cX x s p (fun j => .slice (A j) (n j) (c j))) 32 (0, 0)))) (h3 : f 3 = vo) (h37 : f 37 = kd) (HB : Aside0 (Below w1.heap.size w1 wc))
  (hK : Aside0 (∀ a, RFr 313 g a → a.tmps[3]? = some vo → a.tmps[37]? = some (.int .i64 (x 0)) → K .normal a wc)) : Code.wp Try.prog (cl (cl ib6)) K (ifr g f) wc := by
 have HX := aK ((HB.out.block g (zad HX0.out)).trans HX0.out)
 unfold ifr
 rw [h3, h37]
 conv => arg 2; whnf
 go_wp2_with (first | ((with_reducible refine zae [37] (by decide) ?_); refine ld (T := 3) (g := g) (v := .int .i64 _) rfl rfl HX.out rfl rfl TuI rfl ?_) | ((with_reducible refine zap (b := .append) rfl ?_); refine appI rfl rfl rfl rfl HO.out HU.out HB.out HB.out.size (by have := HL.out; simp only [List.length_append, List.length_cons, List.length_nil]; omega) ?_; intro v1 wc ho hb hkp; have HO := aK ho; have HB := aK hb; have HX := aK ((HB.out.block g (zad HX0.out)).trans HX0.out); clear ho hb HU hkp))
 exact hK.out _ ⟨rfl, rfl, rfl⟩ rfl rfl
def c1 : Code → Code | .cond _ a _ => a | c => c
def c2 : Code → Code | .cond _ _ b => b | c => c
noncomputable def ic7 : Code := cl (cr (cl ib6))
noncomputable def ic8 : Code := c1 (cr ic7)
noncomputable def ic16 : Code := c2 (cr ic7)
noncomputable def ic18 : Code := c2 (cr ic16)
noncomputable def ic19 : Code := c1 (cr ic18)
noncomputable def ic32 : Code := c2 (cr ic18)
noncomputable def ic33 : Code := c1 (cr ic32)
theorem ir7_c (w1 wc : World) (g : Nat) (f : Nat → Value) (x : Nat → Int) (s : Nat → ByteArray) (p : Nat → Bool) (A : Nat → Option Addr) (n c : Nat → Nat) (K : Exit → Act → World → Prop) (vo kd : Value) (HX0 : Aside0 (w1.heap[g]? = some (.cells (cX x s p (fun j => .slice (A j) (n j) (c j))) 32 (0, 0)))) (h3 : f 3 = vo) (h37 : f 37 = kd) (HB : Aside0 (Below w1.heap.size w1 wc)) (hkd : kd = .int .i64 (x 0)) (b : Bool) (hb : (x 0 == 1) = b)
  (hK : Aside0 (∀ a, RFr 313 g a → a.tmps[3]? = some vo → a.tmps[37]? = some kd → a.tmps[38]? = some (.bool b) → K .normal a wc)) : Code.wp Try.prog (cl (cl (cr (cl ib6)))) K (ifr g f) wc := by
 have HX := aK ((HB.out.block g (zad HX0.out)).trans HX0.out)
 unfold ifr
 rw [h3, h37]
 rw [hkd] at hK ⊢
 conv => arg 2; whnf
 go_wp2_with (first | fail)
 exact hK.out _ ⟨rfl, rfl, rfl⟩ rfl rfl (by rw [← hb]; rfl)
theorem ir16_c (w1 wc : World) (g : Nat) (f : Nat → Value) (x : Nat → Int) (s : Nat → ByteArray) (p : Nat → Bool) (A : Nat → Option Addr) (n c : Nat → Nat) (K : Exit → Act → World → Prop) (vo kd : Value) (HX0 : Aside0 (w1.heap[g]? = some (.cells (cX x s p (fun j => .slice (A j) (n j) (c j))) 32 (0, 0)))) (h3 : f 3 = vo) (h37 : f 37 = kd) (HB : Aside0 (Below w1.heap.size w1 wc)) (hkd : kd = .int .i64 (x 0)) (b : Bool) (hb : (x 0 == 2) = b)
  (hK : Aside0 (∀ a, RFr 313 g a → a.tmps[3]? = some vo → a.tmps[37]? = some kd → a.tmps[84]? = some (.bool b) → K .normal a wc)) : Code.wp Try.prog (cl ic16) K (ifr g f) wc := by
 have HX := aK ((HB.out.block g (zad HX0.out)).trans HX0.out)
 unfold ifr
 rw [h3, h37]
 rw [hkd] at hK ⊢
 conv => arg 2; whnf
 go_wp2_with (first | fail)
 exact hK.out _ ⟨rfl, rfl, rfl⟩ rfl rfl (by rw [← hb]; rfl)
theorem ir18_c (w1 wc : World) (g : Nat) (f : Nat → Value) (x : Nat → Int) (s : Nat → ByteArray) (p : Nat → Bool) (A : Nat → Option Addr) (n c : Nat → Nat) (K : Exit → Act → World → Prop) (vo kd : Value) (HX0 : Aside0 (w1.heap[g]? = some (.cells (cX x s p (fun j => .slice (A j) (n j) (c j))) 32 (0, 0)))) (h3 : f 3 = vo) (h37 : f 37 = kd) (HB : Aside0 (Below w1.heap.size w1 wc)) (hkd : kd = .int .i64 (x 0)) (b : Bool) (hb : (x 0 == 3) = b)
  (hK : Aside0 (∀ a, RFr 313 g a → a.tmps[3]? = some vo → a.tmps[37]? = some kd → a.tmps[91]? = some (.bool b) → K .normal a wc)) : Code.wp Try.prog (cl ic18) K (ifr g f) wc := by
 have HX := aK ((HB.out.block g (zad HX0.out)).trans HX0.out)
 unfold ifr
 rw [h3, h37]
 rw [hkd] at hK ⊢
 conv => arg 2; whnf
 go_wp2_with (first | fail)
 exact hK.out _ ⟨rfl, rfl, rfl⟩ rfl rfl (by rw [← hb]; rfl)
theorem ir32_c (w1 wc : World) (g : Nat) (f : Nat → Value) (x : Nat → Int) (s : Nat → ByteArray) (p : Nat → Bool) (A : Nat → Option Addr) (n c : Nat → Nat) (K : Exit → Act → World → Prop) (vo kd : Value) (HX0 : Aside0 (w1.heap[g]? = some (.cells (cX x s p (fun j => .slice (A j) (n j) (c j))) 32 (0, 0)))) (h3 : f 3 = vo) (h37 : f 37 = kd) (HB : Aside0 (Below w1.heap.size w1 wc)) (hkd : kd = .int .i64 (x 0)) (b : Bool) (hb : (x 0 == 4) = b)
  (hK : Aside0 (∀ a, RFr 313 g a → a.tmps[3]? = some vo → a.tmps[37]? = some kd → a.tmps[174]? = some (.bool b) → K .normal a wc)) : Code.wp Try.prog (cl ic32) K (ifr g f) wc := by
 have HX := aK ((HB.out.block g (zad HX0.out)).trans HX0.out)
 unfold ifr
 rw [h3, h37]
 rw [hkd] at hK ⊢
 conv => arg 2; whnf
 go_wp2_with (first | fail)
 exact hK.out _ ⟨rfl, rfl, rfl⟩ rfl rfl (by rw [← hb]; rfl)
theorem zum (wc : World) (g : Nat) (f : Nat → Value) (K : Exit → Act → World → Prop) (vo : Value) (h3 : f 3 = vo) (hK : Aside0 (∀ a, RFr 313 g a → a.tmps[2]? = some vo → K .ret a wc)) : Code.wp Try.prog ib58 K (ifr g f) wc := by
 unfold ifr
 rw [h3]
 conv => arg 2; whnf
 go_wp2_with fail
 exact hK.out _ ⟨rfl, rfl, rfl⟩ rfl
theorem znw {W : World} {q : Addr} {row : List Value} (h : ∀ j v, row[j]? = some v → W.cell? (q.add j) = some v) (k j : Nat) (v : Value) (hj : (row.drop k)[j]? = some v) : W.cell? ((q.add k).add j) = some v := by
 rw [Addr.add_add]
 exact h (k + j) v (by rw [← hj, List.getElem?_drop])
theorem RI.only {W W' : World} {base : Nat} {v : Value} {l : List It} {ge : Nat} {cs : Array Value} {T : TypeId} (h : RI W base v l) (hO : Only (· = ge) W W') (hge : W.heap[ge]? = some (.cells cs T (0, 0))) (hT : T ≠ 98) : RI W' base v l :=
 Kd.R_mono (Kd.R_move (Kd.R_bound h) (fun k hk => hO.block k hk.2.2.1 (fun e => by
  obtain ⟨_, _, _, q, hq, cells, hc⟩ := hk
  have hq' : q ∈ ([98] : List Nat) := hq
  rw [e, hge] at hc
  injection hc with hc
  injection hc with _ hc
  simp only [List.mem_cons, List.not_mem_nil, or_false] at hq'
  exact hT (hc.trans hq')))) (fun _ _ => trivial)
def itF : Fld → Value → It
 | .num _ _, .int .i64 n => iN n
 | .flag, .bool b => iF b
 | .text _, .string s => iS s
 | _, _ => iN 0
def itR : List Fld → List Value → List It
 | f :: fs, v :: vs => itF f v :: itR fs vs
 | _, _ => []
theorem zlh : ∀ (fs : List Fld) (vs : List Value), (itR fs vs).length ≤ fs.length
 | [], _ => Nat.zero_le _
 | _ :: _, [] => Nat.zero_le _
 | f :: fs, v :: vs => Nat.succ_le_succ (zlh fs vs)
theorem zfh (fs : List Fld) (k : Nat) (hk : fs.length ≤ k) : ∀ rows : List (List Value), (rows.flatMap (itR fs)).length ≤ k * rows.length
 | [] => Nat.zero_le _
 | r :: rows => by
  have h1 := zlh fs r
  have h2 := zfh fs k hk rows
  simp only [List.flatMap_cons, List.length_append, List.length_cons, Nat.mul_add, Nat.mul_one]
  omega
theorem id_entry (w1 wc : World) (g : Nat) (f : Nat → Value) (x : Nat → Int) (s : Nat → ByteArray) (p : Nat → Bool) (A : Nat → Option Addr) (n c : Nat → Nat) (K : Exit → Act → World → Prop) (l0 : List It) (vo kd : Value) (i : Nat) (ad : Addr) (e0 : Int) (e1 : Int) (e2 : Int) (e3 : Int) (e4 : ByteArray) (e5 : Bool) (e6 : ByteArray) (HX0 : Aside0 (w1.heap[g]? = some (.cells (cX x s p (fun j => .slice (A j) (n j) (c j))) 32 (0, 0)))) (h3 : f 3 = vo) (h37 : f 37 = kd) (hsi : f 4 = .int .i64 (i : Int)) (HO : Aside0 (RI wc w1.heap.size vo l0)) (HB : Aside0 (Below w1.heap.size w1 wc)) (HL : Aside0 (l0.length ≤ 1000)) (hP : ∀ c a d v w, K (.panic c) (a.put d v) w → K (.panic c) a w)
  (hi : i < n 3) (hn : n 3 ≤ 1048576) (HA : Aside0 (A 3 = some ad)) (HR : Aside0 (∀ W, Below w1.heap.size w1 W → ∀ j v, ([.int .i64 e0, .int .i64 e1, .int .i64 e2, .int .i64 e3, .string e4, .bool e5, .string e6] : List Value)[j]? = some v → W.cell? ((ad.add (i * 7)).add j) = some v))
  (hK : Aside0 (∀ a W vo', RFr 313 g a → a.tmps[3]? = some vo' → RI W w1.heap.size vo' (l0 ++ [iN e0, iN e1] ++ [iN e2, iN e3] ++ [iS (e4), iF (e5), iS (e6)]) → Below w1.heap.size w1 W → a.tmps[37]? = some kd → a.tmps[4]? = some (.int .i64 ((i + 1 : Nat) : Int)) → K .normal a W)) : Code.wp Try.prog (cl (cl (cr (cr ic8)))) K (ifr g f) wc := by
 have HX := aK ((HB.out.block g (zad HX0.out)).trans HX0.out)
 have F : ∀ W, Below w1.heap.size w1 W → W.heap[g]? = some (.cells (cX x s p (fun j => .slice (A j) (n j) (c j))) 32 (0, 0)) := fun W hB => (hB.block g (zad HX0.out)).trans HX0.out
 unfold ifr
 rw [h3, h37, hsi]
 have hd : decide ((i : Int) < ((n 3 : Nat) : Int)) = true := by simp; omega
 have hp := eq_true (show (0 : Int) ≤ (i : Int) by omega)
 have hq := eq_true (show (i : Int) < ((n 3 : Nat) : Int) by omega)
 have hw : IntKind.i64.wrap ((i : Int) + 1) = ((i + 1 : Nat) : Int) := by rw [IntKind.wrap_i64]; omega
 clear hi hn
 conv => arg 2; whnf
 go_upto_region 15 with (first | ((with_reducible refine zae [49, 55] (by decide) ?_); refine ld (T := 22) (g := g) (v := .slice (some ad) (n 3) (c 3)) rfl rfl HX.out (by rw [← HA.out]; rfl) rfl TuE rfl ?_) | ((with_reducible refine zae [58] (by decide) ?_); refine ldA (T := 66) (q := ad.add (i * 7)) (vs := [.int .i64 e0, .int .i64 e1, .int .i64 e2, .int .i64 e3, .string e4, .bool e5, .string e6]) rfl rfl (HR.out wc HB.out) rfl Try.underlying66 rfl (by kernel_rfl) ?_) | ((with_reducible refine zae [5] (by decide) ?_); refine zbe rfl 66 rfl #[.int .i64 0, .int .i64 0, .int .i64 0, .int .i64 0, .string (⟨#[]⟩ : ByteArray), .bool false, .string (⟨#[]⟩ : ByteArray)] (by first | (go_simp; done) | (go_simp; rfl)) ?_; intro ge wc hg hbox hb; have HE0 := aK hbox; have HGE := aK (show w1.heap.size ≤ ge from by rw [hg]; exact HB.out.size); have HO := aK (HO.out.below hb); have HB := aK (HB.out.trans (hb.mono HB.out.size)); have HX := aK ((HB.out.block g (zad HX0.out)).trans HX0.out); clear hg hbox hb) | ((with_reducible refine zan (t := 66) (p := 5) rfl ?_); refine zbk rfl 66 (.tmp 5) (.tmp 58) rfl ge rfl #[.int .i64 e0, .int .i64 e1, .int .i64 e2, .int .i64 e3, .string e4, .bool e5, .string e6] _ rfl 66 HE0.out rfl (by kernel_rfl) rfl ?_; intro wc hX hO; have HO := aK (HO.out.only hO HE0.out (by decide)); have HE := aK hX; have HB := aK (zaz HB.out hO HB.out.size (fun k hk => by rw [hk]; exact HGE.out)); have HX := aK ((HB.out.block g (zad HX0.out)).trans HX0.out); clear hX hO HE0) | ((with_reducible refine zae [66, 68] (by decide) ?_); refine ld (T := 3) (g := ge) (v := .int .i64 _) rfl rfl HE.out rfl rfl TuI rfl ?_) | ((with_reducible refine zae [61] (by decide) ?_); refine ldr (T := 24) (g := ge) (vs := [.int .i64 _, .int .i64 _]) rfl rfl HE.out 2 rfl rfl Try.underlying24 rfl (by kernel_rfl) ?_) | ((with_reducible refine zae [69] (by decide) ?_); refine Kd.event_run rfl (v := .slice (some ⟨wc.heap.size, 0, none⟩) 2 2) (w1 := wc.alloc (.cells #[.int .i64 e2, .int .i64 e3] 3)) (by first | (go_simp; done) | (go_simp; rfl)) ?_; have hb := zaa (Below.refl wc.heap.size wc) (.cells #[.int .i64 e2, .int .i64 e3] 3); have HO := aK (HO.out.below hb); have HB := aK (HB.out.trans (hb.mono HB.out.size)); have HX := aK ((HB.out.block g (zad HX0.out)).trans HX0.out); have HE := aK ((hb.block ge (zad HE.out)).trans HE.out); clear hb) | (go_at_call 51; (with_reducible refine (n2_c _ _ _).mono ?_); rintro e wc ⟨vn, rfl, hu, hb⟩; have HU := aK hu; have HO := aK (HO.out.below hb); have HB := aK (HB.out.trans (hb.mono HB.out.size)); have HX := aK ((HB.out.block g (zad HX0.out)).trans HX0.out); have HE := aK ((hb.block ge (zad HE.out)).trans HE.out); clear hu hb) | (go_at_call 52; (with_reducible refine (p_c _ _ _).mono ?_); rintro e wc ⟨vn, rfl, hu, hb⟩; have HU := aK hu; have HO := aK (HO.out.below hb); have HB := aK (HB.out.trans (hb.mono HB.out.size)); have HX := aK ((HB.out.block g (zad HX0.out)).trans HX0.out); have HE := aK ((hb.block ge (zad HE.out)).trans HE.out); clear hu hb) | ((with_reducible refine zap (b := .append) rfl ?_); refine appI rfl rfl rfl rfl HO.out HU.out HB.out HB.out.size (by have := HL.out; simp only [List.length_append, List.length_cons, List.length_nil]; omega) ?_; intro v1 wc ho hb hkp; have HO := aK ho; have HB := aK hb; have HX := aK ((HB.out.block g (zad HX0.out)).trans HX0.out); have HE := aK (hkp ge _ _ (by decide) HE.out); clear ho hb HU hkp))
 refine wp_region_held_drew (S := (fun W => Below w1.heap.size w1 W ∧ W.heap[ge]? = some (.cells #[.int .i64 e0, .int .i64 e1, .int .i64 e2, .int .i64 e3, .string e4, .bool e5, .string e6] 66 (0, 0)))) (by kernel_rfl) (⟨HB.out.drew, HE.out⟩) (fun hHeld => ?_)
 have HO := aK (HO.out.below (Below.refl _ _).drew); have HB := aK (HB.out.drew); generalize wc.drew = wc at HO HB hHeld ⊢
 refine tkH 0 72 (_) rfl rfl (by kernel_rfl) (fun c a d v w h => hP c a d v w h) hHeld (by rfl) (by intro W hSW; go_simp; (try with_reducible rfl)) ?_; try simp only [Act.put, aS, aZ, aC]
 refine tkH 1 73 (.pointer (some ⟨ge, 4, none⟩)) rfl rfl (by kernel_rfl) (fun c a d v w h => hP c a d v w h) hHeld (by rfl) (by intro W hSW; go_simp; (try with_reducible rfl)) ?_; try simp only [Act.put, aS, aZ, aC]
 refine tkH 2 74 (.string e4) rfl rfl (by kernel_rfl) (fun c a d v w h => hP c a d v w h) hHeld (by rfl) (by exact fun W hSW => zca rfl (g := ge) (off := 4) rfl ((zab hSW.2 4).trans rfl) TuX rfl) ?_; try simp only [Act.put, aS, aZ, aC]
 refine tkH 4 76 (.pointer (some ⟨ge, 5, none⟩)) rfl rfl (by kernel_rfl) (fun c a d v w h => hP c a d v w h) hHeld (by rfl) (by intro W hSW; go_simp; (try with_reducible rfl)) ?_; try simp only [Act.put, aS, aZ, aC]
 refine tkH 5 77 (.bool e5) rfl rfl (by kernel_rfl) (fun c a d v w h => hP c a d v w h) hHeld (by rfl) (by exact fun W hSW => zca rfl (g := ge) (off := 5) rfl ((zab hSW.2 5).trans rfl) TuB rfl) ?_; try simp only [Act.put, aS, aZ, aC]
 refine tkH 7 79 (.pointer (some ⟨ge, 6, none⟩)) rfl rfl (by kernel_rfl) (fun c a d v w h => hP c a d v w h) hHeld (by rfl) (by intro W hSW; go_simp; (try with_reducible rfl)) ?_; try simp only [Act.put, aS, aZ, aC]
 refine tkH 8 80 (.string e6) rfl rfl (by kernel_rfl) (fun c a d v w h => hP c a d v w h) hHeld (by rfl) (by exact fun W hSW => zca rfl (g := ge) (off := 6) rfl ((zab hSW.2 6).trans rfl) TuX rfl) ?_; try simp only [Act.put, aS, aZ, aC]
 refine zdg 3 75 rfl rfl (by kernel_rfl) (by rfl) Try.func53 (by kernel_rfl) #[.string e4] rfl (by simp only [List.map_toArray, List.map_cons, List.map_nil]; rfl) ((s_c _ _).mono ?_); rintro e wc ⟨rfl, hb⟩; have HO := aK (HO.out.below hb); have HB := aK (HB.out.trans (hb.mono HB.out.size)); have hHeld := (⟨HB.out, (hb.block ge (zad hHeld.2)).trans hHeld.2⟩ : _ ∧ _); refine ⟨_, rfl, hHeld, ?_⟩; clear hb; try simp only [Act.put, aS, aZ, aC]
 refine zdg 6 78 rfl rfl (by kernel_rfl) (by rfl) Try.func54 (by kernel_rfl) #[.bool e5] rfl (by simp only [List.map_toArray, List.map_cons, List.map_nil]; rfl) ((f_c _ _).mono ?_); rintro e wc ⟨rfl, hb⟩; have HO := aK (HO.out.below hb); have HB := aK (HB.out.trans (hb.mono HB.out.size)); have hHeld := (⟨HB.out, (hb.block ge (zad hHeld.2)).trans hHeld.2⟩ : _ ∧ _); refine ⟨_, rfl, hHeld, ?_⟩; clear hb; try simp only [Act.put, aS, aZ, aC]
 refine zdg 9 81 rfl rfl (by kernel_rfl) (by rfl) Try.func53 (by kernel_rfl) #[.string e6] rfl (by simp only [List.map_toArray, List.map_cons, List.map_nil]; rfl) ((s_c _ _).mono ?_); rintro e wc ⟨rfl, hb⟩; have HO := aK (HO.out.below hb); have HB := aK (HB.out.trans (hb.mono HB.out.size)); have hHeld := (⟨HB.out, (hb.block ge (zad hHeld.2)).trans hHeld.2⟩ : _ ∧ _); refine ⟨_, rfl, hHeld, ?_⟩; clear hb; try simp only [Act.put, aS, aZ, aC]
 have HU := aK (RI.lit wc [iS (e4), iF (e5), iS (e6)] [.int .i64 2, .int .i64 0, .string (e4), .int .i64 1, .int .i64 (fi (e5)), .string ⟨#[]⟩, .int .i64 2, .int .i64 0, .string (e6)] (Reps.c3 (PRf.k98_mkM _ _ _ (iS (e4))) (Reps.c3 (PRf.k98_mkM _ _ _ (iF (e5))) (Reps.c3 (PRf.k98_mkM _ _ _ (iS (e6))) (Reps.none _ _)))) (by simp)); have hb := zaa (Below.refl wc.heap.size wc) (.cells #[.int .i64 2, .int .i64 0, .string (e4), .int .i64 1, .int .i64 (fi (e5)), .string ⟨#[]⟩, .int .i64 2, .int .i64 0, .string (e6)] 98); have HO := aK (HO.out.below hb); have HB := aK (HB.out.trans (hb.mono HB.out.size)); have hHeld := (⟨HB.out, (hb.block ge (zad hHeld.2)).trans hHeld.2⟩ : _ ∧ _); refine evH 10 82 (v := .slice (some ⟨wc.heap.size, 0, none⟩) 3 3) (w1 := wc.alloc (.cells #[.int .i64 2, .int .i64 0, .string (e4), .int .i64 1, .int .i64 (fi (e5)), .string ⟨#[]⟩, .int .i64 2, .int .i64 0, .string (e6)] 98)) rfl rfl (by kernel_rfl) (by rfl) (by first | (go_simp; done) | (go_simp; rfl)) hHeld ?_; clear hb; try simp only [Act.put, aS, aZ, aC]
 refine appH 11 83 rfl rfl (by kernel_rfl) (by rfl) rfl rfl rfl HO.out HU.out HB.out HB.out.size (by have := HL.out; simp only [List.length_append, List.length_cons, List.length_nil]; omega) ?_; intro v1 wc ho hb hkp; have HO := aK ho; have HB := aK hb; have hHeld := (⟨HB.out, hkp ge _ _ (by decide) hHeld.2⟩ : _ ∧ _); clear ho hb; refine ⟨hHeld, ?_⟩; try simp only [Act.put, aS, aZ, aC]
 refine tkH 12 3 (v1) rfl rfl (by kernel_rfl) (fun c a d v w h => hP c a d v w h) hHeld (by rfl) (by intro W hSW; go_simp; (try with_reducible rfl)) ?_; try simp only [Act.put, aS, aZ, aC]
 refine wpAnyH_done (by kernel_rfl) ?_ _; have HX := aK (F _ HB.out)
 have HE := aK hHeld.2
 go_wp2_with (first | ((with_reducible refine zae [49, 55] (by decide) ?_); refine ld (T := 22) (g := g) (v := .slice (some ad) (n 3) (c 3)) rfl rfl HX.out (by rw [← HA.out]; rfl) rfl TuE rfl ?_) | ((with_reducible refine zae [58] (by decide) ?_); refine ldA (T := 66) (q := ad.add (i * 7)) (vs := [.int .i64 e0, .int .i64 e1, .int .i64 e2, .int .i64 e3, .string e4, .bool e5, .string e6]) rfl rfl (HR.out wc HB.out) rfl Try.underlying66 rfl (by kernel_rfl) ?_) | ((with_reducible refine zae [5] (by decide) ?_); refine zbe rfl 66 rfl #[.int .i64 0, .int .i64 0, .int .i64 0, .int .i64 0, .string (⟨#[]⟩ : ByteArray), .bool false, .string (⟨#[]⟩ : ByteArray)] (by first | (go_simp; done) | (go_simp; rfl)) ?_; intro ge wc hg hbox hb; have HE0 := aK hbox; have HGE := aK (show w1.heap.size ≤ ge from by rw [hg]; exact HB.out.size); have HO := aK (HO.out.below hb); have HB := aK (HB.out.trans (hb.mono HB.out.size)); have HX := aK ((HB.out.block g (zad HX0.out)).trans HX0.out); clear hg hbox hb) | ((with_reducible refine zan (t := 66) (p := 5) rfl ?_); refine zbk rfl 66 (.tmp 5) (.tmp 58) rfl ge rfl #[.int .i64 e0, .int .i64 e1, .int .i64 e2, .int .i64 e3, .string e4, .bool e5, .string e6] _ rfl 66 HE0.out rfl (by kernel_rfl) rfl ?_; intro wc hX hO; have HO := aK (HO.out.only hO HE0.out (by decide)); have HE := aK hX; have HB := aK (zaz HB.out hO HB.out.size (fun k hk => by rw [hk]; exact HGE.out)); have HX := aK ((HB.out.block g (zad HX0.out)).trans HX0.out); clear hX hO HE0) | ((with_reducible refine zae [66, 68] (by decide) ?_); refine ld (T := 3) (g := ge) (v := .int .i64 _) rfl rfl HE.out rfl rfl TuI rfl ?_) | ((with_reducible refine zae [61] (by decide) ?_); refine ldr (T := 24) (g := ge) (vs := [.int .i64 _, .int .i64 _]) rfl rfl HE.out 2 rfl rfl Try.underlying24 rfl (by kernel_rfl) ?_) | ((with_reducible refine zae [69] (by decide) ?_); refine Kd.event_run rfl (v := .slice (some ⟨wc.heap.size, 0, none⟩) 2 2) (w1 := wc.alloc (.cells #[.int .i64 e2, .int .i64 e3] 3)) (by first | (go_simp; done) | (go_simp; rfl)) ?_; have hb := zaa (Below.refl wc.heap.size wc) (.cells #[.int .i64 e2, .int .i64 e3] 3); have HO := aK (HO.out.below hb); have HB := aK (HB.out.trans (hb.mono HB.out.size)); have HX := aK ((HB.out.block g (zad HX0.out)).trans HX0.out); have HE := aK ((hb.block ge (zad HE.out)).trans HE.out); clear hb) | (go_at_call 51; (with_reducible refine (n2_c _ _ _).mono ?_); rintro e wc ⟨vn, rfl, hu, hb⟩; have HU := aK hu; have HO := aK (HO.out.below hb); have HB := aK (HB.out.trans (hb.mono HB.out.size)); have HX := aK ((HB.out.block g (zad HX0.out)).trans HX0.out); have HE := aK ((hb.block ge (zad HE.out)).trans HE.out); clear hu hb) | (go_at_call 52; (with_reducible refine (p_c _ _ _).mono ?_); rintro e wc ⟨vn, rfl, hu, hb⟩; have HU := aK hu; have HO := aK (HO.out.below hb); have HB := aK (HB.out.trans (hb.mono HB.out.size)); have HX := aK ((HB.out.block g (zad HX0.out)).trans HX0.out); have HE := aK ((hb.block ge (zad HE.out)).trans HE.out); clear hu hb) | ((with_reducible refine zap (b := .append) rfl ?_); refine appI rfl rfl rfl rfl HO.out HU.out HB.out HB.out.size (by have := HL.out; simp only [List.length_append, List.length_cons, List.length_nil]; omega) ?_; intro v1 wc ho hb hkp; have HO := aK ho; have HB := aK hb; have HX := aK ((HB.out.block g (zad HX0.out)).trans HX0.out); have HE := aK (hkp ge _ _ (by decide) HE.out); clear ho hb HU hkp))
 exact hK.out _ wc _ ⟨rfl, rfl, rfl⟩ rfl HO.out HB.out rfl (by first | rfl | (rw [← hw]; rfl) | (simp; done))
theorem ie_entry (w1 wc : World) (g : Nat) (f : Nat → Value) (x : Nat → Int) (s : Nat → ByteArray) (p : Nat → Bool) (A : Nat → Option Addr) (n c : Nat → Nat) (K : Exit → Act → World → Prop) (i : Nat) (HX0 : Aside0 (w1.heap[g]? = some (.cells (cX x s p (fun j => .slice (A j) (n j) (c j))) 32 (0, 0)))) (hsi : f 4 = .int .i64 (i : Int)) (HB : Aside0 (Below w1.heap.size w1 wc)) (vo kd : Value) (h3 : f 3 = vo) (h37 : f 37 = kd) (hd : decide ((i : Int) < ((n 3 : Nat) : Int)) = false)
  (hK : ∀ a, RFr 313 g a → a.tmps[3]? = some vo → a.tmps[37]? = some kd → K (.exit 1) a wc) : Code.wp Try.prog (cl (cl (cr (cr ic8)))) K (ifr g f) wc := by
 have HX := aK ((HB.out.block g (zad HX0.out)).trans HX0.out)
 unfold ifr
 rw [hsi, h3, h37]
 have hq := eq_false (of_decide_eq_false hd)
 have hn := eq_false (show ¬ i < n 3 by have := of_decide_eq_false hd; omega)
 conv => arg 2; whnf
 go_wp2_with (first | ((with_reducible refine zae [49] (by decide) ?_); refine ld (T := 22) (g := g) (v := .slice (A 3) (n 3) (c 3)) rfl rfl HX.out (by rfl) rfl TuE rfl ?_))
 all_goals first | exact ⟨rfl, rfl, rfl⟩ | rfl | exact hK _ ⟨rfl, rfl, rfl⟩ rfl rfl
theorem id_pair (w1 wc : World) (g : Nat) (f : Nat → Value) (x : Nat → Int) (s : Nat → ByteArray) (p : Nat → Bool) (A : Nat → Option Addr) (n c : Nat → Nat) (K : Exit → Act → World → Prop) (l0 : List It) (vo kd : Value) (i : Nat) (ad : Addr) (e0 : ByteArray) (e1 : Int) (e2 : Int) (e3 : Bool) (e4 : ByteArray) (HX0 : Aside0 (w1.heap[g]? = some (.cells (cX x s p (fun j => .slice (A j) (n j) (c j))) 32 (0, 0)))) (h3 : f 3 = vo) (h37 : f 37 = kd) (hsi : f 6 = .int .i64 (i : Int)) (HO : Aside0 (RI wc w1.heap.size vo l0)) (HB : Aside0 (Below w1.heap.size w1 wc)) (HL : Aside0 (l0.length ≤ 1000)) (hP : ∀ c a d v w, K (.panic c) (a.put d v) w → K (.panic c) a w)
  (hi : i < n 8) (hn : n 8 ≤ 1048576) (HA : Aside0 (A 8 = some ad)) (HR : Aside0 (∀ W, Below w1.heap.size w1 W → ∀ j v, ([.string e0, .int .i64 e1, .int .i64 e2, .bool e3, .string e4] : List Value)[j]? = some v → W.cell? ((ad.add (i * 5)).add j) = some v))
  (hK : Aside0 (∀ a W vo', RFr 313 g a → a.tmps[3]? = some vo' → RI W w1.heap.size vo' (l0 ++ [iS (e0)] ++ [iN e1, iN e2, iF e3, iS e4]) → Below w1.heap.size w1 W → a.tmps[37]? = some kd → a.tmps[6]? = some (.int .i64 ((i + 1 : Nat) : Int)) → K .normal a W)) : Code.wp Try.prog (cl (cl (cr (cl (cr (cr ic19)))))) K (ifr g f) wc := by
 have HX := aK ((HB.out.block g (zad HX0.out)).trans HX0.out)
 unfold ifr
 rw [h3, h37, hsi]
 have hd : decide ((i : Int) < ((n 8 : Nat) : Int)) = true := by simp; omega
 have hp := eq_true (show (0 : Int) ≤ (i : Int) by omega)
 have hq := eq_true (show (i : Int) < ((n 8 : Nat) : Int) by omega)
 have hw : IntKind.i64.wrap ((i : Int) + 1) = ((i + 1 : Nat) : Int) := by rw [IntKind.wrap_i64]; omega
 clear hi hn
 conv => arg 2; whnf
 go_wp2_with (first | ((with_reducible refine zae [111, 118, 128] (by decide) ?_); refine ld (T := 25) (g := g) (v := .slice (some ad) (n 8) (c 8)) rfl rfl HX.out (by rw [← HA.out]; rfl) rfl TuP rfl ?_) | ((with_reducible refine zae [122] (by decide) ?_); refine ldq (T := 9) (q := ad.add (i * 5)) (v := .string e0) rfl rfl (HR.out wc HB.out 0 _ rfl) rfl TuX rfl ?_) | ((with_reducible refine zae [132] (by decide) ?_); refine ldA (T := 30) (q := ⟨(ad.add (i * 5)).block, (ad.add (i * 5)).off + 1, none⟩) (vs := [.int .i64 e1, .int .i64 e2, .bool e3, .string e4]) rfl rfl (znw (HR.out wc HB.out) 1) rfl Try.underlying30 rfl (by kernel_rfl) ?_) | ((with_reducible refine zae [124] (by decide) ?_); refine Kd.event_run rfl (v := .slice (some ⟨wc.heap.size, 0, none⟩) 1 1) (w1 := wc.alloc (.cells #[.int .i64 2, .int .i64 0, .string (e0)] 98)) (by first | (go_simp; done) | (go_simp; rfl)) ?_; have HU := aK (RI.lit wc [iS (e0)] [.int .i64 2, .int .i64 0, .string (e0)] (Reps.c3 (PRf.k98_mkM _ _ _ (iS (e0))) (Reps.none _ _)) (by simp)); have hb := zaa (Below.refl wc.heap.size wc) (.cells #[.int .i64 2, .int .i64 0, .string (e0)] 98); have HO := aK (HO.out.below hb); have HB := aK (HB.out.trans (hb.mono HB.out.size)); have HX := aK ((HB.out.block g (zad HX0.out)).trans HX0.out); clear hb) | (go_at_call 55; (with_reducible refine (v_c _ _ _ _ _).mono ?_); rintro e wc ⟨vn, rfl, hu, hb⟩; have HU := aK hu; have HO := aK (HO.out.below hb); have HB := aK (HB.out.trans (hb.mono HB.out.size)); have HX := aK ((HB.out.block g (zad HX0.out)).trans HX0.out); clear hu hb) | (go_at_call 53; (with_reducible refine (s_c _ _).mono ?_); rintro e wc ⟨rfl, hb⟩; have HO := aK (HO.out.below hb); have HB := aK (HB.out.trans (hb.mono HB.out.size)); have HX := aK ((HB.out.block g (zad HX0.out)).trans HX0.out); clear hb) | ((with_reducible refine zap (b := .append) rfl ?_); refine appI rfl rfl rfl rfl HO.out HU.out HB.out HB.out.size (by have := HL.out; simp only [List.length_append, List.length_cons, List.length_nil]; omega) ?_; intro v1 wc ho hb hkp; have HO := aK ho; have HB := aK hb; have HX := aK ((HB.out.block g (zad HX0.out)).trans HX0.out); clear ho hb HU hkp))
 exact hK.out _ wc _ ⟨rfl, rfl, rfl⟩ rfl HO.out HB.out rfl (by first | rfl | (rw [← hw]; rfl) | (simp; done))
theorem ie_pair (w1 wc : World) (g : Nat) (f : Nat → Value) (x : Nat → Int) (s : Nat → ByteArray) (p : Nat → Bool) (A : Nat → Option Addr) (n c : Nat → Nat) (K : Exit → Act → World → Prop) (i : Nat) (HX0 : Aside0 (w1.heap[g]? = some (.cells (cX x s p (fun j => .slice (A j) (n j) (c j))) 32 (0, 0)))) (hsi : f 6 = .int .i64 (i : Int)) (HB : Aside0 (Below w1.heap.size w1 wc)) (vo kd : Value) (h3 : f 3 = vo) (h37 : f 37 = kd) (hd : decide ((i : Int) < ((n 8 : Nat) : Int)) = false)
  (hK : ∀ a, RFr 313 g a → a.tmps[3]? = some vo → a.tmps[37]? = some kd → K (.exit 3) a wc) : Code.wp Try.prog (cl (cl (cr (cl (cr (cr ic19)))))) K (ifr g f) wc := by
 have HX := aK ((HB.out.block g (zad HX0.out)).trans HX0.out)
 unfold ifr
 rw [hsi, h3, h37]
 have hq := eq_false (of_decide_eq_false hd)
 have hn := eq_false (show ¬ i < n 8 by have := of_decide_eq_false hd; omega)
 conv => arg 2; whnf
 go_wp2_with (first | ((with_reducible refine zae [111] (by decide) ?_); refine ld (T := 25) (g := g) (v := .slice (A 8) (n 8) (c 8)) rfl rfl HX.out (by rfl) rfl TuP rfl ?_))
 all_goals first | exact ⟨rfl, rfl, rfl⟩ | rfl | exact hK _ ⟨rfl, rfl, rfl⟩ rfl rfl
theorem id_seen (w1 wc : World) (g : Nat) (f : Nat → Value) (x : Nat → Int) (s : Nat → ByteArray) (p : Nat → Bool) (A : Nat → Option Addr) (n c : Nat → Nat) (K : Exit → Act → World → Prop) (l0 : List It) (vo kd : Value) (i : Nat) (ad : Addr) (e0 : Int) (e1 : Int) (e2 : Int) (e3 : Int) (HX0 : Aside0 (w1.heap[g]? = some (.cells (cX x s p (fun j => .slice (A j) (n j) (c j))) 32 (0, 0)))) (h3 : f 3 = vo) (h37 : f 37 = kd) (hsi : f 7 = .int .i64 (i : Int)) (HO : Aside0 (RI wc w1.heap.size vo l0)) (HB : Aside0 (Below w1.heap.size w1 wc)) (HL : Aside0 (l0.length ≤ 1000)) (hP : ∀ c a d v w, K (.panic c) (a.put d v) w → K (.panic c) a w)
  (hi : i < n 9) (hn : n 9 ≤ 1048576) (HA : Aside0 (A 9 = some ad)) (HR : Aside0 (∀ W, Below w1.heap.size w1 W → ∀ j v, ([.int .i64 e0, .int .i64 e1, .int .i64 e2, .int .i64 e3] : List Value)[j]? = some v → W.cell? ((ad.add (i * 4)).add j) = some v))
  (hK : Aside0 (∀ a W vo', RFr 313 g a → a.tmps[3]? = some vo' → RI W w1.heap.size vo' (l0 ++ [iN e0, iN e1] ++ [iN e2, iN e3]) → Below w1.heap.size w1 W → a.tmps[37]? = some kd → a.tmps[7]? = some (.int .i64 ((i + 1 : Nat) : Int)) → K .normal a W)) : Code.wp Try.prog (cl (cl (cr (cr (cr (cr (cr ic19))))))) K (ifr g f) wc := by
 have HX := aK ((HB.out.block g (zad HX0.out)).trans HX0.out)
 have F : ∀ W, Below w1.heap.size w1 W → W.heap[g]? = some (.cells (cX x s p (fun j => .slice (A j) (n j) (c j))) 32 (0, 0)) := fun W hB => (hB.block g (zad HX0.out)).trans HX0.out
 unfold ifr
 rw [h3, h37, hsi]
 have hd : decide ((i : Int) < ((n 9 : Nat) : Int)) = true := by simp; omega
 have hp := eq_true (show (0 : Int) ≤ (i : Int) by omega)
 have hq := eq_true (show (i : Int) < ((n 9 : Nat) : Int) by omega)
 have hw : IntKind.i64.wrap ((i : Int) + 1) = ((i + 1 : Nat) : Int) := by rw [IntKind.wrap_i64]; omega
 clear hi hn
 conv => arg 2; whnf
 go_upto_region 30 with (first | ((with_reducible refine zae [144, 167] (by decide) ?_); refine ld (T := 26) (g := g) (v := .slice (some ad) (n 9) (c 9)) rfl rfl HX.out (by rw [← HA.out]; rfl) rfl TuS rfl ?_) | ((with_reducible refine zae [171] (by decide) ?_); refine ldA (T := 24) (q := ⟨(ad.add (i * 4)).block, (ad.add (i * 4)).off + 2, none⟩) (vs := [.int .i64 e2, .int .i64 e3]) rfl rfl (znw (HR.out wc HB.out) 2) rfl Try.underlying24 rfl (by kernel_rfl) ?_) | (go_at_call 52; (with_reducible refine (p_c _ _ _).mono ?_); rintro e wc ⟨vn, rfl, hu, hb⟩; have HU := aK hu; have HO := aK (HO.out.below hb); have HB := aK (HB.out.trans (hb.mono HB.out.size)); have HX := aK ((HB.out.block g (zad HX0.out)).trans HX0.out); clear hu hb) | ((with_reducible refine zap (b := .append) rfl ?_); refine appI rfl rfl rfl rfl HO.out HU.out HB.out HB.out.size (by have := HL.out; simp only [List.length_append, List.length_cons, List.length_nil]; omega) ?_; intro v1 wc ho hb hkp; have HO := aK ho; have HB := aK hb; have HX := aK ((HB.out.block g (zad HX0.out)).trans HX0.out); clear ho hb HU hkp))
 refine wp_region_held_drew (S := (fun W => Below w1.heap.size w1 W)) (by kernel_rfl) (HB.out.drew) (fun hHeld => ?_)
 have HO := aK (HO.out.below (Below.refl _ _).drew); have HB := aK (HB.out.drew); generalize wc.drew = wc at HO HB hHeld ⊢
 refine tkH 0 149 (_) rfl rfl (by kernel_rfl) (fun c a d v w h => hP c a d v w h) hHeld (by rfl) (by intro W hSW; go_simp; (try with_reducible rfl)) ?_; try simp only [Act.put, aS, aZ, aC]
 refine tkH 1 150 (.pointer (some ⟨g, 9, none⟩)) rfl rfl (by kernel_rfl) (fun c a d v w h => hP c a d v w h) hHeld (by rfl) (by intro W hSW; go_simp; (try with_reducible rfl)) ?_; try simp only [Act.put, aS, aZ, aC]
 refine tkH 2 151 (.slice (some ad) (n 9) (c 9)) rfl rfl (by kernel_rfl) (fun c a d v w h => hP c a d v w h) hHeld (by rfl) (by exact fun W hSW => zca rfl (g := g) (off := 9) rfl ((zab (F W hSW) 9).trans (by rw [← HA.out]; rfl)) TuS rfl) ?_; try simp only [Act.put, aS, aZ, aC]
 refine tkH 3 152 (.int .i64 (i : Int)) rfl rfl (by kernel_rfl) (fun c a d v w h => hP c a d v w h) hHeld (by rfl) (by intro W hSW; go_simp; (try with_reducible rfl)) ?_; try simp only [Act.put, aS, aZ, aC]
 refine tkH 4 153 (.pointer (some (ad.add (i * 4)))) rfl rfl (by kernel_rfl) (fun c a d v w h => hP c a d v w h) hHeld (by rfl) (by intro W hSW; go_simp; (try with_reducible rfl)) ?_; try simp only [Act.put, aS, aZ, aC]
 refine tkH 5 154 (.pointer (some (ad.add (i * 4)))) rfl rfl (by kernel_rfl) (fun c a d v w h => hP c a d v w h) hHeld (by rfl) (by intro W hSW; go_simp; (try with_reducible rfl)) ?_; try simp only [Act.put, aS, aZ, aC]
 refine tkH 6 155 (.int .i64 e0) rfl rfl (by kernel_rfl) (fun c a d v w h => hP c a d v w h) hHeld (by rfl) (by exact fun W hSW => zjh rfl (q := (ad.add (i * 4))) rfl (HR.out W hSW 0 _ rfl) TuI rfl) ?_; try simp only [Act.put, aS, aZ, aC]
 refine tkH 7 156 (.pointer (some ⟨g, 9, none⟩)) rfl rfl (by kernel_rfl) (fun c a d v w h => hP c a d v w h) hHeld (by rfl) (by intro W hSW; go_simp; (try with_reducible rfl)) ?_; try simp only [Act.put, aS, aZ, aC]
 refine tkH 8 157 (.slice (some ad) (n 9) (c 9)) rfl rfl (by kernel_rfl) (fun c a d v w h => hP c a d v w h) hHeld (by rfl) (by exact fun W hSW => zca rfl (g := g) (off := 9) rfl ((zab (F W hSW) 9).trans (by rw [← HA.out]; rfl)) TuS rfl) ?_; try simp only [Act.put, aS, aZ, aC]
 refine tkH 9 158 (.int .i64 (i : Int)) rfl rfl (by kernel_rfl) (fun c a d v w h => hP c a d v w h) hHeld (by rfl) (by intro W hSW; go_simp; (try with_reducible rfl)) ?_; try simp only [Act.put, aS, aZ, aC]
 refine tkH 10 159 (.pointer (some (ad.add (i * 4)))) rfl rfl (by kernel_rfl) (fun c a d v w h => hP c a d v w h) hHeld (by rfl) (by intro W hSW; go_simp; (try with_reducible rfl)) ?_; try simp only [Act.put, aS, aZ, aC]
 refine tkH 11 160 (.pointer (some ⟨(ad.add (i * 4)).block, (ad.add (i * 4)).off + 1, none⟩)) rfl rfl (by kernel_rfl) (fun c a d v w h => hP c a d v w h) hHeld (by rfl) (by intro W hSW; go_simp; (try with_reducible rfl)) ?_; try simp only [Act.put, aS, aZ, aC]
 refine tkH 12 161 (.int .i64 e1) rfl rfl (by kernel_rfl) (fun c a d v w h => hP c a d v w h) hHeld (by rfl) (by exact fun W hSW => zjh rfl (q := ⟨(ad.add (i * 4)).block, (ad.add (i * 4)).off + 1, none⟩) rfl (HR.out W hSW 1 _ rfl) TuI rfl) ?_; try simp only [Act.put, aS, aZ, aC]
 have hb := zaa (Below.refl wc.heap.size wc) (.cells #[.int .i64 e0, .int .i64 e1] 3); have HO := aK (HO.out.below hb); have HB := aK (HB.out.trans (hb.mono HB.out.size)); have hHeld := HB.out; refine evH 13 162 (v := .slice (some ⟨wc.heap.size, 0, none⟩) 2 2) (w1 := wc.alloc (.cells #[.int .i64 e0, .int .i64 e1] 3)) rfl rfl (by kernel_rfl) (by rfl) (by first | (go_simp; done) | (go_simp; rfl)) hHeld ?_; clear hb; try simp only [Act.put, aS, aZ, aC]
 refine zdg 14 163 rfl rfl (by kernel_rfl) (by rfl) Try.func51 (by kernel_rfl) _ rfl (by simp only [List.map_toArray, List.map_cons, List.map_nil]; rfl) ((n2_c _ _ _).mono ?_); rintro e wc ⟨vn, rfl, hu, hb⟩; have HU := aK hu; have HO := aK (HO.out.below hb); have HB := aK (HB.out.trans (hb.mono HB.out.size)); have hHeld := HB.out; refine ⟨_, rfl, hHeld, ?_⟩; clear hb hu; try simp only [Act.put, aS, aZ, aC]
 refine appH 15 164 rfl rfl (by kernel_rfl) (by rfl) rfl rfl rfl HO.out HU.out HB.out HB.out.size (by have := HL.out; simp only [List.length_append, List.length_cons, List.length_nil]; omega) ?_; intro v1 wc ho hb hkp; have HO := aK ho; have HB := aK hb; have hHeld := HB.out; clear ho hb; refine ⟨hHeld, ?_⟩; try simp only [Act.put, aS, aZ, aC]
 refine tkH 16 3 (v1) rfl rfl (by kernel_rfl) (fun c a d v w h => hP c a d v w h) hHeld (by rfl) (by intro W hSW; go_simp; (try with_reducible rfl)) ?_; try simp only [Act.put, aS, aZ, aC]
 refine wpAnyH_done (by kernel_rfl) ?_ _; have HX := aK (F _ HB.out)
 go_wp2_with (first | ((with_reducible refine zae [144, 167] (by decide) ?_); refine ld (T := 26) (g := g) (v := .slice (some ad) (n 9) (c 9)) rfl rfl HX.out (by rw [← HA.out]; rfl) rfl TuS rfl ?_) | ((with_reducible refine zae [171] (by decide) ?_); refine ldA (T := 24) (q := ⟨(ad.add (i * 4)).block, (ad.add (i * 4)).off + 2, none⟩) (vs := [.int .i64 e2, .int .i64 e3]) rfl rfl (znw (HR.out wc HB.out) 2) rfl Try.underlying24 rfl (by kernel_rfl) ?_) | (go_at_call 52; (with_reducible refine (p_c _ _ _).mono ?_); rintro e wc ⟨vn, rfl, hu, hb⟩; have HU := aK hu; have HO := aK (HO.out.below hb); have HB := aK (HB.out.trans (hb.mono HB.out.size)); have HX := aK ((HB.out.block g (zad HX0.out)).trans HX0.out); clear hu hb) | ((with_reducible refine zap (b := .append) rfl ?_); refine appI rfl rfl rfl rfl HO.out HU.out HB.out HB.out.size (by have := HL.out; simp only [List.length_append, List.length_cons, List.length_nil]; omega) ?_; intro v1 wc ho hb hkp; have HO := aK ho; have HB := aK hb; have HX := aK ((HB.out.block g (zad HX0.out)).trans HX0.out); clear ho hb HU hkp))
 exact hK.out _ wc _ ⟨rfl, rfl, rfl⟩ rfl HO.out HB.out rfl (by first | rfl | (rw [← hw]; rfl) | (simp; done))
theorem ie_seen (w1 wc : World) (g : Nat) (f : Nat → Value) (x : Nat → Int) (s : Nat → ByteArray) (p : Nat → Bool) (A : Nat → Option Addr) (n c : Nat → Nat) (K : Exit → Act → World → Prop) (i : Nat) (HX0 : Aside0 (w1.heap[g]? = some (.cells (cX x s p (fun j => .slice (A j) (n j) (c j))) 32 (0, 0)))) (hsi : f 7 = .int .i64 (i : Int)) (HB : Aside0 (Below w1.heap.size w1 wc)) (vo kd : Value) (h3 : f 3 = vo) (h37 : f 37 = kd) (hd : decide ((i : Int) < ((n 9 : Nat) : Int)) = false)
  (hK : ∀ a, RFr 313 g a → a.tmps[3]? = some vo → a.tmps[37]? = some kd → K (.exit 5) a wc) : Code.wp Try.prog (cl (cl (cr (cr (cr (cr (cr ic19))))))) K (ifr g f) wc := by
 have HX := aK ((HB.out.block g (zad HX0.out)).trans HX0.out)
 unfold ifr
 rw [hsi, h3, h37]
 have hq := eq_false (of_decide_eq_false hd)
 have hn := eq_false (show ¬ i < n 9 by have := of_decide_eq_false hd; omega)
 conv => arg 2; whnf
 go_wp2_with (first | ((with_reducible refine zae [144] (by decide) ?_); refine ld (T := 26) (g := g) (v := .slice (A 9) (n 9) (c 9)) rfl rfl HX.out (by rfl) rfl TuS rfl ?_))
 all_goals first | exact ⟨rfl, rfl, rfl⟩ | rfl | exact hK _ ⟨rfl, rfl, rfl⟩ rfl rfl
theorem id_epoch (w1 wc : World) (g : Nat) (f : Nat → Value) (x : Nat → Int) (s : Nat → ByteArray) (p : Nat → Bool) (A : Nat → Option Addr) (n c : Nat → Nat) (K : Exit → Act → World → Prop) (l0 : List It) (vo kd : Value) (i : Nat) (ad : Addr) (e0 : Int) (e1 : Int) (e2 : Bool) (HX0 : Aside0 (w1.heap[g]? = some (.cells (cX x s p (fun j => .slice (A j) (n j) (c j))) 32 (0, 0)))) (h3 : f 3 = vo) (h37 : f 37 = kd) (hsi : f 8 = .int .i64 (i : Int)) (HO : Aside0 (RI wc w1.heap.size vo l0)) (HB : Aside0 (Below w1.heap.size w1 wc)) (HL : Aside0 (l0.length ≤ 1000)) (hP : ∀ c a d v w, K (.panic c) (a.put d v) w → K (.panic c) a w)
  (hi : i < n 10) (hn : n 10 ≤ 1048576) (HA : Aside0 (A 10 = some ad)) (HR : Aside0 (∀ W, Below w1.heap.size w1 W → ∀ j v, ([.int .i64 e0, .int .i64 e1, .bool e2] : List Value)[j]? = some v → W.cell? ((ad.add (i * 3)).add j) = some v))
  (hK : Aside0 (∀ a W vo', RFr 313 g a → a.tmps[3]? = some vo' → RI W w1.heap.size vo' (l0 ++ [iN e0, iN e1] ++ [iF (e2)]) → Below w1.heap.size w1 W → a.tmps[37]? = some kd → a.tmps[8]? = some (.int .i64 ((i + 1 : Nat) : Int)) → K .normal a W)) : Code.wp Try.prog (cl (cl (cr (cr ic33)))) K (ifr g f) wc := by
 have HX := aK ((HB.out.block g (zad HX0.out)).trans HX0.out)
 have F : ∀ W, Below w1.heap.size w1 W → W.heap[g]? = some (.cells (cX x s p (fun j => .slice (A j) (n j) (c j))) 32 (0, 0)) := fun W hB => (hB.block g (zad HX0.out)).trans HX0.out
 unfold ifr
 rw [h3, h37, hsi]
 have hd : decide ((i : Int) < ((n 10 : Nat) : Int)) = true := by simp; omega
 have hp := eq_true (show (0 : Int) ≤ (i : Int) by omega)
 have hq := eq_true (show (i : Int) < ((n 10 : Nat) : Int) by omega)
 have hw : IntKind.i64.wrap ((i : Int) + 1) = ((i + 1 : Nat) : Int) := by rw [IntKind.wrap_i64]; omega
 clear hi hn
 conv => arg 2; whnf
 go_upto_region 37 with (first | ((with_reducible refine zae [185, 208] (by decide) ?_); refine ld (T := 27) (g := g) (v := .slice (some ad) (n 10) (c 10)) rfl rfl HX.out (by rw [← HA.out]; rfl) rfl TuT rfl ?_) | ((with_reducible refine zae [212] (by decide) ?_); refine ldq (T := 4) (q := ⟨(ad.add (i * 3)).block, (ad.add (i * 3)).off + 2, none⟩) (v := .bool e2) rfl rfl (HR.out wc HB.out 2 _ rfl) rfl TuB rfl ?_) | ((with_reducible refine zae [214] (by decide) ?_); refine Kd.event_run rfl (v := .slice (some ⟨wc.heap.size, 0, none⟩) 1 1) (w1 := wc.alloc (.cells #[.int .i64 1, .int .i64 (fi (e2)), .string ⟨#[]⟩] 98)) (by first | (go_simp; done) | (go_simp; rfl)) ?_; have HU := aK (RI.lit wc [iF (e2)] [.int .i64 1, .int .i64 (fi (e2)), .string ⟨#[]⟩] (Reps.c3 (PRf.k98_mkM _ _ _ (iF (e2))) (Reps.none _ _)) (by simp)); have hb := zaa (Below.refl wc.heap.size wc) (.cells #[.int .i64 1, .int .i64 (fi (e2)), .string ⟨#[]⟩] 98); have HO := aK (HO.out.below hb); have HB := aK (HB.out.trans (hb.mono HB.out.size)); have HX := aK ((HB.out.block g (zad HX0.out)).trans HX0.out); clear hb) | (go_at_call 54; (with_reducible refine (f_c _ _).mono ?_); rintro e wc ⟨rfl, hb⟩; have HO := aK (HO.out.below hb); have HB := aK (HB.out.trans (hb.mono HB.out.size)); have HX := aK ((HB.out.block g (zad HX0.out)).trans HX0.out); clear hb) | ((with_reducible refine zap (b := .append) rfl ?_); refine appI rfl rfl rfl rfl HO.out HU.out HB.out HB.out.size (by have := HL.out; simp only [List.length_append, List.length_cons, List.length_nil]; omega) ?_; intro v1 wc ho hb hkp; have HO := aK ho; have HB := aK hb; have HX := aK ((HB.out.block g (zad HX0.out)).trans HX0.out); clear ho hb HU hkp))
 refine wp_region_held_drew (S := (fun W => Below w1.heap.size w1 W)) (by kernel_rfl) (HB.out.drew) (fun hHeld => ?_)
 have HO := aK (HO.out.below (Below.refl _ _).drew); have HB := aK (HB.out.drew); generalize wc.drew = wc at HO HB hHeld ⊢
 refine tkH 0 190 (_) rfl rfl (by kernel_rfl) (fun c a d v w h => hP c a d v w h) hHeld (by rfl) (by intro W hSW; go_simp; (try with_reducible rfl)) ?_; try simp only [Act.put, aS, aZ, aC]
 refine tkH 1 191 (.pointer (some ⟨g, 10, none⟩)) rfl rfl (by kernel_rfl) (fun c a d v w h => hP c a d v w h) hHeld (by rfl) (by intro W hSW; go_simp; (try with_reducible rfl)) ?_; try simp only [Act.put, aS, aZ, aC]
 refine tkH 2 192 (.slice (some ad) (n 10) (c 10)) rfl rfl (by kernel_rfl) (fun c a d v w h => hP c a d v w h) hHeld (by rfl) (by exact fun W hSW => zca rfl (g := g) (off := 10) rfl ((zab (F W hSW) 10).trans (by rw [← HA.out]; rfl)) TuT rfl) ?_; try simp only [Act.put, aS, aZ, aC]
 refine tkH 3 193 (.int .i64 (i : Int)) rfl rfl (by kernel_rfl) (fun c a d v w h => hP c a d v w h) hHeld (by rfl) (by intro W hSW; go_simp; (try with_reducible rfl)) ?_; try simp only [Act.put, aS, aZ, aC]
 refine tkH 4 194 (.pointer (some (ad.add (i * 3)))) rfl rfl (by kernel_rfl) (fun c a d v w h => hP c a d v w h) hHeld (by rfl) (by intro W hSW; go_simp; (try with_reducible rfl)) ?_; try simp only [Act.put, aS, aZ, aC]
 refine tkH 5 195 (.pointer (some (ad.add (i * 3)))) rfl rfl (by kernel_rfl) (fun c a d v w h => hP c a d v w h) hHeld (by rfl) (by intro W hSW; go_simp; (try with_reducible rfl)) ?_; try simp only [Act.put, aS, aZ, aC]
 refine tkH 6 196 (.int .i64 e0) rfl rfl (by kernel_rfl) (fun c a d v w h => hP c a d v w h) hHeld (by rfl) (by exact fun W hSW => zjh rfl (q := (ad.add (i * 3))) rfl (HR.out W hSW 0 _ rfl) TuI rfl) ?_; try simp only [Act.put, aS, aZ, aC]
 refine tkH 7 197 (.pointer (some ⟨g, 10, none⟩)) rfl rfl (by kernel_rfl) (fun c a d v w h => hP c a d v w h) hHeld (by rfl) (by intro W hSW; go_simp; (try with_reducible rfl)) ?_; try simp only [Act.put, aS, aZ, aC]
 refine tkH 8 198 (.slice (some ad) (n 10) (c 10)) rfl rfl (by kernel_rfl) (fun c a d v w h => hP c a d v w h) hHeld (by rfl) (by exact fun W hSW => zca rfl (g := g) (off := 10) rfl ((zab (F W hSW) 10).trans (by rw [← HA.out]; rfl)) TuT rfl) ?_; try simp only [Act.put, aS, aZ, aC]
 refine tkH 9 199 (.int .i64 (i : Int)) rfl rfl (by kernel_rfl) (fun c a d v w h => hP c a d v w h) hHeld (by rfl) (by intro W hSW; go_simp; (try with_reducible rfl)) ?_; try simp only [Act.put, aS, aZ, aC]
 refine tkH 10 200 (.pointer (some (ad.add (i * 3)))) rfl rfl (by kernel_rfl) (fun c a d v w h => hP c a d v w h) hHeld (by rfl) (by intro W hSW; go_simp; (try with_reducible rfl)) ?_; try simp only [Act.put, aS, aZ, aC]
 refine tkH 11 201 (.pointer (some ⟨(ad.add (i * 3)).block, (ad.add (i * 3)).off + 1, none⟩)) rfl rfl (by kernel_rfl) (fun c a d v w h => hP c a d v w h) hHeld (by rfl) (by intro W hSW; go_simp; (try with_reducible rfl)) ?_; try simp only [Act.put, aS, aZ, aC]
 refine tkH 12 202 (.int .i64 e1) rfl rfl (by kernel_rfl) (fun c a d v w h => hP c a d v w h) hHeld (by rfl) (by exact fun W hSW => zjh rfl (q := ⟨(ad.add (i * 3)).block, (ad.add (i * 3)).off + 1, none⟩) rfl (HR.out W hSW 1 _ rfl) TuI rfl) ?_; try simp only [Act.put, aS, aZ, aC]
 have hb := zaa (Below.refl wc.heap.size wc) (.cells #[.int .i64 e0, .int .i64 e1] 3); have HO := aK (HO.out.below hb); have HB := aK (HB.out.trans (hb.mono HB.out.size)); have hHeld := HB.out; refine evH 13 203 (v := .slice (some ⟨wc.heap.size, 0, none⟩) 2 2) (w1 := wc.alloc (.cells #[.int .i64 e0, .int .i64 e1] 3)) rfl rfl (by kernel_rfl) (by rfl) (by first | (go_simp; done) | (go_simp; rfl)) hHeld ?_; clear hb; try simp only [Act.put, aS, aZ, aC]
 refine zdg 14 204 rfl rfl (by kernel_rfl) (by rfl) Try.func51 (by kernel_rfl) _ rfl (by simp only [List.map_toArray, List.map_cons, List.map_nil]; rfl) ((n2_c _ _ _).mono ?_); rintro e wc ⟨vn, rfl, hu, hb⟩; have HU := aK hu; have HO := aK (HO.out.below hb); have HB := aK (HB.out.trans (hb.mono HB.out.size)); have hHeld := HB.out; refine ⟨_, rfl, hHeld, ?_⟩; clear hb hu; try simp only [Act.put, aS, aZ, aC]
 refine appH 15 205 rfl rfl (by kernel_rfl) (by rfl) rfl rfl rfl HO.out HU.out HB.out HB.out.size (by have := HL.out; simp only [List.length_append, List.length_cons, List.length_nil]; omega) ?_; intro v1 wc ho hb hkp; have HO := aK ho; have HB := aK hb; have hHeld := HB.out; clear ho hb; refine ⟨hHeld, ?_⟩; try simp only [Act.put, aS, aZ, aC]
 refine tkH 16 3 (v1) rfl rfl (by kernel_rfl) (fun c a d v w h => hP c a d v w h) hHeld (by rfl) (by intro W hSW; go_simp; (try with_reducible rfl)) ?_; try simp only [Act.put, aS, aZ, aC]
 refine wpAnyH_done (by kernel_rfl) ?_ _; have HX := aK (F _ HB.out)
 go_wp2_with (first | ((with_reducible refine zae [185, 208] (by decide) ?_); refine ld (T := 27) (g := g) (v := .slice (some ad) (n 10) (c 10)) rfl rfl HX.out (by rw [← HA.out]; rfl) rfl TuT rfl ?_) | ((with_reducible refine zae [212] (by decide) ?_); refine ldq (T := 4) (q := ⟨(ad.add (i * 3)).block, (ad.add (i * 3)).off + 2, none⟩) (v := .bool e2) rfl rfl (HR.out wc HB.out 2 _ rfl) rfl TuB rfl ?_) | ((with_reducible refine zae [214] (by decide) ?_); refine Kd.event_run rfl (v := .slice (some ⟨wc.heap.size, 0, none⟩) 1 1) (w1 := wc.alloc (.cells #[.int .i64 1, .int .i64 (fi (e2)), .string ⟨#[]⟩] 98)) (by first | (go_simp; done) | (go_simp; rfl)) ?_; have HU := aK (RI.lit wc [iF (e2)] [.int .i64 1, .int .i64 (fi (e2)), .string ⟨#[]⟩] (Reps.c3 (PRf.k98_mkM _ _ _ (iF (e2))) (Reps.none _ _)) (by simp)); have hb := zaa (Below.refl wc.heap.size wc) (.cells #[.int .i64 1, .int .i64 (fi (e2)), .string ⟨#[]⟩] 98); have HO := aK (HO.out.below hb); have HB := aK (HB.out.trans (hb.mono HB.out.size)); have HX := aK ((HB.out.block g (zad HX0.out)).trans HX0.out); clear hb) | (go_at_call 54; (with_reducible refine (f_c _ _).mono ?_); rintro e wc ⟨rfl, hb⟩; have HO := aK (HO.out.below hb); have HB := aK (HB.out.trans (hb.mono HB.out.size)); have HX := aK ((HB.out.block g (zad HX0.out)).trans HX0.out); clear hb) | ((with_reducible refine zap (b := .append) rfl ?_); refine appI rfl rfl rfl rfl HO.out HU.out HB.out HB.out.size (by have := HL.out; simp only [List.length_append, List.length_cons, List.length_nil]; omega) ?_; intro v1 wc ho hb hkp; have HO := aK ho; have HB := aK hb; have HX := aK ((HB.out.block g (zad HX0.out)).trans HX0.out); clear ho hb HU hkp))
 exact hK.out _ wc _ ⟨rfl, rfl, rfl⟩ rfl HO.out HB.out rfl (by first | rfl | (rw [← hw]; rfl) | (simp; done))
theorem ie_epoch (w1 wc : World) (g : Nat) (f : Nat → Value) (x : Nat → Int) (s : Nat → ByteArray) (p : Nat → Bool) (A : Nat → Option Addr) (n c : Nat → Nat) (K : Exit → Act → World → Prop) (i : Nat) (HX0 : Aside0 (w1.heap[g]? = some (.cells (cX x s p (fun j => .slice (A j) (n j) (c j))) 32 (0, 0)))) (hsi : f 8 = .int .i64 (i : Int)) (HB : Aside0 (Below w1.heap.size w1 wc)) (vo kd : Value) (h3 : f 3 = vo) (h37 : f 37 = kd) (hd : decide ((i : Int) < ((n 10 : Nat) : Int)) = false)
  (hK : ∀ a, RFr 313 g a → a.tmps[3]? = some vo → a.tmps[37]? = some kd → K (.exit 7) a wc) : Code.wp Try.prog (cl (cl (cr (cr ic33)))) K (ifr g f) wc := by
 have HX := aK ((HB.out.block g (zad HX0.out)).trans HX0.out)
 unfold ifr
 rw [hsi, h3, h37]
 have hq := eq_false (of_decide_eq_false hd)
 have hn := eq_false (show ¬ i < n 10 by have := of_decide_eq_false hd; omega)
 conv => arg 2; whnf
 go_wp2_with (first | ((with_reducible refine zae [185] (by decide) ?_); refine ld (T := 27) (g := g) (v := .slice (A 10) (n 10) (c 10)) rfl rfl HX.out (by rfl) rfl TuT rfl ?_))
 all_goals first | exact ⟨rfl, rfl, rfl⟩ | rfl | exact hK _ ⟨rfl, rfl, rfl⟩ rfl rfl
end Go.Proofs.Ytcbehfbfaonanaa.Wr
end
