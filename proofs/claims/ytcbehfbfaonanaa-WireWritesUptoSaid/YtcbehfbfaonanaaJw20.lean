/- Part 21 of the texts that walk the program and tell its laws, joined in the order of their building. No conditions. -/
import Derived.Test.YtcbehfbfaonanaaJw8
import Derived.Test.YtcbehfbfaonanaaJw19
set_option maxRecDepth 100000
set_option maxHeartbeats 16000000
section
namespace Go.Proofs.Ytcbehfbfaonanaa.Wr
open Go.RowKit Go.Proofs.YtcbehfbfaonanaaW.PrintWords Go.Proofs.YtcbehfbfaonanaaW.PrintLast Go.Proofs.YtcbehfbfaonanaaW.PrintMore Go.Proofs.Ytcbehfbfaonanaa.Pk
set_option linter.unusedVariables false
set_option linter.unusedSimpArgs false
structure Bx (w : World) (g : Nat) (cs : Array Value) : Prop where
 blk : w.heap[g]? = some (.cells cs 32 (0, 0))
 size : cs.size = 26
 one : zdj cs
theorem Bx.of {w : World} {g : Nat} {cs : Array Value} (h : w.heap[g]? = some (.cells cs 32 (0, 0))) (hs : cs.size = 26) (h1 : zdj cs) : Bx w g cs := ⟨h, hs, h1⟩
theorem Bx.info {w : World} {g : Nat} {cs : Array Value} (h : Bx w g cs) : (Try.prog.info? 32).map (·.size) = some cs.size := by rw [h.size]; exact zbp
theorem zjg : zdj (msgC zdu nils) := (zjb default).one
theorem zue {cs : Array Value} (h : zdj cs) (k : Nat) {v : Value} (hv : v.oneCell' = true) : zdj (cs.setIfInBounds k v) := by
 unfold zdj at *
 rw [List.all_eq_true] at *
 intro u hu
 rw [Array.toList_setIfInBounds] at hu
 rcases List.mem_or_eq_of_mem_set hu with hu | rfl
 ·exact h u hu
 ·exact hv
theorem zpf : ∀ {vs : List Value} {cs : Array Value} (k : Nat), zdj cs → (∀ v, v ∈ vs → v.oneCell' = true) → zdj (zhh cs k vs)
 | [], cs, k, h, _ => h
 | v :: vs, cs, k, h, hv => zpf (vs := vs) (k + 1) (zue h k (hv v (.head _))) (fun u hu => hv u (.tail _ hu))
theorem zms : ∀ (vs : List Value) (cs : Array Value) (k : Nat), (zhh cs k vs).size = cs.size
 | [], cs, k => rfl
 | v :: vs, cs, k => by
  show (zhh (cs.setIfInBounds k v) (k + 1) vs).size = _
  rw [zms vs, Array.size_setIfInBounds]
section
variable {ops : Array Oper} {rest : List Oper} {o : Oper} {a : Act} {Q : Exit → Act → World → Prop} {W : World}
theorem zpg (hgd : o.guard = none) (T : TypeId) (x y : Operand) (ho : o.op = .store T x y) (g : Nat) (hx : a.eval x = .pointer (some ⟨g, 0, none⟩)) (cells : Array Value) (hy : a.eval y = .agg cells) {cs : Array Value} (hb : Bx W g cs) (hi : (Try.prog.info? T).map (·.size) = some 26) (h1 : cells.size = 26 ∧ zdj cells)
  (h : ∀ w1, Bx w1 g cells → Only (· = g) W w1 → wpList Try.prog ops Q rest (a.put o.dst undef) w1) : wpList Try.prog ops Q (o :: rest) a W :=
 zbk hgd T x y ho g hx cells cs hy _ hb.blk (h1.1.trans hb.size.symm) (by rw [h1.1]; exact hi) h1.2 (fun w1 k1 k2 => h w1 ⟨k1, h1.1, h1.2⟩ k2)
theorem zcw (hgd : o.guard = none) (T : TypeId) (x y : Operand) (ho : o.op = .store T x y) (g k : Nat) (hx : a.eval x = .pointer (some ⟨g, k, none⟩)) (v : Value) (hy : a.eval y = v) (hv : v.cells = #[v] ∧ v.oneCell' = true) (hi : (Try.prog.info? T).map (·.size) = some 1) (hk : k < 26) {cs : Array Value} (hb : Bx W g cs)
  (h : ∀ w1, Bx w1 g (cs.setIfInBounds k v) → Only (· = g) W w1 → wpList Try.prog ops Q rest (a.put o.dst undef) w1) : wpList Try.prog ops Q (o :: rest) a W := by
 have hc : W.cell? ⟨g, k, none⟩ = some (cs[k]'(by rw [hb.size]; exact hk)) := (zab hb.blk k).trans (Array.getElem?_eq_getElem _)
 have hf := zbg hb.blk k
 have hrun : (storeVar T ⟨g, k, none⟩ v).run Try.prog W = .ok () (W.setCell ⟨g, k, none⟩ v) := by
  have this := run_storeCells_cells (P := Try.prog) g k [v] 0 W (fun j hj => by
   have : j = 0 := by simpa using hj
   subst this
   rw [Nat.add_zero]
   simp [hc]) (fun j hj => by
   have : j = 0 := by simpa using hj
   subst this
   exact hf) (fun u hu => by
   have : u = v := by simpa using hu
   rw [this]
   exact hv.2)
  cases hq : Try.prog.info? T with
  | none => simp [hq] at hi
  | some i =>
   have hs : 1 = i.size := by simp [hq] at hi; omega
   simp only [Nat.add_zero] at this
   simp [storeVar, sizeOf, typeInfo, hq, hv.1, hs.symm, this]
   rfl
 refine wpList_plain hgd fun K hK => ?_
 unfold Oper.wp execOp
 simp only [ho, hx, hy, Instr.storeAt, Instr.sureAddr, Sem.run_bind, Sem.run_pure, Result.andThen_ok, hrun]
 exact hK _ _ (h _ ⟨zcm hb.blk k v, by rw [Array.size_setIfInBounds]; exact hb.size, zue hb.one k hv.2⟩ (zfb g [v] k W))
theorem zht (hgd : o.guard = none) (T : TypeId) (x y : Operand) (ho : o.op = .store T x y) (g k : Nat) (hx : a.eval x = .pointer (some ⟨g, k, none⟩)) (vs : Array Value) (hy : a.eval y = .agg vs) (hi : (Try.prog.info? T).map (·.size) = some vs.size) (hk : k + vs.size ≤ 26) (h1 : ∀ v, v ∈ vs.toList → v.oneCell' = true) {cs : Array Value} (hb : Bx W g cs)
  (h : ∀ w1, Bx w1 g (zhh cs k vs.toList) → Only (· = g) W w1 → wpList Try.prog ops Q rest (a.put o.dst undef) w1) : wpList Try.prog ops Q (o :: rest) a W := by
 refine wpList_store_mid hgd T x y ho g k vs hx hy (fun j hj => ?_) hi (Array.all_eq_true_iff_forall_mem.2 (fun v hv => h1 v (by simpa using hv))) (h _ ⟨zej vs.toList k W cs hb.blk, by rw [zms]; exact hb.size, zpf k hb.one h1⟩ (zfb g vs.toList k W))
 refine ⟨?_, zbg hb.blk (k + j)⟩
 rw [zab hb.blk (k + j), Array.getElem?_eq_getElem (by rw [hb.size]; omega)]
 rfl
end
def zeroK (n : Int) : Array Value := #[.int .i64 n, .int .i64 0, .int .i64 0, .slice none 0 0, .int .i64 0, .int .i64 0, .int .i64 0, .int .i64 0, .slice none 0 0, .slice none 0 0, .slice none 0 0, .int .i64 0, .int .i64 0, .bool false, .int .i64 0, .int .i64 0, .string ⟨#[]⟩, .bool false, .string ⟨#[]⟩, .int .i64 0, .int .i64 0, .int .i64 0, .int .i64 0, .int .i64 0, .bool false, .string ⟨#[]⟩]
theorem zph (n : Int) : (zeroK n).size = 26 ∧ zdj (zeroK n) := ⟨rfl, rfl⟩
theorem zcb {m : M} {n : Int} (h : m.c 0 = .int .i64 n) : zbs m = n := by unfold zbs; rw [h]
theorem zfg {m : M} (ht : zbh m) (i : Nat) (hi : scalar i = true) : (m.c i).cells = #[m.c i] ∧ (m.c i).oneCell' = true := by
 have := ht i hi
 cases hk : zck i with
 | num a b => rw [hk] at this; obtain ⟨x, e⟩ := this; rw [e]; exact ⟨rfl, rfl⟩
 | flag => rw [hk] at this; obtain ⟨x, e⟩ := this; rw [e]; exact ⟨rfl, rfl⟩
 | text a => rw [hk] at this; obtain ⟨x, e⟩ := this; rw [e]; exact ⟨rfl, rfl⟩
theorem arr26 {c d : Array Value} (hc : c.size = 26) (hd : d.size = 26) (h : ∀ i, i < 26 → c[i]? = d[i]?) : c = d := by
 apply Array.ext_getElem?
 intro i
 rcases Nat.lt_or_ge i 26 with hi | hi
 ·exact h i hi
 ·rw [Array.getElem?_eq_none (by omega), Array.getElem?_eq_none (by omega)]
def zuf (m : M) (sv : Nat → Value) (w : World) (e : Ending) (w' : World) : Prop := ∃ so, e = .returned (.agg (msgC (zbx m).c so)) ∧ Below w.heap.size w w' ∧ ∀ j fs, (j, fs) ∈ zah → (so j = sv j ∧ (zbx m).L j = m.L j) ∨ (so j = .slice none 0 0 ∧ (zbx m).L j = [])
theorem only_a (w : World) (v : Value) (m : M) (sv : Nat → Value) (h : MsgRd w v m sv) {k : Int} (hk : m.c 0 = .int .i64 k) (hr : k = 1 ∨ k = 2 ∨ k = 3 ∨ k = 4 ∨ k = 5) : Calls Try.prog 48 #[v] w (zuf m sv w) := by
 have VC := aK (zfg h.typed)
 have VR := aK (fun (off n : Nat) (hn : (List.range n).all (fun j => scalar (off + j)) = true) (v : Value) (hv : v ∈ (List.range n).map fun j => m.c (off + j)) => (by
  obtain ⟨j, hj, rfl⟩ := List.mem_map.1 hv
  exact (zfg h.typed (off + j) (List.all_eq_true.1 hn j hj)).2 : v.oneCell' = true))
 have VS3 := aK (show (sv 3).cells = #[sv 3] ∧ (sv 3).oneCell' = true from by obtain ⟨A, c, e, _⟩ := h.rd 3 zak (by simp [zah]); rw [e]; exact ⟨rfl, rfl⟩)
 have VS8 := aK (show (sv 8).cells = #[sv 8] ∧ (sv 8).oneCell' = true from by obtain ⟨A, c, e, _⟩ := h.rd 8 zat (by simp [zah]); rw [e]; exact ⟨rfl, rfl⟩)
 have VS9 := aK (show (sv 9).cells = #[sv 9] ∧ (sv 9).oneCell' = true from by obtain ⟨A, c, e, _⟩ := h.rd 9 zau (by simp [zah]); rw [e]; exact ⟨rfl, rfl⟩)
 have VS10 := aK (show (sv 10).cells = #[sv 10] ∧ (sv 10).oneCell' = true from by obtain ⟨A, c, e, _⟩ := h.rd 10 zaj (by simp [zah]); rw [e]; exact ⟨rfl, rfl⟩)
 obtain rfl := h.agg
 clear h
 rcases hr with rfl | rfl | rfl | rfl | rfl
 all_goals
  have E0 := aK (show (some (m.c 0) : Option Value) = some (.int .i64 _) from congrArg some hk)
  have HK := aK hk
  clear hk
  go_enter Try.func48, Try.ntmps48
  go_wp2_with (first | ((with_reducible refine zag (N := 1) rfl ?_); refine zbf rfl 32 (.tmp 0) rfl (msgC m.c sv) rfl ?_; intro g1 wc hg hbox hb; have HX1 := aK hbox; have HB := aK hb; clear hg hbox hb) | ((with_reducible refine zag (N := 2) rfl ?_); refine zbe rfl 32 rfl _ (zfs _) ?_; intro g2 wc hg hbox hb; have HG2 := aK (show w.heap.size ≤ g2 ∧ g2 ≠ g1 from ⟨by rw [hg]; exact HB.out.size, by have := zad HX1.out; omega⟩); have HX2 := aK hbox; have HX1 := aK ((hb.block g1 (zad HX1.out)).trans HX1.out); have HB := aK (HB.out.trans (hb.mono HB.out.size)); clear hg hbox hb) | ((with_reducible refine zag (N := 3) rfl ?_); refine zbe rfl 32 rfl _ (zfs _) ?_; intro g3 wc hg hbox hb; have HG3 := aK (show w.heap.size ≤ g3 ∧ g3 ≠ g1 ∧ g3 ≠ g2 from ⟨by rw [hg]; exact HB.out.size, by have := zad HX1.out; omega, by have := zad HX2.out; omega⟩); have HX3 := aK (Bx.of hbox rfl zjg); have HX2 := aK ((hb.block g2 (zad HX2.out)).trans HX2.out); have HX1 := aK ((hb.block g1 (zad HX1.out)).trans HX1.out); have HB := aK (HB.out.trans (hb.mono HB.out.size)); clear hg hbox hb) | ((with_reducible refine zan (t := 32) (p := 3) rfl ?_); refine zpg rfl 32 (.tmp 3) (.tmp 6) rfl g3 rfl _ rfl HX3.out zbp (zph _) ?_; intro wc hX hO; (try simp only [zhh, List.toList_toArray, aS, aZ, aC, Nat.reduceAdd] at hX); have HX3 := aK hX; have HX1 := aK (hO.blk HX1.out HG3.out.2.1.symm); have HX2 := aK (hO.blk HX2.out HG3.out.2.2.symm); have HB := aK (zaz HB.out hO HB.out.size (fun k hk => by have := HG3.out.1; have hk' : k = g3 := hk; omega)); clear hX hO) | ((with_reducible refine zae [5, 8, 12, 19, 25, 67, 79, 83, 90, 99, 111] (by decide) ?_); refine ld (T := 3) (g := g1) (v := .int .i64 _) rfl rfl HX1.out ((rfl : (msgC m.c sv)[0]? = some (m.c 0)).trans E0.out) rfl TuI rfl ?_) | ((with_reducible refine zae [16, 22, 42, 45, 70, 73] (by decide) ?_); refine ld (T := 3) (g := g1) (v := m.c _) rfl rfl HX1.out rfl rfl TuI rfl ?_) | ((with_reducible refine zae [64, 93] (by decide) ?_); refine ld (T := 4) (g := g1) (v := m.c _) rfl rfl HX1.out rfl rfl TuB rfl ?_) | ((with_reducible refine zae [87, 96] (by decide) ?_); refine ld (T := 9) (g := g1) (v := m.c _) rfl rfl HX1.out rfl rfl TuX rfl ?_) | ((with_reducible refine zae [29] (by decide) ?_); refine ld (T := 22) (g := g1) (v := sv 3) rfl rfl HX1.out rfl rfl TuE rfl ?_) | ((with_reducible refine zae [34, 61, 108] (by decide) ?_); refine ldr (T := 24) (g := g1) (vs := [m.c 11, m.c 12]) rfl rfl HX1.out 2 rfl rfl Try.underlying24 rfl (by kernel_rfl) ?_) | ((with_reducible refine zae [39, 117] (by decide) ?_); refine ldr (T := 24) (g := g1) (vs := [m.c 4, m.c 5]) rfl rfl HX1.out 2 rfl rfl Try.underlying24 rfl (by kernel_rfl) ?_) | ((with_reducible refine zae [76] (by decide) ?_); refine ldr (T := 24) (g := g1) (vs := [m.c 19, m.c 20]) rfl rfl HX1.out 2 rfl rfl Try.underlying24 rfl (by kernel_rfl) ?_) | ((with_reducible refine zae [48] (by decide) ?_); refine ld (T := 25) (g := g1) (v := sv 8) rfl rfl HX1.out rfl rfl TuP rfl ?_) | ((with_reducible refine zae [51] (by decide) ?_); refine ld (T := 26) (g := g1) (v := sv 9) rfl rfl HX1.out rfl rfl TuS rfl ?_) | ((with_reducible refine zae [56] (by decide) ?_); refine ld (T := 27) (g := g1) (v := sv 10) rfl rfl HX1.out rfl rfl TuT rfl ?_) | ((with_reducible refine zae [102, 114] (by decide) ?_); refine ld (T := 28) (g := g1) (v := m.c _) rfl rfl HX1.out rfl rfl TuN rfl ?_) | ((with_reducible refine zae [105] (by decide) ?_); refine ldr (T := 30) (g := g1) (vs := [m.c 22, m.c 23, m.c 24, m.c 25]) rfl rfl HX1.out 4 rfl rfl Try.underlying30 rfl (by kernel_rfl) ?_) | ((first | ((with_reducible refine zan (t := 3) (p := _) rfl ?_); refine zcw rfl _ _ _ rfl g3 _ rfl (m.c _) rfl (VC.out _ rfl) (by kernel_rfl) (by decide) HX3.out ?_) | ((with_reducible refine zan (t := 4) (p := _) rfl ?_); refine zcw rfl _ _ _ rfl g3 _ rfl (m.c _) rfl (VC.out _ rfl) (by kernel_rfl) (by decide) HX3.out ?_) | ((with_reducible refine zan (t := 9) (p := _) rfl ?_); refine zcw rfl _ _ _ rfl g3 _ rfl (m.c _) rfl (VC.out _ rfl) (by kernel_rfl) (by decide) HX3.out ?_) | ((with_reducible refine zan (t := 22) (p := _) rfl ?_); refine zcw rfl _ _ _ rfl g3 _ rfl (sv 3) rfl VS3.out (by kernel_rfl) (by decide) HX3.out ?_) | ((with_reducible refine zan (t := 24) (p := _) rfl ?_); refine zht rfl _ _ _ rfl g3 11 rfl #[m.c 11, m.c 12] rfl (by kernel_rfl) (Nat.le_of_ble_eq_true rfl) (VR.out 11 2 (by decide)) HX3.out ?_) | ((with_reducible refine zan (t := 24) (p := _) rfl ?_); refine zht rfl _ _ _ rfl g3 4 rfl #[m.c 4, m.c 5] rfl (by kernel_rfl) (Nat.le_of_ble_eq_true rfl) (VR.out 4 2 (by decide)) HX3.out ?_) | ((with_reducible refine zan (t := 24) (p := _) rfl ?_); refine zht rfl _ _ _ rfl g3 19 rfl #[m.c 19, m.c 20] rfl (by kernel_rfl) (Nat.le_of_ble_eq_true rfl) (VR.out 19 2 (by decide)) HX3.out ?_) | ((with_reducible refine zan (t := 25) (p := _) rfl ?_); refine zcw rfl _ _ _ rfl g3 _ rfl (sv 8) rfl VS8.out (by kernel_rfl) (by decide) HX3.out ?_) | ((with_reducible refine zan (t := 26) (p := _) rfl ?_); refine zcw rfl _ _ _ rfl g3 _ rfl (sv 9) rfl VS9.out (by kernel_rfl) (by decide) HX3.out ?_) | ((with_reducible refine zan (t := 27) (p := _) rfl ?_); refine zcw rfl _ _ _ rfl g3 _ rfl (sv 10) rfl VS10.out (by kernel_rfl) (by decide) HX3.out ?_) | ((with_reducible refine zan (t := 28) (p := _) rfl ?_); refine zcw rfl _ _ _ rfl g3 _ rfl (m.c _) rfl (VC.out _ rfl) (by kernel_rfl) (by decide) HX3.out ?_) | ((with_reducible refine zan (t := 30) (p := _) rfl ?_); refine zht rfl _ _ _ rfl g3 22 rfl #[m.c 22, m.c 23, m.c 24, m.c 25] rfl (by kernel_rfl) (Nat.le_of_ble_eq_true rfl) (VR.out 22 4 (by decide)) HX3.out ?_)); intro wc hX hO; (try simp only [zhh, List.toList_toArray, aS, aZ, aC, Nat.reduceAdd] at hX); have HX3 := aK hX; have HX1 := aK (hO.blk HX1.out HG3.out.2.1.symm); have HX2 := aK (hO.blk HX2.out HG3.out.2.2.symm); have HB := aK (zaz HB.out hO HB.out.size (fun k hk => by have := HG3.out.1; have hk' : k = g3 := hk; omega)); clear hX hO) | ((with_reducible refine zag (N := 119) rfl ?_); refine zbl rfl 32 (.tmp 3) rfl g3 rfl _ 32 HX3.out.blk _ Try.underlying32 rfl HX3.out.info ?_) | ((with_reducible refine zan (t := 32) (p := 2) rfl ?_); refine zbk rfl 32 (.tmp 2) (.tmp 119) rfl g2 rfl _ _ rfl 32 HX2.out (HX3.out.size.trans rfl) HX3.out.info HX3.out.one ?_; intro wc hX hO; have HX2 := aK hX; have HB := aK (zaz HB.out hO HB.out.size (fun k hk => by have := HG2.out.1; have hk' : k = g2 := hk; omega)); clear hX hO) | fail)
  refine bodyPost_ret (results_cell_row rfl _ _ g2 _ _ (0, 0) _ rfl HX2.out Try.underlying32 rfl HX3.out.info) rfl ?_
  refine ⟨fun j => if (zam (zbs m)).any (fun u => zpd u j) = true then sv j else .slice none 0 0, congrArg (fun c => Ending.returned (.agg c)) (arr26 HX3.out.size rfl (fun i hi => ?_)), HB.out, fun j fs hj => ?_⟩
  ·unfold zbx
   rw [zcb HK.out]
   match i, hi with
   | 0, _ => exact congrArg some HK.out.symm
   | 1, _ | 2, _ | 3, _ | 4, _ | 5, _ | 6, _ | 7, _ | 8, _ | 9, _ | 10, _ | 11, _ | 12, _ | 13, _ | 14, _ | 15, _ | 16, _ | 17, _ | 18, _ | 19, _ | 20, _ | 21, _ | 22, _ | 23, _ | 24, _ | 25, _ => rfl
   | i + 26, hi => omega
  ·unfold zbx
   rw [zcb HK.out]
   simp only [zah, List.mem_cons, Prod.mk.injEq, List.not_mem_nil, or_false] at hj
   rcases hj with ⟨rfl, rfl⟩ | ⟨rfl, rfl⟩ | ⟨rfl, rfl⟩ | ⟨rfl, rfl⟩ <;> first | exact .inl ⟨rfl, rfl⟩ | exact .inr ⟨rfl, rfl⟩
theorem only_b (w : World) (v : Value) (m : M) (sv : Nat → Value) (h : MsgRd w v m sv) {k : Int} (hk : m.c 0 = .int .i64 k) (hr : k = 6 ∨ k = 7 ∨ k = 8 ∨ k = 9 ∨ k = 10) : Calls Try.prog 48 #[v] w (zuf m sv w) := by
 have VC := aK (zfg h.typed)
 have VR := aK (fun (off n : Nat) (hn : (List.range n).all (fun j => scalar (off + j)) = true) (v : Value) (hv : v ∈ (List.range n).map fun j => m.c (off + j)) => (by
  obtain ⟨j, hj, rfl⟩ := List.mem_map.1 hv
  exact (zfg h.typed (off + j) (List.all_eq_true.1 hn j hj)).2 : v.oneCell' = true))
 have VS3 := aK (show (sv 3).cells = #[sv 3] ∧ (sv 3).oneCell' = true from by obtain ⟨A, c, e, _⟩ := h.rd 3 zak (by simp [zah]); rw [e]; exact ⟨rfl, rfl⟩)
 have VS8 := aK (show (sv 8).cells = #[sv 8] ∧ (sv 8).oneCell' = true from by obtain ⟨A, c, e, _⟩ := h.rd 8 zat (by simp [zah]); rw [e]; exact ⟨rfl, rfl⟩)
 have VS9 := aK (show (sv 9).cells = #[sv 9] ∧ (sv 9).oneCell' = true from by obtain ⟨A, c, e, _⟩ := h.rd 9 zau (by simp [zah]); rw [e]; exact ⟨rfl, rfl⟩)
 have VS10 := aK (show (sv 10).cells = #[sv 10] ∧ (sv 10).oneCell' = true from by obtain ⟨A, c, e, _⟩ := h.rd 10 zaj (by simp [zah]); rw [e]; exact ⟨rfl, rfl⟩)
 obtain rfl := h.agg
 clear h
 rcases hr with rfl | rfl | rfl | rfl | rfl
 all_goals
  have E0 := aK (show (some (m.c 0) : Option Value) = some (.int .i64 _) from congrArg some hk)
  have HK := aK hk
  clear hk
  go_enter Try.func48, Try.ntmps48
  go_wp2_with (first | ((with_reducible refine zag (N := 1) rfl ?_); refine zbf rfl 32 (.tmp 0) rfl (msgC m.c sv) rfl ?_; intro g1 wc hg hbox hb; have HX1 := aK hbox; have HB := aK hb; clear hg hbox hb) | ((with_reducible refine zag (N := 2) rfl ?_); refine zbe rfl 32 rfl _ (zfs _) ?_; intro g2 wc hg hbox hb; have HG2 := aK (show w.heap.size ≤ g2 ∧ g2 ≠ g1 from ⟨by rw [hg]; exact HB.out.size, by have := zad HX1.out; omega⟩); have HX2 := aK hbox; have HX1 := aK ((hb.block g1 (zad HX1.out)).trans HX1.out); have HB := aK (HB.out.trans (hb.mono HB.out.size)); clear hg hbox hb) | ((with_reducible refine zag (N := 3) rfl ?_); refine zbe rfl 32 rfl _ (zfs _) ?_; intro g3 wc hg hbox hb; have HG3 := aK (show w.heap.size ≤ g3 ∧ g3 ≠ g1 ∧ g3 ≠ g2 from ⟨by rw [hg]; exact HB.out.size, by have := zad HX1.out; omega, by have := zad HX2.out; omega⟩); have HX3 := aK (Bx.of hbox rfl zjg); have HX2 := aK ((hb.block g2 (zad HX2.out)).trans HX2.out); have HX1 := aK ((hb.block g1 (zad HX1.out)).trans HX1.out); have HB := aK (HB.out.trans (hb.mono HB.out.size)); clear hg hbox hb) | ((with_reducible refine zan (t := 32) (p := 3) rfl ?_); refine zpg rfl 32 (.tmp 3) (.tmp 6) rfl g3 rfl _ rfl HX3.out zbp (zph _) ?_; intro wc hX hO; (try simp only [zhh, List.toList_toArray, aS, aZ, aC, Nat.reduceAdd] at hX); have HX3 := aK hX; have HX1 := aK (hO.blk HX1.out HG3.out.2.1.symm); have HX2 := aK (hO.blk HX2.out HG3.out.2.2.symm); have HB := aK (zaz HB.out hO HB.out.size (fun k hk => by have := HG3.out.1; have hk' : k = g3 := hk; omega)); clear hX hO) | ((with_reducible refine zae [5, 8, 12, 19, 25, 67, 79, 83, 90, 99, 111] (by decide) ?_); refine ld (T := 3) (g := g1) (v := .int .i64 _) rfl rfl HX1.out ((rfl : (msgC m.c sv)[0]? = some (m.c 0)).trans E0.out) rfl TuI rfl ?_) | ((with_reducible refine zae [16, 22, 42, 45, 70, 73] (by decide) ?_); refine ld (T := 3) (g := g1) (v := m.c _) rfl rfl HX1.out rfl rfl TuI rfl ?_) | ((with_reducible refine zae [64, 93] (by decide) ?_); refine ld (T := 4) (g := g1) (v := m.c _) rfl rfl HX1.out rfl rfl TuB rfl ?_) | ((with_reducible refine zae [87, 96] (by decide) ?_); refine ld (T := 9) (g := g1) (v := m.c _) rfl rfl HX1.out rfl rfl TuX rfl ?_) | ((with_reducible refine zae [29] (by decide) ?_); refine ld (T := 22) (g := g1) (v := sv 3) rfl rfl HX1.out rfl rfl TuE rfl ?_) | ((with_reducible refine zae [34, 61, 108] (by decide) ?_); refine ldr (T := 24) (g := g1) (vs := [m.c 11, m.c 12]) rfl rfl HX1.out 2 rfl rfl Try.underlying24 rfl (by kernel_rfl) ?_) | ((with_reducible refine zae [39, 117] (by decide) ?_); refine ldr (T := 24) (g := g1) (vs := [m.c 4, m.c 5]) rfl rfl HX1.out 2 rfl rfl Try.underlying24 rfl (by kernel_rfl) ?_) | ((with_reducible refine zae [76] (by decide) ?_); refine ldr (T := 24) (g := g1) (vs := [m.c 19, m.c 20]) rfl rfl HX1.out 2 rfl rfl Try.underlying24 rfl (by kernel_rfl) ?_) | ((with_reducible refine zae [48] (by decide) ?_); refine ld (T := 25) (g := g1) (v := sv 8) rfl rfl HX1.out rfl rfl TuP rfl ?_) | ((with_reducible refine zae [51] (by decide) ?_); refine ld (T := 26) (g := g1) (v := sv 9) rfl rfl HX1.out rfl rfl TuS rfl ?_) | ((with_reducible refine zae [56] (by decide) ?_); refine ld (T := 27) (g := g1) (v := sv 10) rfl rfl HX1.out rfl rfl TuT rfl ?_) | ((with_reducible refine zae [102, 114] (by decide) ?_); refine ld (T := 28) (g := g1) (v := m.c _) rfl rfl HX1.out rfl rfl TuN rfl ?_) | ((with_reducible refine zae [105] (by decide) ?_); refine ldr (T := 30) (g := g1) (vs := [m.c 22, m.c 23, m.c 24, m.c 25]) rfl rfl HX1.out 4 rfl rfl Try.underlying30 rfl (by kernel_rfl) ?_) | ((first | ((with_reducible refine zan (t := 3) (p := _) rfl ?_); refine zcw rfl _ _ _ rfl g3 _ rfl (m.c _) rfl (VC.out _ rfl) (by kernel_rfl) (by decide) HX3.out ?_) | ((with_reducible refine zan (t := 4) (p := _) rfl ?_); refine zcw rfl _ _ _ rfl g3 _ rfl (m.c _) rfl (VC.out _ rfl) (by kernel_rfl) (by decide) HX3.out ?_) | ((with_reducible refine zan (t := 9) (p := _) rfl ?_); refine zcw rfl _ _ _ rfl g3 _ rfl (m.c _) rfl (VC.out _ rfl) (by kernel_rfl) (by decide) HX3.out ?_) | ((with_reducible refine zan (t := 22) (p := _) rfl ?_); refine zcw rfl _ _ _ rfl g3 _ rfl (sv 3) rfl VS3.out (by kernel_rfl) (by decide) HX3.out ?_) | ((with_reducible refine zan (t := 24) (p := _) rfl ?_); refine zht rfl _ _ _ rfl g3 11 rfl #[m.c 11, m.c 12] rfl (by kernel_rfl) (Nat.le_of_ble_eq_true rfl) (VR.out 11 2 (by decide)) HX3.out ?_) | ((with_reducible refine zan (t := 24) (p := _) rfl ?_); refine zht rfl _ _ _ rfl g3 4 rfl #[m.c 4, m.c 5] rfl (by kernel_rfl) (Nat.le_of_ble_eq_true rfl) (VR.out 4 2 (by decide)) HX3.out ?_) | ((with_reducible refine zan (t := 24) (p := _) rfl ?_); refine zht rfl _ _ _ rfl g3 19 rfl #[m.c 19, m.c 20] rfl (by kernel_rfl) (Nat.le_of_ble_eq_true rfl) (VR.out 19 2 (by decide)) HX3.out ?_) | ((with_reducible refine zan (t := 25) (p := _) rfl ?_); refine zcw rfl _ _ _ rfl g3 _ rfl (sv 8) rfl VS8.out (by kernel_rfl) (by decide) HX3.out ?_) | ((with_reducible refine zan (t := 26) (p := _) rfl ?_); refine zcw rfl _ _ _ rfl g3 _ rfl (sv 9) rfl VS9.out (by kernel_rfl) (by decide) HX3.out ?_) | ((with_reducible refine zan (t := 27) (p := _) rfl ?_); refine zcw rfl _ _ _ rfl g3 _ rfl (sv 10) rfl VS10.out (by kernel_rfl) (by decide) HX3.out ?_) | ((with_reducible refine zan (t := 28) (p := _) rfl ?_); refine zcw rfl _ _ _ rfl g3 _ rfl (m.c _) rfl (VC.out _ rfl) (by kernel_rfl) (by decide) HX3.out ?_) | ((with_reducible refine zan (t := 30) (p := _) rfl ?_); refine zht rfl _ _ _ rfl g3 22 rfl #[m.c 22, m.c 23, m.c 24, m.c 25] rfl (by kernel_rfl) (Nat.le_of_ble_eq_true rfl) (VR.out 22 4 (by decide)) HX3.out ?_)); intro wc hX hO; (try simp only [zhh, List.toList_toArray, aS, aZ, aC, Nat.reduceAdd] at hX); have HX3 := aK hX; have HX1 := aK (hO.blk HX1.out HG3.out.2.1.symm); have HX2 := aK (hO.blk HX2.out HG3.out.2.2.symm); have HB := aK (zaz HB.out hO HB.out.size (fun k hk => by have := HG3.out.1; have hk' : k = g3 := hk; omega)); clear hX hO) | ((with_reducible refine zag (N := 119) rfl ?_); refine zbl rfl 32 (.tmp 3) rfl g3 rfl _ 32 HX3.out.blk _ Try.underlying32 rfl HX3.out.info ?_) | ((with_reducible refine zan (t := 32) (p := 2) rfl ?_); refine zbk rfl 32 (.tmp 2) (.tmp 119) rfl g2 rfl _ _ rfl 32 HX2.out (HX3.out.size.trans rfl) HX3.out.info HX3.out.one ?_; intro wc hX hO; have HX2 := aK hX; have HB := aK (zaz HB.out hO HB.out.size (fun k hk => by have := HG2.out.1; have hk' : k = g2 := hk; omega)); clear hX hO) | fail)
  refine bodyPost_ret (results_cell_row rfl _ _ g2 _ _ (0, 0) _ rfl HX2.out Try.underlying32 rfl HX3.out.info) rfl ?_
  refine ⟨fun j => if (zam (zbs m)).any (fun u => zpd u j) = true then sv j else .slice none 0 0, congrArg (fun c => Ending.returned (.agg c)) (arr26 HX3.out.size rfl (fun i hi => ?_)), HB.out, fun j fs hj => ?_⟩
  ·unfold zbx
   rw [zcb HK.out]
   match i, hi with
   | 0, _ => exact congrArg some HK.out.symm
   | 1, _ | 2, _ | 3, _ | 4, _ | 5, _ | 6, _ | 7, _ | 8, _ | 9, _ | 10, _ | 11, _ | 12, _ | 13, _ | 14, _ | 15, _ | 16, _ | 17, _ | 18, _ | 19, _ | 20, _ | 21, _ | 22, _ | 23, _ | 24, _ | 25, _ => rfl
   | i + 26, hi => omega
  ·unfold zbx
   rw [zcb HK.out]
   simp only [zah, List.mem_cons, Prod.mk.injEq, List.not_mem_nil, or_false] at hj
   rcases hj with ⟨rfl, rfl⟩ | ⟨rfl, rfl⟩ | ⟨rfl, rfl⟩ | ⟨rfl, rfl⟩ <;> first | exact .inl ⟨rfl, rfl⟩ | exact .inr ⟨rfl, rfl⟩
theorem only_c (w : World) (v : Value) (m : M) (sv : Nat → Value) (h : MsgRd w v m sv) (hk : 1 ≤ zbs m ∧ zbs m ≤ 10) : Calls Try.prog 48 #[v] w (zuf m sv w) := by
 obtain ⟨x, hx⟩ : ∃ x, m.c 0 = .int .i64 x := h.typed 0 rfl
 rw [zcb hx] at hk
 by_cases h5 : x ≤ 5
 ·exact only_a w v m sv h hx (by omega)
 ·exact only_b w v m sv h hx (by omega)
end Go.Proofs.Ytcbehfbfaonanaa.Wr
end
