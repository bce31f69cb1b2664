/- Part 5 of the texts that walk the program and tell its laws, joined in the order of their building. No conditions. -/
import Derived.Test.YtcbehfbfaonanaaJw2
import Derived.Deep.RegionHeld3
import Derived.Deep.WholeRow
set_option maxRecDepth 100000
set_option maxHeartbeats 16000000
section

namespace Go.Proofs.Ytcbehfbfaonanaa.Wr
open Go.RowKit Go.Proofs.YtcbehfbfaonanaaW.PrintWords Go.Proofs.YtcbehfbfaonanaaW.PrintLast Go.Proofs.YtcbehfbfaonanaaW.PrintMore Go.Proofs.Ytcbehfbfaonanaa.Pk
set_option linter.unusedVariables false
set_option linter.unusedSimpArgs false
section
variable {P : Program} {o : Oper} {a : Act} {Q : Exit → Act → World → Prop} {K : Act → World → Prop} {W : World}
theorem zhp {T : TypeId} {x : Operand} (ho : o.op = .load T x) {g : Nat} (hx : a.eval x = .pointer (some ⟨g, 0, none⟩)) {cells : Array Value} {T' : TypeId} (hb : W.heap[g]? = some (.cells cells T' (0, 0)))
  {d : TypeDesc} (hu : P.underlying T = some d) (hd : d.isRow = true) (hi : (P.info? T).map (·.size) = some cells.size) : (execOp a.eval o).run P W = .ok (.value (.agg cells)) W := by
 have h := run_loadVar_mid (P := P) W g 0 T cells.toList d (fun j v hj => by rw [Nat.zero_add]; exact (zab hb j).trans (by simpa using hj)) hu hd (by simpa using hi)
 unfold execOp
 simp only [ho, hx, Instr.loadAt, Instr.sureAddr, Sem.run_bind, Sem.run_pure, Result.andThen_ok, h]
theorem zfq (T : TypeId) (x y : Operand) (ho : o.op = .store T x y) (g : Nat) (hx : a.eval x = .pointer (some ⟨g, 0, none⟩)) (cells cs : Array Value) (hy : a.eval y = .agg cells) (T' : TypeId) (hb : W.heap[g]? = some (.cells cs T' (0, 0)))
  (hs : cells.size = cs.size) (hi : (P.info? T).map (·.size) = some cells.size) (h1 : zdj cells)
  (h : ∀ w1, w1.heap[g]? = some (.cells cells T' (0, 0)) → Only (· = g) W w1 → K (a.put o.dst undef) w1) : Oper.wp P o a W K Q := by
 refine wp_store_mid T x y ho g 0 cells hx hy (fun j hj => ?_) hi (by unfold zdj at h1; rw [← Array.all_toList]; exact h1) (h _ ?_ ?_)
 ·rw [Nat.zero_add]
  refine ⟨?_, zbg hb j⟩
  rw [zab hb j, Array.getElem?_eq_getElem (by omega)]
  rfl
 ·have := zej cells.toList 0 W cs hb
  rw [zmd (by simpa using hs)] at this
  simpa using this
 ·exact zfb g cells.toList 0 W
end
theorem MsgRd.one {w : World} {v : Value} {m : M} {sv : Nat → Value} (h : MsgRd w v m sv) : zdj (msgC m.c sv) := by
 unfold zdj
 rw [List.all_eq_true]
 intro u hu
 obtain ⟨i, hi⟩ := List.mem_iff_getElem?.1 hu
 have hi' : (msgC m.c sv)[i]? = some u := by simpa using hi
 have hlt : i < 26 := by have := (Array.getElem?_eq_some_iff.1 hi').1; rwa [zce] at this
 cases hsc : scalar i with
 | true =>
  rw [zfc _ _ i hsc] at hi'
  injection hi' with hi'
  subst hi'
  have := h.typed i hsc
  cases hk : zck i <;> rw [hk] at this <;> obtain ⟨x, hx⟩ := this <;> rw [hx] <;> rfl
 | false =>
  have : i = 3 ∨ i = 8 ∨ i = 9 ∨ i = 10 := by
   unfold scalar at hsc
   rw [decide_eq_true hlt] at hsc
   simp only [Bool.true_and, Bool.not_eq_false', Bool.or_eq_true, beq_iff_eq] at hsc
   omega
  have key : ∀ j fs, (j, fs) ∈ zah → (sv j).oneCell' = true := fun j fs hj => by
   obtain ⟨a, c, e, _⟩ := h.rd j fs hj
   rw [e]; rfl
  rcases this with rfl | rfl | rfl | rfl
  ·rw [zeg m.c sv (fs := zak) (by simp [zah])] at hi'; injection hi' with hi'; subst hi'; exact key 3 zak (by simp [zah])
  ·rw [zeg m.c sv (fs := zat) (by simp [zah])] at hi'; injection hi' with hi'; subst hi'; exact key 8 zat (by simp [zah])
  ·rw [zeg m.c sv (fs := zau) (by simp [zah])] at hi'; injection hi' with hi'; subst hi'; exact key 9 zau (by simp [zah])
  ·rw [zeg m.c sv (fs := zaj) (by simp [zah])] at hi'; injection hi' with hi'; subst hi'; exact key 10 zaj (by simp [zah])
theorem ListRd.only {S : Nat → Prop} {w w' : World} {sv : Value} {st : Nat} {rows : List (List Value)} (h : ListRd w sv st rows) (hO : Only S w w') (hs : ∀ k, arr sv = some k → rows ≠ [] → ¬ S k) : ListRd w' sv st rows := by
 obtain ⟨a, c, rfl, h0, h3⟩ := h
 refine ⟨a, c, rfl, h0, fun h' => ?_⟩
 obtain ⟨ad, rfl, h4⟩ := h3 h'
 refine ⟨ad, rfl, fun k r hr j v hv => hO.cell (h4 k r hr j v hv) ?_⟩
 have e : (ad.add (k * st + j)).block = ad.block := by unfold Addr.add; split <;> rfl
 rw [e]
 exact hs ad.block rfl h'
theorem MsgRd.only {S : Nat → Prop} {w w' : World} {v : Value} {m : M} {sv : Nat → Value} (h : MsgRd w v m sv) (hO : Only S w w') (hs : ∀ j fs, (j, fs) ∈ zah → ∀ k, arr (sv j) = some k → m.L j ≠ [] → ¬ S k) : MsgRd w' v m sv :=
 ⟨h.eq, h.typed, h.fit, fun j fs hj => (h.rd j fs hj).only hO (hs j fs hj)⟩
structure RdOrd (w w5 : World) (g2 gr q gi gm : Nat) (xs : List Int) : Prop where
 inv : IInv gi gr q (xs, false, false) w5
 no : ¬ IOwn gi gr q w5.heap gm
 res : w5.heap[g2]? = some (.cells (msgC zdu nils) 35 (0, 0))
 bel : Below w.heap.size w w5
 o1 : g2 = w.heap.size
 o2 : g2 < gr
 o3 : g2 < q
 o4 : gr < gi
 o5 : q < gi
 o6 : gi < gm
 o7 : gm < w5.heap.size
theorem rd_start {w w2 w3 w4 w5 : World} {g2 gr q gi gm : Nat} {xs : List Int} {T : TypeId} {zs : Array Value}
  (b2 : Below w.heap.size w w2) (x2 : w2.heap[g2]? = some (.cells (msgC zdu nils) 35 (0, 0))) (e2 : g2 = w.heap.size)
  (rd : RdAt w3 gr q xs false) (n1 : w2.heap.size ≤ gr) (n2 : w2.heap.size ≤ q) (b3 : Below w2.heap.size w2 w3)
  (b4 : Below w3.heap.size w3 w4) (x4 : w4.heap[gi]? = some (.cells #[.pointer (some ⟨gr, 0, none⟩), .bool false] 110 (0, 0))) (e4 : gi = w3.heap.size)
  (b5 : Below w4.heap.size w4 w5) (x5 : w5.heap[gm]? = some (.cells zs T (0, 0))) (e5 : gm = w4.heap.size) (hx : ∀ x ∈ xs, IsB x) : RdOrd w w5 g2 gr q gi gm xs := by
 have l2 := zad x2
 have l4 := zad x4
 have l5 := zad x5
 have rd' := rd
 obtain ⟨off, c, hb, _, _, hne, hq, _⟩ := rd'
 have lr := zad hb
 have s2 := b2.size
 have s3 := b3.size
 have s4 := b4.size
 have s5 := b5.size
 have m5 : ∀ k, k < w3.heap.size → w5.heap[k]? = w3.heap[k]? := fun k hk => (b5.block k (by omega)).trans (b4.block k hk)
 refine ⟨⟨(b5.block gi (by omega)).trans x4, rd.move (fun k hk => m5 k (by rcases hk with rfl | rfl <;> assumption)), hx, by omega, by omega⟩, ?_, (m5 g2 (by omega)).trans ((b3.block g2 l2).trans x2), b2.trans ((b3.mono s2).trans ((b4.mono (by omega)).trans (b5.mono (by omega)))), e2, by omega, by omega, by omega, by omega, by omega, by omega⟩
 rintro (h | h | h) <;> omega
theorem RdOrd.fin {w w5 w12 : World} {g2 gr q gi gm : Nat} {xs : List Int} (h : RdOrd w w5 g2 gr q gi gm xs) (hO : Only (fun k => k = gi ∨ k = gr ∨ k = q ∨ k = gm) w5 w12) :
  w12.heap[g2]? = some (.cells (msgC zdu nils) 35 (0, 0)) ∧ Below w.heap.size w w12 := by
 have := h.o1; have := h.o2; have := h.o3; have := h.o4; have := h.o5; have := h.o6; have := h.o7
 refine ⟨hO.blk h.res (by rintro (h | h | h | h) <;> omega), zaz h.bel hO h.bel.size ?_⟩
 rintro k (hk | hk | hk | hk) <;> omega
theorem zsp (A : Option Addr) (n c : Nat) (xs : List Int) (w : World) (hr : ReadsInt w .u8 A n xs) (hn : n ≤ 9000000000) (hx : ∀ x ∈ xs, IsB x) :
  Calls Try.prog 25 #[.slice A n c] w (IsRd xs w) := by
 have HL := aK (show xs.length ≤ 9000000000 by have := hr.1; omega)
 have HX := aK hx
 have HRd := aK (fun (W : World) (hB : Below w.heap.size w W) => read_c A n c xs W (hr.below hB) (by omega))
 clear hr hx
 go_enter Try.func25, Try.ntmps25
 go_wp2_with (first | ((with_reducible refine zag (N := 2) rfl ?_); refine zbe rfl 35 rfl _ (zci _) ?_; intro g2 w2 hg hbox hb; have HB2 := aK hb; have HX2 := aK hbox; have HG2 := aK hg; have HC := aK (HRd.out w2 hb); clear hb hg hbox) | (go_at_call 58; (with_reducible refine HC.out.mono ?_); rintro e w3 ⟨gr, q, rfl, hRd, h1, h2, h3, hB3⟩; have HRD := aK hRd; have HN1 := aK h1; have HN2 := aK h2; have HB3 := aK hB3; clear hRd h1 h2 h3 hB3) | ((with_reducible refine zag (N := 9) rfl ?_); refine zbf rfl 110 (.tmp 8) rfl #[.pointer (some ⟨gr, 0, none⟩), .bool false] rfl ?_; intro gi w4 hg hbox hb; have HB4 := aK hb; have HX4 := aK hbox; have HG4 := aK hg; clear hb hg hbox) | ((with_reducible refine zag (N := 5) rfl ?_); refine zbe rfl 35 rfl _ (zci _) ?_; intro gm w5 hg hbox hb; have HS := aK (rd_start HB2.out HX2.out HG2.out HRD.out HN1.out HN2.out HB3.out HB4.out HX4.out HG4.out hb hbox hg HX.out); have HK := aK (rd_kind HS.out.inv HS.out.no hbox HL.out); clear hb hg hbox; obtain ⟨kn, C, hC1⟩ := HK.out; have C1 := aK hC1; clear hC1 HK) | (go_at_call 59; (with_reducible refine C1.out.mono ?_); rintro e w10 ⟨rfl, H⟩; have C2 := aK (rd_head H); clear H) | (go_at_call 40; (with_reducible refine C2.out.mono ?_); rintro e w11 ⟨rfl, H⟩; have C3 := aK (zsn H); clear H) | (go_at_call 41; (with_reducible refine C3.out.mono ?_); rintro e w12 ⟨rfl, H⟩; have S3 := aK (rd_end H); clear H) | fail)
 obtain ⟨hO12, hI12, sv, hX12, hM12, hF12⟩ := S3.out
 obtain ⟨hXR, hB12⟩ := HS.out.fin hO12
 obtain ⟨o, ho⟩ : ∃ o, (rdR xs).1.2.2 = o := ⟨_, rfl⟩
 have HX12 := aK hX12
 have HI0 := aK (show w12.cell? ⟨gi, 0, none⟩ = some (.pointer (some ⟨gr, 0, none⟩)) from (zab hI12.blk 0).trans rfl)
 have HI1 := aK (show w12.cell? ⟨gi, 1, none⟩ = some (.bool o) from ((zab hI12.blk 1).trans (by rw [← ho]; rfl)))
 obtain ⟨en, he⟩ : ∃ en, rend (rdR xs).1.1 (rdR xs).1.2.1 = en := ⟨_, rfl⟩
 have hen : en = 0 ∨ en = 2 := by rw [← he]; unfold rend; split <;> simp
 have hCE := rEnd_c gr q (rdR xs).1.1 (rdR xs).1.2.1 w12.drew hI12.rd
 rw [he] at hCE
 have CE := aK hCE
 have HOKE := aK (show rdOk xs = ((en == 0) && !o) from by unfold rdOk; rw [he, ho])
 have HXR := aK (show w12.drew.heap[g2]? = _ from hXR)
 have HNE := aK (show gm ≠ g2 ∧ gi ≠ g2 from by have := HS.out.o1; have := HS.out.o2; have := HS.out.o4; have := HS.out.o6; omega)
 have HOA := aK hM12.one
 have HFIN := aK (fun (w13 : World) (hO : Only (· = g2) w12.drew w13) => And.intro (zaz hB12 (show Only (· = g2) w12 w13 from ⟨hO.os, hO.tape, hO.output, hO.size, hO.block⟩) hB12.size (fun k hk => by have := HS.out.o1; have hk' : k = g2 := hk; omega)) (hM12.only (show Only (· = g2) w12 w13 from ⟨hO.os, hO.tape, hO.output, hO.size, hO.block⟩) (fun j fs hj k hk h0 e => by have := (hF12 j fs hj k hk h0).1; have := HS.out.o1; have := HS.out.o2; have := HS.out.o4; have := HS.out.o6; have := HS.out.o7; have e' : k = g2 := e; omega)))
 have HFR := aK (fun j fs hj k hk h0 => Nat.le_trans HS.out.bel.size (hF12 j fs hj k hk h0).1)
 clear hO12 hI12 hX12 hM12 hF12 hXR hB12 ho he hCE S3 HS HL HX HRd HC HRD HN1 HN2 HB2 HB3 HB4 HX2 HX4 HG2 HG4 C1 C2 C3
 rcases hen with rfl | rfl
 ·refine wp_region_held_drew (S := (fun W => W.heap[gm]? = some (.cells (msgC (rdM xs).c sv) 35 (0, 0)) ∧ W.cell? ⟨gi, 0, none⟩ = some (.pointer (some ⟨gr, 0, none⟩)) ∧ W.cell? ⟨gi, 1, none⟩ = some (.bool o))) (by kernel_rfl) ⟨HX12.out, HI0.out, HI1.out⟩ (fun hHeld => ?_)
  refine wpAnyH_take (i := 0) (oi := { dst := some 19, op := Go.Op.load 35 (Go.Operand.tmp 5), type := 35, pos := "wire.go:226", after := #[], guard := none }) (v := .agg (msgC (rdM xs).c sv)) rfl (by kernel_rfl) (by kernel_rfl) (by kernel_rfl) (fun _ _ _ h => h) ?_ (by assumption) ?_
  ·refine Or.inl ⟨by rfl, fun W hSW => ?_⟩
   exact zhp rfl rfl hSW.1 Try.underlying35 rfl zay
  try simp only [Act.put, aS, aZ, aC]
  refine wpAnyH_take (i := 1) (oi := { dst := some 20, op := Go.Op.move (Go.Operand.tmp 4), type := 106, pos := "wire.go:226", after := #[], guard := none }) (v := ?_) rfl (by kernel_rfl) (by kernel_rfl) (by kernel_rfl) (fun _ _ _ h => h) (Or.inl ⟨by rfl, ?_⟩) (by assumption) ?_
  rotate_left 1
  ·(intro W hSW; obtain ⟨hS1, hS2, hS3⟩ := hSW; go_simp; (try with_reducible rfl))
  try simp only [Act.put, aS, aZ, aC]
  refine wpAnyH_take (i := 2) (oi := { dst := some 21, op := Go.Op.nilCheck (Go.Operand.tmp 20), type := 0, pos := "wire.go:226", after := #[{ on := 1, ground := Go.Ground.data }], guard := none }) (v := ?_) rfl (by kernel_rfl) (by kernel_rfl) (by kernel_rfl) (fun _ _ _ h => h) (Or.inl ⟨by rfl, ?_⟩) (by assumption) ?_
  rotate_left 1
  ·(intro W hSW; obtain ⟨hS1, hS2, hS3⟩ := hSW; go_simp; (try with_reducible rfl))
  try simp only [Act.put, aS, aZ, aC]
  refine wpAnyH_take (i := 3) (oi := { dst := some 22, op := Go.Op.fieldAddr 110 (Go.Operand.tmp 21) 0, type := 0, pos := "wire.go:226", after := #[{ on := 2, ground := Go.Ground.data }], guard := none }) (v := ?_) rfl (by kernel_rfl) (by kernel_rfl) (by kernel_rfl) (fun _ _ _ h => h) (Or.inl ⟨by rfl, ?_⟩) (by assumption) ?_
  rotate_left 1
  ·(intro W hSW; obtain ⟨hS1, hS2, hS3⟩ := hSW; go_simp; (try with_reducible rfl))
  try simp only [Act.put, aS, aZ, aC]
  refine wpAnyH_take (i := 4) (oi := { dst := some 23, op := Go.Op.load 107 (Go.Operand.tmp 22), type := 107, pos := "wire.go:226", after := #[{ on := 3, ground := Go.Ground.data }], guard := none }) (v := ?_) rfl (by kernel_rfl) (by kernel_rfl) (by kernel_rfl) (fun _ _ _ h => h) (Or.inl ⟨by rfl, ?_⟩) (by assumption) ?_
  rotate_left 1
  ·(intro W hSW; obtain ⟨hS1, hS2, hS3⟩ := hSW; go_simp; (try with_reducible rfl))
  try simp only [Act.put, aS, aZ, aC]
  refine wpAnyH_ready (rs := [5]) (by kernel_rfl) (by simp) ?_
  refine AllReadyH.cons (o := { dst := some 24, op := Go.Op.call { callee := Go.Callee.value (Go.Operand.func 60), args := #[Go.Operand.tmp 23], argTypes := #[107] }, type := 28, pos := "wire.go:226", after := #[{ on := 4, ground := Go.Ground.data }], guard := none }) rfl (fun K hK => ?_) AllReadyH.nil
  go_simp
  go_at_call 60
  refine CE.out.mono ?_
  rintro e w' ⟨rfl, rfl⟩
  go_wp2_with fail
  refine hK.out _ _ hHeld (fun hHeld' => ?_)
  clear hK K hHeld'
  try simp only [Act.put, aS, aZ, aC]
  refine wpAnyH_take (i := 6) (oi := { dst := some 25, op := Go.Op.binOp Go.BinOp.eql 28 (Go.Operand.tmp 24) (Go.Operand.const (Go.Value.int Go.IntKind.i64 0)) 28, type := 4, pos := "wire.go:226", after := #[{ on := 5, ground := Go.Ground.data }], guard := none }) (v := ?_) rfl (by kernel_rfl) (by kernel_rfl) (by kernel_rfl) (fun _ _ _ h => h) (Or.inl ⟨by rfl, ?_⟩) (by assumption) ?_
  rotate_left 1
  ·(intro W hSW; obtain ⟨hS1, hS2, hS3⟩ := hSW; go_simp; (try with_reducible rfl))
  try simp only [Act.put, aS, aZ, aC]
  refine wpAnyH_take (i := 7) (oi := { dst := some 26, op := Go.Op.move (Go.Operand.tmp 25), type := 4, pos := "wire.go:226", after := #[{ on := 6, ground := Go.Ground.data }, { on := 5, ground := Go.Ground.chain }], guard := none }) (v := ?_) rfl (by kernel_rfl) (by kernel_rfl) (by kernel_rfl) (fun _ _ _ h => h) (Or.inl ⟨by rfl, ?_⟩) (by assumption) ?_
  rotate_left 1
  ·(intro W hSW; obtain ⟨hS1, hS2, hS3⟩ := hSW; go_simp; (try with_reducible rfl))
  try simp only [Act.put, aS, aZ, aC]
  refine wpAnyH_take (i := 8) (oi := { dst := some 27, op := Go.Op.move (Go.Operand.tmp 4), type := 106, pos := "wire.go:226", after := #[{ on := 7, ground := Go.Ground.guard }, { on := 14, ground := Go.Ground.gcOnly Go.Departure.lateStores }], guard := some (7, true) }) (v := ?_) rfl (by kernel_rfl) (by kernel_rfl) (by kernel_rfl) (fun _ _ _ h => h) (Or.inl ⟨by rfl, ?_⟩) (by assumption) ?_
  rotate_left 1
  ·(intro W hSW; obtain ⟨hS1, hS2, hS3⟩ := hSW; go_simp; (try with_reducible rfl))
  try simp only [Act.put, aS, aZ, aC]
  refine wpAnyH_take (i := 9) (oi := { dst := some 28, op := Go.Op.nilCheck (Go.Operand.tmp 27), type := 0, pos := "wire.go:226", after := #[{ on := 8, ground := Go.Ground.data }, { on := 7, ground := Go.Ground.guard }, { on := 14, ground := Go.Ground.gcOnly Go.Departure.lateStores }], guard := some (7, true) }) (v := ?_) rfl (by kernel_rfl) (by kernel_rfl) (by kernel_rfl) (fun _ _ _ h => h) (Or.inl ⟨by rfl, ?_⟩) (by assumption) ?_
  rotate_left 1
  ·(intro W hSW; obtain ⟨hS1, hS2, hS3⟩ := hSW; go_simp; (try with_reducible rfl))
  try simp only [Act.put, aS, aZ, aC]
  refine wpAnyH_take (i := 10) (oi := { dst := some 29, op := Go.Op.fieldAddr 110 (Go.Operand.tmp 28) 1, type := 0, pos := "wire.go:226", after := #[{ on := 9, ground := Go.Ground.data }, { on := 7, ground := Go.Ground.guard }, { on := 14, ground := Go.Ground.gcOnly Go.Departure.lateStores }], guard := some (7, true) }) (v := ?_) rfl (by kernel_rfl) (by kernel_rfl) (by kernel_rfl) (fun _ _ _ h => h) (Or.inl ⟨by rfl, ?_⟩) (by assumption) ?_
  rotate_left 1
  ·(intro W hSW; obtain ⟨hS1, hS2, hS3⟩ := hSW; go_simp; (try with_reducible rfl))
  try simp only [Act.put, aS, aZ, aC]
  refine wpAnyH_take (i := 11) (oi := { dst := some 30, op := Go.Op.load 4 (Go.Operand.tmp 29), type := 4, pos := "wire.go:226", after := #[{ on := 10, ground := Go.Ground.data }, { on := 7, ground := Go.Ground.guard }, { on := 14, ground := Go.Ground.gcOnly Go.Departure.lateStores }], guard := some (7, true) }) (v := ?_) rfl (by kernel_rfl) (by kernel_rfl) (by kernel_rfl) (fun _ _ _ h => h) (Or.inl ⟨by rfl, ?_⟩) (by assumption) ?_
  rotate_left 1
  ·(intro W hSW; obtain ⟨hS1, hS2, hS3⟩ := hSW; go_simp; (try with_reducible rfl))
  try simp only [Act.put, aS, aZ, aC]
  refine wpAnyH_take (i := 12) (oi := { dst := some 31, op := Go.Op.unOp Go.UnOp.not 4 (Go.Operand.tmp 30), type := 4, pos := "wire.go:226", after := #[{ on := 11, ground := Go.Ground.data }, { on := 7, ground := Go.Ground.guard }, { on := 14, ground := Go.Ground.gcOnly Go.Departure.lateStores }], guard := some (7, true) }) (v := ?_) rfl (by kernel_rfl) (by kernel_rfl) (by kernel_rfl) (fun _ _ _ h => h) (Or.inl ⟨by rfl, ?_⟩) (by assumption) ?_
  rotate_left 1
  ·(intro W hSW; obtain ⟨hS1, hS2, hS3⟩ := hSW; go_simp; (try with_reducible rfl))
  try simp only [Act.put, aS, aZ, aC]
  refine wpAnyH_take (i := 13) (oi := { dst := some 32, op := Go.Op.pick (Go.Operand.tmp 26) (Go.Operand.tmp 31) (Go.Operand.const (Go.Value.bool false)), type := 4, pos := "wire.go:226", after := #[{ on := 7, ground := Go.Ground.data }, { on := 12, ground := Go.Ground.data }, { on := 14, ground := Go.Ground.gcOnly Go.Departure.lateStores }], guard := none }) (v := ?_) rfl (by kernel_rfl) (by kernel_rfl) (by kernel_rfl) (fun _ _ _ h => h) (Or.inl ⟨by rfl, ?_⟩) (by assumption) ?_
  rotate_left 1
  ·(intro W hSW; obtain ⟨hS1, hS2, hS3⟩ := hSW; go_simp; (try with_reducible rfl))
  try simp only [Act.put, aS, aZ, aC]
  refine wpAnyH_ready (rs := [14]) (by kernel_rfl) (by simp) ?_
  refine AllReadyH.cons (o := { dst := none, op := Go.Op.store 35 (Go.Operand.tmp 2) (Go.Operand.tmp 19), type := 0, pos := "wire.go:226", after := #[{ on := 0, ground := Go.Ground.data }, { on := 7, ground := Go.Ground.chain }, { on := 0, ground := Go.Ground.phase }, { on := 1, ground := Go.Ground.textOnly Go.Departure.lateStores }, { on := 2, ground := Go.Ground.textOnly Go.Departure.lateStores }, { on := 3, ground := Go.Ground.textOnly Go.Departure.lateStores }, { on := 4, ground := Go.Ground.textOnly Go.Departure.lateStores }, { on := 5, ground := Go.Ground.textOnly Go.Departure.lateStoresUnsure }, { on := 6, ground := Go.Ground.textOnly Go.Departure.lateStores }, { on := 7, ground := Go.Ground.textOnly Go.Departure.lateStores }, { on := 8, ground := Go.Ground.textOnly Go.Departure.lateStores }, { on := 9, ground := Go.Ground.textOnly Go.Departure.lateStores }, { on := 10, ground := Go.Ground.textOnly Go.Departure.lateStores }, { on := 11, ground := Go.Ground.textOnly Go.Departure.lateStores }, { on := 12, ground := Go.Ground.textOnly Go.Departure.lateStores }, { on := 13, ground := Go.Ground.textOnly Go.Departure.lateStores }], guard := none }) rfl (fun K hK => ?_) AllReadyH.nil
  rw [if_pos (by rfl)]
  refine zfq 35 (.tmp 2) (.tmp 19) rfl g2 rfl (msgC (rdM xs).c sv) _ rfl _ HXR.out rfl zay HOA.out (fun w13 hX13 hO13 => ?_)
  have HX13 := aK hX13
  have HO13 := aK hO13
  clear hX13 hO13
  refine hK.out _ _ ⟨HO13.out.blk HX12.out HNE.out.1, HO13.out.cell HI0.out HNE.out.2, HO13.out.cell HI1.out HNE.out.2⟩ (fun hHeld' => ?_)
  clear hK K hHeld
  try simp only [Act.put, aS, aZ, aC]
  refine wpAnyH_take (i := 15) (oi := { dst := some 3, op := Go.Op.assign (Go.Operand.tmp 32), type := 4, pos := "wire.go:226", after := #[{ on := 13, ground := Go.Ground.data }, { on := 14, ground := Go.Ground.chain }, { on := 0, ground := Go.Ground.phase }, { on := 1, ground := Go.Ground.phase }, { on := 2, ground := Go.Ground.phase }, { on := 3, ground := Go.Ground.phase }, { on := 4, ground := Go.Ground.phase }, { on := 5, ground := Go.Ground.phase }, { on := 6, ground := Go.Ground.phase }, { on := 7, ground := Go.Ground.phase }, { on := 8, ground := Go.Ground.phase }, { on := 9, ground := Go.Ground.phase }, { on := 10, ground := Go.Ground.phase }, { on := 11, ground := Go.Ground.phase }, { on := 12, ground := Go.Ground.phase }, { on := 13, ground := Go.Ground.phase }, { on := 14, ground := Go.Ground.phase }], guard := none }) (v := ?_) rfl (by kernel_rfl) (by kernel_rfl) (by kernel_rfl) (fun _ _ _ h => h) (Or.inl ⟨by rfl, ?_⟩) (by assumption) ?_
  rotate_left 1
  ·(intro W hSW; obtain ⟨hS1, hS2, hS3⟩ := hSW; go_simp; (try with_reducible rfl))
  try simp only [Act.put, aS, aZ, aC]
  refine wpAnyH_done (by kernel_rfl) ?_ _
  go_wp2
  refine bodyPost_ret (zep (P := Try.prog) (fn := Try.f25) rfl _ _ g2 _ (msgC (rdM xs).c sv) (0, 0) _ rfl HX13.out Try.underlying35 rfl zay) rfl ?_
  obtain ⟨k1, k2⟩ := HFIN.out w13 HO13.out
  exact ⟨k1, _, _, rfl, HOKE.out.symm, sv, k2, HFR.out⟩
 ·refine wp_region_held_drew (S := (fun W => W.heap[gm]? = some (.cells (msgC (rdM xs).c sv) 35 (0, 0)) ∧ W.cell? ⟨gi, 0, none⟩ = some (.pointer (some ⟨gr, 0, none⟩)) ∧ W.cell? ⟨gi, 1, none⟩ = some (.bool o))) (by kernel_rfl) ⟨HX12.out, HI0.out, HI1.out⟩ (fun hHeld => ?_)
  refine wpAnyH_take (i := 0) (oi := { dst := some 19, op := Go.Op.load 35 (Go.Operand.tmp 5), type := 35, pos := "wire.go:226", after := #[], guard := none }) (v := .agg (msgC (rdM xs).c sv)) rfl (by kernel_rfl) (by kernel_rfl) (by kernel_rfl) (fun _ _ _ h => h) ?_ (by assumption) ?_
  ·refine Or.inl ⟨by rfl, fun W hSW => ?_⟩
   exact zhp rfl rfl hSW.1 Try.underlying35 rfl zay
  try simp only [Act.put, aS, aZ, aC]
  refine wpAnyH_take (i := 1) (oi := { dst := some 20, op := Go.Op.move (Go.Operand.tmp 4), type := 106, pos := "wire.go:226", after := #[], guard := none }) (v := ?_) rfl (by kernel_rfl) (by kernel_rfl) (by kernel_rfl) (fun _ _ _ h => h) (Or.inl ⟨by rfl, ?_⟩) (by assumption) ?_
  rotate_left 1
  ·(intro W hSW; obtain ⟨hS1, hS2, hS3⟩ := hSW; go_simp; (try with_reducible rfl))
  try simp only [Act.put, aS, aZ, aC]
  refine wpAnyH_take (i := 2) (oi := { dst := some 21, op := Go.Op.nilCheck (Go.Operand.tmp 20), type := 0, pos := "wire.go:226", after := #[{ on := 1, ground := Go.Ground.data }], guard := none }) (v := ?_) rfl (by kernel_rfl) (by kernel_rfl) (by kernel_rfl) (fun _ _ _ h => h) (Or.inl ⟨by rfl, ?_⟩) (by assumption) ?_
  rotate_left 1
  ·(intro W hSW; obtain ⟨hS1, hS2, hS3⟩ := hSW; go_simp; (try with_reducible rfl))
  try simp only [Act.put, aS, aZ, aC]
  refine wpAnyH_take (i := 3) (oi := { dst := some 22, op := Go.Op.fieldAddr 110 (Go.Operand.tmp 21) 0, type := 0, pos := "wire.go:226", after := #[{ on := 2, ground := Go.Ground.data }], guard := none }) (v := ?_) rfl (by kernel_rfl) (by kernel_rfl) (by kernel_rfl) (fun _ _ _ h => h) (Or.inl ⟨by rfl, ?_⟩) (by assumption) ?_
  rotate_left 1
  ·(intro W hSW; obtain ⟨hS1, hS2, hS3⟩ := hSW; go_simp; (try with_reducible rfl))
  try simp only [Act.put, aS, aZ, aC]
  refine wpAnyH_take (i := 4) (oi := { dst := some 23, op := Go.Op.load 107 (Go.Operand.tmp 22), type := 107, pos := "wire.go:226", after := #[{ on := 3, ground := Go.Ground.data }], guard := none }) (v := ?_) rfl (by kernel_rfl) (by kernel_rfl) (by kernel_rfl) (fun _ _ _ h => h) (Or.inl ⟨by rfl, ?_⟩) (by assumption) ?_
  rotate_left 1
  ·(intro W hSW; obtain ⟨hS1, hS2, hS3⟩ := hSW; go_simp; (try with_reducible rfl))
  try simp only [Act.put, aS, aZ, aC]
  refine wpAnyH_ready (rs := [5]) (by kernel_rfl) (by simp) ?_
  refine AllReadyH.cons (o := { dst := some 24, op := Go.Op.call { callee := Go.Callee.value (Go.Operand.func 60), args := #[Go.Operand.tmp 23], argTypes := #[107] }, type := 28, pos := "wire.go:226", after := #[{ on := 4, ground := Go.Ground.data }], guard := none }) rfl (fun K hK => ?_) AllReadyH.nil
  go_simp
  go_at_call 60
  refine CE.out.mono ?_
  rintro e w' ⟨rfl, rfl⟩
  go_wp2_with fail
  refine hK.out _ _ hHeld (fun hHeld' => ?_)
  clear hK K hHeld'
  try simp only [Act.put, aS, aZ, aC]
  refine wpAnyH_take (i := 6) (oi := { dst := some 25, op := Go.Op.binOp Go.BinOp.eql 28 (Go.Operand.tmp 24) (Go.Operand.const (Go.Value.int Go.IntKind.i64 0)) 28, type := 4, pos := "wire.go:226", after := #[{ on := 5, ground := Go.Ground.data }], guard := none }) (v := ?_) rfl (by kernel_rfl) (by kernel_rfl) (by kernel_rfl) (fun _ _ _ h => h) (Or.inl ⟨by rfl, ?_⟩) (by assumption) ?_
  rotate_left 1
  ·(intro W hSW; obtain ⟨hS1, hS2, hS3⟩ := hSW; go_simp; (try with_reducible rfl))
  try simp only [Act.put, aS, aZ, aC]
  refine wpAnyH_take (i := 7) (oi := { dst := some 26, op := Go.Op.move (Go.Operand.tmp 25), type := 4, pos := "wire.go:226", after := #[{ on := 6, ground := Go.Ground.data }, { on := 5, ground := Go.Ground.chain }], guard := none }) (v := ?_) rfl (by kernel_rfl) (by kernel_rfl) (by kernel_rfl) (fun _ _ _ h => h) (Or.inl ⟨by rfl, ?_⟩) (by assumption) ?_
  rotate_left 1
  ·(intro W hSW; obtain ⟨hS1, hS2, hS3⟩ := hSW; go_simp; (try with_reducible rfl))
  try simp only [Act.put, aS, aZ, aC]
  refine wpAnyH_take (i := 8) (oi := { dst := some 27, op := Go.Op.move (Go.Operand.tmp 4), type := 106, pos := "wire.go:226", after := #[{ on := 7, ground := Go.Ground.guard }, { on := 14, ground := Go.Ground.gcOnly Go.Departure.lateStores }], guard := some (7, true) }) (v := undef) rfl (by kernel_rfl) (by kernel_rfl) (by kernel_rfl) (fun _ _ _ h => h) (Or.inr ⟨by rfl, rfl⟩) (by assumption) ?_
  try simp only [Act.put, aS, aZ, aC]
  refine wpAnyH_take (i := 9) (oi := { dst := some 28, op := Go.Op.nilCheck (Go.Operand.tmp 27), type := 0, pos := "wire.go:226", after := #[{ on := 8, ground := Go.Ground.data }, { on := 7, ground := Go.Ground.guard }, { on := 14, ground := Go.Ground.gcOnly Go.Departure.lateStores }], guard := some (7, true) }) (v := undef) rfl (by kernel_rfl) (by kernel_rfl) (by kernel_rfl) (fun _ _ _ h => h) (Or.inr ⟨by rfl, rfl⟩) (by assumption) ?_
  try simp only [Act.put, aS, aZ, aC]
  refine wpAnyH_take (i := 10) (oi := { dst := some 29, op := Go.Op.fieldAddr 110 (Go.Operand.tmp 28) 1, type := 0, pos := "wire.go:226", after := #[{ on := 9, ground := Go.Ground.data }, { on := 7, ground := Go.Ground.guard }, { on := 14, ground := Go.Ground.gcOnly Go.Departure.lateStores }], guard := some (7, true) }) (v := undef) rfl (by kernel_rfl) (by kernel_rfl) (by kernel_rfl) (fun _ _ _ h => h) (Or.inr ⟨by rfl, rfl⟩) (by assumption) ?_
  try simp only [Act.put, aS, aZ, aC]
  refine wpAnyH_take (i := 11) (oi := { dst := some 30, op := Go.Op.load 4 (Go.Operand.tmp 29), type := 4, pos := "wire.go:226", after := #[{ on := 10, ground := Go.Ground.data }, { on := 7, ground := Go.Ground.guard }, { on := 14, ground := Go.Ground.gcOnly Go.Departure.lateStores }], guard := some (7, true) }) (v := undef) rfl (by kernel_rfl) (by kernel_rfl) (by kernel_rfl) (fun _ _ _ h => h) (Or.inr ⟨by rfl, rfl⟩) (by assumption) ?_
  try simp only [Act.put, aS, aZ, aC]
  refine wpAnyH_take (i := 12) (oi := { dst := some 31, op := Go.Op.unOp Go.UnOp.not 4 (Go.Operand.tmp 30), type := 4, pos := "wire.go:226", after := #[{ on := 11, ground := Go.Ground.data }, { on := 7, ground := Go.Ground.guard }, { on := 14, ground := Go.Ground.gcOnly Go.Departure.lateStores }], guard := some (7, true) }) (v := undef) rfl (by kernel_rfl) (by kernel_rfl) (by kernel_rfl) (fun _ _ _ h => h) (Or.inr ⟨by rfl, rfl⟩) (by assumption) ?_
  try simp only [Act.put, aS, aZ, aC]
  refine wpAnyH_take (i := 13) (oi := { dst := some 32, op := Go.Op.pick (Go.Operand.tmp 26) (Go.Operand.tmp 31) (Go.Operand.const (Go.Value.bool false)), type := 4, pos := "wire.go:226", after := #[{ on := 7, ground := Go.Ground.data }, { on := 12, ground := Go.Ground.data }, { on := 14, ground := Go.Ground.gcOnly Go.Departure.lateStores }], guard := none }) (v := ?_) rfl (by kernel_rfl) (by kernel_rfl) (by kernel_rfl) (fun _ _ _ h => h) (Or.inl ⟨by rfl, ?_⟩) (by assumption) ?_
  rotate_left 1
  ·(intro W hSW; obtain ⟨hS1, hS2, hS3⟩ := hSW; go_simp; (try with_reducible rfl))
  try simp only [Act.put, aS, aZ, aC]
  refine wpAnyH_ready (rs := [14]) (by kernel_rfl) (by simp) ?_
  refine AllReadyH.cons (o := { dst := none, op := Go.Op.store 35 (Go.Operand.tmp 2) (Go.Operand.tmp 19), type := 0, pos := "wire.go:226", after := #[{ on := 0, ground := Go.Ground.data }, { on := 7, ground := Go.Ground.chain }, { on := 0, ground := Go.Ground.phase }, { on := 1, ground := Go.Ground.textOnly Go.Departure.lateStores }, { on := 2, ground := Go.Ground.textOnly Go.Departure.lateStores }, { on := 3, ground := Go.Ground.textOnly Go.Departure.lateStores }, { on := 4, ground := Go.Ground.textOnly Go.Departure.lateStores }, { on := 5, ground := Go.Ground.textOnly Go.Departure.lateStoresUnsure }, { on := 6, ground := Go.Ground.textOnly Go.Departure.lateStores }, { on := 7, ground := Go.Ground.textOnly Go.Departure.lateStores }, { on := 8, ground := Go.Ground.textOnly Go.Departure.lateStores }, { on := 9, ground := Go.Ground.textOnly Go.Departure.lateStores }, { on := 10, ground := Go.Ground.textOnly Go.Departure.lateStores }, { on := 11, ground := Go.Ground.textOnly Go.Departure.lateStores }, { on := 12, ground := Go.Ground.textOnly Go.Departure.lateStores }, { on := 13, ground := Go.Ground.textOnly Go.Departure.lateStores }], guard := none }) rfl (fun K hK => ?_) AllReadyH.nil
  rw [if_pos (by rfl)]
  refine zfq 35 (.tmp 2) (.tmp 19) rfl g2 rfl (msgC (rdM xs).c sv) _ rfl _ HXR.out rfl zay HOA.out (fun w13 hX13 hO13 => ?_)
  have HX13 := aK hX13
  have HO13 := aK hO13
  clear hX13 hO13
  refine hK.out _ _ ⟨HO13.out.blk HX12.out HNE.out.1, HO13.out.cell HI0.out HNE.out.2, HO13.out.cell HI1.out HNE.out.2⟩ (fun hHeld' => ?_)
  clear hK K hHeld
  try simp only [Act.put, aS, aZ, aC]
  refine wpAnyH_take (i := 15) (oi := { dst := some 3, op := Go.Op.assign (Go.Operand.tmp 32), type := 4, pos := "wire.go:226", after := #[{ on := 13, ground := Go.Ground.data }, { on := 14, ground := Go.Ground.chain }, { on := 0, ground := Go.Ground.phase }, { on := 1, ground := Go.Ground.phase }, { on := 2, ground := Go.Ground.phase }, { on := 3, ground := Go.Ground.phase }, { on := 4, ground := Go.Ground.phase }, { on := 5, ground := Go.Ground.phase }, { on := 6, ground := Go.Ground.phase }, { on := 7, ground := Go.Ground.phase }, { on := 8, ground := Go.Ground.phase }, { on := 9, ground := Go.Ground.phase }, { on := 10, ground := Go.Ground.phase }, { on := 11, ground := Go.Ground.phase }, { on := 12, ground := Go.Ground.phase }, { on := 13, ground := Go.Ground.phase }, { on := 14, ground := Go.Ground.phase }], guard := none }) (v := ?_) rfl (by kernel_rfl) (by kernel_rfl) (by kernel_rfl) (fun _ _ _ h => h) (Or.inl ⟨by rfl, ?_⟩) (by assumption) ?_
  rotate_left 1
  ·(intro W hSW; obtain ⟨hS1, hS2, hS3⟩ := hSW; go_simp; (try with_reducible rfl))
  try simp only [Act.put, aS, aZ, aC]
  refine wpAnyH_done (by kernel_rfl) ?_ _
  go_wp2
  refine bodyPost_ret (zep (P := Try.prog) (fn := Try.f25) rfl _ _ g2 _ (msgC (rdM xs).c sv) (0, 0) _ rfl HX13.out Try.underlying35 rfl zay) rfl ?_
  obtain ⟨k1, k2⟩ := HFIN.out w13 HO13.out
  exact ⟨k1, _, _, rfl, HOKE.out.symm, sv, k2, HFR.out⟩
end Go.Proofs.Ytcbehfbfaonanaa.Wr

end
