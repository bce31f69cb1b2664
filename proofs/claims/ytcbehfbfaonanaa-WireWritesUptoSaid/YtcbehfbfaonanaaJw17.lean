/- Part 18 of the texts that walk the program and tell its laws, joined in the order of their building. No conditions. -/
import Derived.Test.YtcbehfbfaonanaaJw16
import Derived.Test.YtcbehfbfaonanaaJw15
set_option maxRecDepth 100000
set_option maxHeartbeats 16000000
section
namespace Go.Proofs.Ytcbehfbfaonanaa.Wr
open Go.RowKit Go.Proofs.YtcbehfbfaonanaaW.PrintWords Go.Proofs.YtcbehfbfaonanaaW.PrintLast Go.Proofs.YtcbehfbfaonanaaW.PrintMore Go.Proofs.Ytcbehfbfaonanaa.Pk
set_option linter.unusedVariables false
set_option linter.unusedSimpArgs false
theorem seg2 {w : World} {g off : Nat} {u0 u1 : Value} (h0 : w.cell? ⟨g, off, none⟩ = some u0) (h1 : w.cell? ⟨g, off + 1, none⟩ = some u1) (j : Nat) (v : Value) (hj : [u0, u1][j]? = some v) : w.cell? ⟨g, off + j, none⟩ = some v := by
 match j, hj with
 | 0, hj => cases hj; exact h0
 | 1, hj => cases hj; exact h1
 | j + 2, hj => simp at hj
section
variable {P : Program} {md : Region.Mode} {ops : Array Oper} {Q : Exit → Act → World → Prop} {S : World → Prop} {fuel : Nat} {listed : Array Bool} {a : Act} {w : World} {o : Oper}
theorem tkH (i N : Nat) (v : Value) (hi : ops[i]? = some o) (hd : o.dst = some N) (hc : (Region.noSelect ops && (Region.free md ops listed i && (Region.ready md ops listed).contains i)) = true) (hQ : ∀ c a d v w, Q (.panic c) (a.put d v) w → Q (.panic c) a w) (hS : S w)
  (hw : Region.wanted o (yielded ops a.tmps) = true) (hy : ∀ W, S W → (execOp a.eval o).run P W = .ok (.value v) W)
  (h : wpAnyH P md ops Q S fuel (listed.setIfInBounds i true) (a.put (some N) v) w) : wpAnyH P md ops Q S (fuel + 1) listed a w := by
 rw [← hd] at h
 simp only [Bool.and_eq_true] at hc
 exact wpAnyH_take hi hc.1 hc.2.1 hc.2.2 (fun _ _ _ k => hQ _ _ _ _ _ k) (Or.inl ⟨hw, hy⟩) hS h
theorem skH (i N : Nat) (hi : ops[i]? = some o) (hd : o.dst = some N) (hc : (Region.noSelect ops && (Region.free md ops listed i && (Region.ready md ops listed).contains i)) = true) (hQ : ∀ c a d v w, Q (.panic c) (a.put d v) w → Q (.panic c) a w) (hS : S w)
  (hw : Region.wanted o (yielded ops a.tmps) = false)
  (h : wpAnyH P md ops Q S fuel (listed.setIfInBounds i true) (a.put (some N) undef) w) : wpAnyH P md ops Q S (fuel + 1) listed a w := by
 rw [← hd] at h
 simp only [Bool.and_eq_true] at hc
 exact wpAnyH_take hi hc.1 hc.2.1 hc.2.2 (fun _ _ _ k => hQ _ _ _ _ _ k) (Or.inr ⟨hw, rfl⟩) hS h
theorem evH (i N : Nat) {v : Value} {w1 : World} (hi : ops[i]? = some o) (hd : o.dst = some N) (hr : (Region.ready md ops listed == [i]) = true) (hw : Region.wanted o (yielded ops a.tmps) = true) (hrun : (execOp a.eval o).run P w = .ok (.value v) w1) (hS : S w1)
  (h : wpAnyH P md ops Q S fuel (listed.setIfInBounds i true) (a.put (some N) v) w1) : wpAnyH P md ops Q S (fuel + 1) listed a w := by
 rw [← hd] at h
 refine wpAnyH_ready (rs := [i]) (by simpa using hr) (by simp) (AllReadyH.cons hi (fun K' hK => ?_) (fun j hj => nomatch hj))
 rw [if_pos hw]
 unfold Oper.wp
 rw [hrun]
 exact hK _ _ hS (fun _ => h)
theorem zdg (i N : Nat) {f : FuncId} {fn : Func} {os : Array Operand} {ts : Array TypeId} (hi : ops[i]? = some o) (hd : o.dst = some N) (hr : (Region.ready md ops listed == [i]) = true) (hw : Region.wanted o (yielded ops a.tmps) = true)
  (hf : P.funcs[f]? = some fn) (hn : ((fn.name == "runtime.NumGoroutine") == false && fn.body.isSome) = true) (args : Array Value) (hop : o.op = .call { callee := .value (.func f), args := os, argTypes := ts }) (hargs : os.map a.eval = args)
  (h : Calls P f args w fun e w' => ∃ v, e = .returned v ∧ S w' ∧ wpAnyH P md ops Q S fuel (listed.setIfInBounds i true) (a.put (some N) v) w') : wpAnyH P md ops Q S (fuel + 1) listed a w := by
 rw [← hd] at h
 refine wpAnyH_ready (rs := [i]) (by simpa using hr) (by simp) (AllReadyH.cons hi (fun K' hK => ?_) (fun j hj => nomatch hj))
 rw [if_pos hw]
 simp only [Bool.and_eq_true, beq_iff_eq] at hn
 exact wp_calls hf hn.1 hn.2 args hop hargs (h.mono (fun e w' ⟨v, h1, h2, h3⟩ => ⟨v, h1, hK _ _ h2 (fun _ => h3)⟩))
end
noncomputable def rR1 : Code := cl (cl rb1)
theorem r1_any (w : World) (g : Nat) (f : Nat → Value) (x : Nat → Int) (s : Nat → ByteArray) (p : Nat → Bool) (A : Nat → Option Addr) (n c : Nat → Nat) (Q : Exit → Act → World → Prop) (hP : ∀ c a d v w, Q (.panic c) (a.put d v) w → Q (.panic c) a w) (HX : w.heap[g]? = some (.cells (cX x s p (fun j => .slice (A j) (n j) (c j))) 32 (0, 0)))
  (r1 r2 r3 r4 r5 : Bool) (hr1 : InB (x 0) 1 10 = r1) (hr3 : InB (x 1) 0 4 = r3) (hr4 : InB (x 2) 0 64 = r4) (hr5 : PosB [(x 4, x 5), (x 11, x 12), (x 19, x 20), (x 22, x 23)] = r5)
  (hO : r1 = true → ∀ W, Below w.heap.size w W → Calls Try.prog 48 #[.agg (cX x s p (fun j => .slice (A j) (n j) (c j)))] W (fun e w' => ∃ vo, e = .returned vo ∧ Below W.heap.size W w' ∧ ∀ W', Below w'.heap.size w' W' → Calls Try.prog 15 #[.agg (cX x s p (fun j => .slice (A j) (n j) (c j))), vo] W' (fun e w'' => e = .returned (.bool r2) ∧ Below W'.heap.size W' w'')))
  (hQ : ∀ a w', RFr 247 g a → a.tmps[46]? = some (.bool (!(r1 && r2 && r3 && r4 && r5))) → Below w.heap.size w w' → Q .normal a w') : rR1.wp Try.prog Q (rfr g f) w := by
 have F : ∀ W, Below w.heap.size w W → W.heap[g]? = some (.cells (cX x s p (fun j => .slice (A j) (n j) (c j))) 32 (0, 0)) := fun W hB => (hB.block g (zad HX)).trans HX
 unfold rfr
 conv => arg 2; whnf
 refine wp_region_held_drew (S := fun W => Below w.heap.size w W) (by kernel_rfl) ((Below.refl _ _).drew) (fun hHeld => ?_)
 refine tkH 0 10 (.pointer (some ⟨g, 0, none⟩)) rfl rfl (by kernel_rfl) hP ‹_› (by rfl) (by intro W hSW; go_simp; (try with_reducible rfl)) ?_; try simp only [Act.put, aS, aZ, aC]
 refine tkH 1 11 (.int .i64 (x 0)) rfl rfl (by kernel_rfl) hP ‹_› (by rfl) (by exact fun W hSW => zca rfl (g := g) (off := 0) rfl (zab (F W hSW) 0) TuI rfl) ?_; try simp only [Act.put, aS, aZ, aC]
 refine zdg 2 12 rfl rfl (by kernel_rfl) (by rfl) Try.func47 (by kernel_rfl) #[.int .i64 (x 0), .int .i64 1, .int .i64 10] rfl (by simp only [List.map_toArray, List.map_cons, List.map_nil]; rfl) ((in_c _ _ _ _ hr1 _).mono ?_); rintro e W2 ⟨rfl, hD⟩; refine ⟨_, rfl, ?_, ?_⟩; exact Below.trans (by assumption) (hD.below.mono (Below.size (by assumption))); have hSn : Below w.heap.size w W2 := Below.trans (by assumption) (hD.below.mono (Below.size (by assumption))); try simp only [Act.put, aS, aZ, aC]
 cases r1; rotate_left
 refine tkH 3 13 (.bool false) rfl rfl (by kernel_rfl) hP ‹_› (by rfl) (by intro W hSW; go_simp; (try with_reducible rfl)) ?_; try simp only [Act.put, aS, aZ, aC]
 refine tkH 4 14 (.bool false) rfl rfl (by kernel_rfl) hP ‹_› (by rfl) (by intro W hSW; go_simp; (try with_reducible rfl)) ?_; try simp only [Act.put, aS, aZ, aC]
 refine tkH 5 15 (.agg (cX x s p (fun j => .slice (A j) (n j) (c j)))) rfl rfl (by kernel_rfl) hP ‹_› (by rfl) (by exact fun W hSW => zas rfl (g := g) (off := 0) rfl (cX x s p (fun j => .slice (A j) (n j) (c j))).toList (fun j v hj => by rw [Nat.zero_add]; exact (zab (F W hSW) j).trans (by simpa using hj)) Try.underlying32 rfl (by kernel_rfl)) ?_; try simp only [Act.put, aS, aZ, aC]
 refine tkH 6 16 (.agg (cX x s p (fun j => .slice (A j) (n j) (c j)))) rfl rfl (by kernel_rfl) hP ‹_› (by rfl) (by exact fun W hSW => zas rfl (g := g) (off := 0) rfl (cX x s p (fun j => .slice (A j) (n j) (c j))).toList (fun j v hj => by rw [Nat.zero_add]; exact (zab (F W hSW) j).trans (by simpa using hj)) Try.underlying32 rfl (by kernel_rfl)) ?_; try simp only [Act.put, aS, aZ, aC]
 refine zdg 7 17 rfl rfl (by kernel_rfl) (by rfl) Try.func48 (by kernel_rfl) #[.agg (cX x s p (fun j => .slice (A j) (n j) (c j)))] rfl (by simp only [List.map_toArray, List.map_cons, List.map_nil]; rfl) ((hO rfl _ (by assumption)).mono ?_); rintro e W7 ⟨vo, rfl, hB, hSm⟩; refine ⟨_, rfl, ?_, ?_⟩; exact Below.trans (by assumption) (hB.mono (Below.size (by assumption))); have hSn : Below w.heap.size w W7 := Below.trans (by assumption) (hB.mono (Below.size (by assumption))); try simp only [Act.put, aS, aZ, aC]
 refine zdg 8 18 rfl rfl (by kernel_rfl) (by rfl) Try.func15 (by kernel_rfl) #[.agg (cX x s p (fun j => .slice (A j) (n j) (c j))), vo] rfl (by simp only [List.map_toArray, List.map_cons, List.map_nil]; rfl) ((hSm _ (Below.refl _ _)).mono ?_); rintro e W8 ⟨rfl, hB2⟩; refine ⟨_, rfl, ?_, ?_⟩; exact Below.trans (by assumption) (hB2.mono (Below.size (by assumption))); have hSn : Below w.heap.size w W8 := Below.trans (by assumption) (hB2.mono (Below.size (by assumption))); try simp only [Act.put, aS, aZ, aC]
 cases r2; rotate_left
 refine tkH 9 19 (.bool false) rfl rfl (by kernel_rfl) hP ‹_› (by rfl) (by intro W hSW; go_simp; (try with_reducible rfl)) ?_; try simp only [Act.put, aS, aZ, aC]
 refine tkH 10 20 (.bool false) rfl rfl (by kernel_rfl) hP ‹_› (by rfl) (by intro W hSW; go_simp; (try with_reducible rfl)) ?_; try simp only [Act.put, aS, aZ, aC]
 refine tkH 11 21 (.bool false) rfl rfl (by kernel_rfl) hP ‹_› (by rfl) (by intro W hSW; go_simp; (try with_reducible rfl)) ?_; try simp only [Act.put, aS, aZ, aC]
 refine tkH 12 22 (.pointer (some ⟨g, 1, none⟩)) rfl rfl (by kernel_rfl) hP ‹_› (by rfl) (by intro W hSW; go_simp; (try with_reducible rfl)) ?_; try simp only [Act.put, aS, aZ, aC]
 refine tkH 13 23 (.int .i64 (x 1)) rfl rfl (by kernel_rfl) hP ‹_› (by rfl) (by exact fun W hSW => zca rfl (g := g) (off := 1) rfl (zab (F W hSW) 1) TuI rfl) ?_; try simp only [Act.put, aS, aZ, aC]
 refine zdg 14 24 rfl rfl (by kernel_rfl) (by rfl) Try.func47 (by kernel_rfl) #[.int .i64 (x 1), .int .i64 0, .int .i64 4] rfl (by simp only [List.map_toArray, List.map_cons, List.map_nil]; rfl) ((in_c _ _ _ _ hr3 _).mono ?_); rintro e W14 ⟨rfl, hD⟩; refine ⟨_, rfl, ?_, ?_⟩; exact Below.trans (by assumption) (hD.below.mono (Below.size (by assumption))); have hSn : Below w.heap.size w W14 := Below.trans (by assumption) (hD.below.mono (Below.size (by assumption))); try simp only [Act.put, aS, aZ, aC]
 cases r3; rotate_left
 refine tkH 15 25 (.bool false) rfl rfl (by kernel_rfl) hP ‹_› (by rfl) (by intro W hSW; go_simp; (try with_reducible rfl)) ?_; try simp only [Act.put, aS, aZ, aC]
 refine tkH 16 26 (.bool false) rfl rfl (by kernel_rfl) hP ‹_› (by rfl) (by intro W hSW; go_simp; (try with_reducible rfl)) ?_; try simp only [Act.put, aS, aZ, aC]
 refine tkH 17 27 (.bool false) rfl rfl (by kernel_rfl) hP ‹_› (by rfl) (by intro W hSW; go_simp; (try with_reducible rfl)) ?_; try simp only [Act.put, aS, aZ, aC]
 refine tkH 18 28 (.pointer (some ⟨g, 2, none⟩)) rfl rfl (by kernel_rfl) hP ‹_› (by rfl) (by intro W hSW; go_simp; (try with_reducible rfl)) ?_; try simp only [Act.put, aS, aZ, aC]
 refine tkH 19 29 (.int .i64 (x 2)) rfl rfl (by kernel_rfl) hP ‹_› (by rfl) (by exact fun W hSW => zca rfl (g := g) (off := 2) rfl (zab (F W hSW) 2) TuI rfl) ?_; try simp only [Act.put, aS, aZ, aC]
 refine zdg 20 30 rfl rfl (by kernel_rfl) (by rfl) Try.func47 (by kernel_rfl) #[.int .i64 (x 2), .int .i64 0, .int .i64 64] rfl (by simp only [List.map_toArray, List.map_cons, List.map_nil]; rfl) ((in_c _ _ _ _ hr4 _).mono ?_); rintro e W20 ⟨rfl, hD⟩; refine ⟨_, rfl, ?_, ?_⟩; exact Below.trans (by assumption) (hD.below.mono (Below.size (by assumption))); have hSn : Below w.heap.size w W20 := Below.trans (by assumption) (hD.below.mono (Below.size (by assumption))); try simp only [Act.put, aS, aZ, aC]
 cases r4; rotate_left
 refine tkH 21 31 (.bool false) rfl rfl (by kernel_rfl) hP ‹_› (by rfl) (by intro W hSW; go_simp; (try with_reducible rfl)) ?_; try simp only [Act.put, aS, aZ, aC]
 refine tkH 22 32 (.bool false) rfl rfl (by kernel_rfl) hP ‹_› (by rfl) (by intro W hSW; go_simp; (try with_reducible rfl)) ?_; try simp only [Act.put, aS, aZ, aC]
 refine tkH 23 33 (.bool false) rfl rfl (by kernel_rfl) hP ‹_› (by rfl) (by intro W hSW; go_simp; (try with_reducible rfl)) ?_; try simp only [Act.put, aS, aZ, aC]
 refine tkH 24 34 (.pointer (some ⟨g, 4, none⟩)) rfl rfl (by kernel_rfl) hP ‹_› (by rfl) (by intro W hSW; go_simp; (try with_reducible rfl)) ?_; try simp only [Act.put, aS, aZ, aC]
 refine tkH 25 35 (.agg #[.int .i64 (x 4), .int .i64 (x 5)]) rfl rfl (by kernel_rfl) hP ‹_› (by rfl) (by exact fun W hSW => zas rfl (g := g) (off := 4) rfl [.int .i64 (x 4), .int .i64 (x 5)] (seg2 (zab (F W hSW) 4) (zab (F W hSW) 5)) Try.underlying24 rfl (by kernel_rfl)) ?_; try simp only [Act.put, aS, aZ, aC]
 refine tkH 26 36 (.pointer (some ⟨g, 11, none⟩)) rfl rfl (by kernel_rfl) hP ‹_› (by rfl) (by intro W hSW; go_simp; (try with_reducible rfl)) ?_; try simp only [Act.put, aS, aZ, aC]
 refine tkH 27 37 (.agg #[.int .i64 (x 11), .int .i64 (x 12)]) rfl rfl (by kernel_rfl) hP ‹_› (by rfl) (by exact fun W hSW => zas rfl (g := g) (off := 11) rfl [.int .i64 (x 11), .int .i64 (x 12)] (seg2 (zab (F W hSW) 11) (zab (F W hSW) 12)) Try.underlying24 rfl (by kernel_rfl)) ?_; try simp only [Act.put, aS, aZ, aC]
 refine tkH 28 38 (.pointer (some ⟨g, 19, none⟩)) rfl rfl (by kernel_rfl) hP ‹_› (by rfl) (by intro W hSW; go_simp; (try with_reducible rfl)) ?_; try simp only [Act.put, aS, aZ, aC]
 refine tkH 29 39 (.agg #[.int .i64 (x 19), .int .i64 (x 20)]) rfl rfl (by kernel_rfl) hP ‹_› (by rfl) (by exact fun W hSW => zas rfl (g := g) (off := 19) rfl [.int .i64 (x 19), .int .i64 (x 20)] (seg2 (zab (F W hSW) 19) (zab (F W hSW) 20)) Try.underlying24 rfl (by kernel_rfl)) ?_; try simp only [Act.put, aS, aZ, aC]
 refine tkH 30 40 (.pointer (some ⟨g, 22, none⟩)) rfl rfl (by kernel_rfl) hP ‹_› (by rfl) (by intro W hSW; go_simp; (try with_reducible rfl)) ?_; try simp only [Act.put, aS, aZ, aC]
 refine tkH 31 41 (.pointer (some ⟨g, 22, none⟩)) rfl rfl (by kernel_rfl) hP ‹_› (by rfl) (by intro W hSW; go_simp; (try with_reducible rfl)) ?_; try simp only [Act.put, aS, aZ, aC]
 refine tkH 32 42 (.agg #[.int .i64 (x 22), .int .i64 (x 23)]) rfl rfl (by kernel_rfl) hP ‹_› (by rfl) (by exact fun W hSW => zas rfl (g := g) (off := 22) rfl [.int .i64 (x 22), .int .i64 (x 23)] (seg2 (zab (F W hSW) 22) (zab (F W hSW) 23)) Try.underlying24 rfl (by kernel_rfl)) ?_; try simp only [Act.put, aS, aZ, aC]
 refine evH 33 43 (v := .slice (some ⟨W20.heap.size, 0, none⟩) 4 4) (w1 := W20.alloc (.cells #[.int .i64 (x 4), .int .i64 (x 5), .int .i64 (x 11), .int .i64 (x 12), .int .i64 (x 19), .int .i64 (x 20), .int .i64 (x 22), .int .i64 (x 23)] 24)) rfl rfl (by kernel_rfl) (by rfl) (by first | (go_simp; done) | (go_simp; rfl)) (zaa ‹_› _) ?_; have hSa : Below w.heap.size w (W20.alloc (.cells #[.int .i64 (x 4), .int .i64 (x 5), .int .i64 (x 11), .int .i64 (x 12), .int .i64 (x 19), .int .i64 (x 20), .int .i64 (x 22), .int .i64 (x 23)] 24)) := zaa ‹_› _; try simp only [Act.put, aS, aZ, aC]
 refine zdg 34 44 rfl rfl (by kernel_rfl) (by rfl) Try.func49 (by kernel_rfl) #[.slice (some ⟨W20.heap.size, 0, none⟩) 4 4] rfl (by simp only [List.map_toArray, List.map_cons, List.map_nil]; rfl) ((pos4_c _ _ _ _ _ _ _ _ _ hr5 W20).mono ?_); rintro e W34 ⟨rfl, hD⟩; refine ⟨_, rfl, ?_, ?_⟩; exact Below.trans hSa (hD.below.mono (Below.size hSa)); have hSn : Below w.heap.size w W34 := Below.trans hSa (hD.below.mono (Below.size hSa)); try simp only [Act.put, aS, aZ, aC]
 cases r5; rotate_left
 refine tkH 35 45 (.bool false) rfl rfl (by kernel_rfl) hP ‹_› (by rfl) (by intro W hSW; go_simp; (try with_reducible rfl)) ?_; try simp only [Act.put, aS, aZ, aC]
 refine tkH 36 46 (.bool false) rfl rfl (by kernel_rfl) hP ‹_› (by rfl) (by intro W hSW; go_simp; (try with_reducible rfl)) ?_; try simp only [Act.put, aS, aZ, aC]
 ·refine wpAnyH_done (by kernel_rfl) ?_ _
  exact hQ _ _ ⟨rfl, rfl, rfl⟩ rfl ‹_›
 ·refine tkH 3 13 (.bool true) rfl rfl (by kernel_rfl) hP ‹_› (by rfl) (by intro W hSW; go_simp; (try with_reducible rfl)) ?_; try simp only [Act.put, aS, aZ, aC]
  refine tkH 4 14 (.bool true) rfl rfl (by kernel_rfl) hP ‹_› (by rfl) (by intro W hSW; go_simp; (try with_reducible rfl)) ?_; try simp only [Act.put, aS, aZ, aC]
  refine skH 5 15 rfl rfl (by kernel_rfl) hP ‹_› (by rfl) ?_; try simp only [Act.put, aS, aZ, aC]
  refine skH 6 16 rfl rfl (by kernel_rfl) hP ‹_› (by rfl) ?_; try simp only [Act.put, aS, aZ, aC]
  refine skH 7 17 rfl rfl (by kernel_rfl) hP ‹_› (by rfl) ?_; try simp only [Act.put, aS, aZ, aC]
  refine skH 8 18 rfl rfl (by kernel_rfl) hP ‹_› (by rfl) ?_; try simp only [Act.put, aS, aZ, aC]
  refine skH 9 19 rfl rfl (by kernel_rfl) hP ‹_› (by rfl) ?_; try simp only [Act.put, aS, aZ, aC]
  refine tkH 10 20 (.bool true) rfl rfl (by kernel_rfl) hP ‹_› (by rfl) (by intro W hSW; go_simp; (try with_reducible rfl)) ?_; try simp only [Act.put, aS, aZ, aC]
  refine tkH 11 21 (.bool true) rfl rfl (by kernel_rfl) hP ‹_› (by rfl) (by intro W hSW; go_simp; (try with_reducible rfl)) ?_; try simp only [Act.put, aS, aZ, aC]
  refine skH 12 22 rfl rfl (by kernel_rfl) hP ‹_› (by rfl) ?_; try simp only [Act.put, aS, aZ, aC]
  refine skH 13 23 rfl rfl (by kernel_rfl) hP ‹_› (by rfl) ?_; try simp only [Act.put, aS, aZ, aC]
  refine skH 14 24 rfl rfl (by kernel_rfl) hP ‹_› (by rfl) ?_; try simp only [Act.put, aS, aZ, aC]
  refine skH 15 25 rfl rfl (by kernel_rfl) hP ‹_› (by rfl) ?_; try simp only [Act.put, aS, aZ, aC]
  refine tkH 16 26 (.bool true) rfl rfl (by kernel_rfl) hP ‹_› (by rfl) (by intro W hSW; go_simp; (try with_reducible rfl)) ?_; try simp only [Act.put, aS, aZ, aC]
  refine tkH 17 27 (.bool true) rfl rfl (by kernel_rfl) hP ‹_› (by rfl) (by intro W hSW; go_simp; (try with_reducible rfl)) ?_; try simp only [Act.put, aS, aZ, aC]
  refine skH 18 28 rfl rfl (by kernel_rfl) hP ‹_› (by rfl) ?_; try simp only [Act.put, aS, aZ, aC]
  refine skH 19 29 rfl rfl (by kernel_rfl) hP ‹_› (by rfl) ?_; try simp only [Act.put, aS, aZ, aC]
  refine skH 20 30 rfl rfl (by kernel_rfl) hP ‹_› (by rfl) ?_; try simp only [Act.put, aS, aZ, aC]
  refine skH 21 31 rfl rfl (by kernel_rfl) hP ‹_› (by rfl) ?_; try simp only [Act.put, aS, aZ, aC]
  refine tkH 22 32 (.bool true) rfl rfl (by kernel_rfl) hP ‹_› (by rfl) (by intro W hSW; go_simp; (try with_reducible rfl)) ?_; try simp only [Act.put, aS, aZ, aC]
  refine tkH 23 33 (.bool true) rfl rfl (by kernel_rfl) hP ‹_› (by rfl) (by intro W hSW; go_simp; (try with_reducible rfl)) ?_; try simp only [Act.put, aS, aZ, aC]
  refine skH 24 34 rfl rfl (by kernel_rfl) hP ‹_› (by rfl) ?_; try simp only [Act.put, aS, aZ, aC]
  refine skH 25 35 rfl rfl (by kernel_rfl) hP ‹_› (by rfl) ?_; try simp only [Act.put, aS, aZ, aC]
  refine skH 26 36 rfl rfl (by kernel_rfl) hP ‹_› (by rfl) ?_; try simp only [Act.put, aS, aZ, aC]
  refine skH 27 37 rfl rfl (by kernel_rfl) hP ‹_› (by rfl) ?_; try simp only [Act.put, aS, aZ, aC]
  refine skH 28 38 rfl rfl (by kernel_rfl) hP ‹_› (by rfl) ?_; try simp only [Act.put, aS, aZ, aC]
  refine skH 29 39 rfl rfl (by kernel_rfl) hP ‹_› (by rfl) ?_; try simp only [Act.put, aS, aZ, aC]
  refine skH 30 40 rfl rfl (by kernel_rfl) hP ‹_› (by rfl) ?_; try simp only [Act.put, aS, aZ, aC]
  refine skH 31 41 rfl rfl (by kernel_rfl) hP ‹_› (by rfl) ?_; try simp only [Act.put, aS, aZ, aC]
  refine skH 32 42 rfl rfl (by kernel_rfl) hP ‹_› (by rfl) ?_; try simp only [Act.put, aS, aZ, aC]
  refine skH 33 43 rfl rfl (by kernel_rfl) hP ‹_› (by rfl) ?_; try simp only [Act.put, aS, aZ, aC]
  refine skH 34 44 rfl rfl (by kernel_rfl) hP ‹_› (by rfl) ?_; try simp only [Act.put, aS, aZ, aC]
  refine skH 35 45 rfl rfl (by kernel_rfl) hP ‹_› (by rfl) ?_; try simp only [Act.put, aS, aZ, aC]
  refine tkH 36 46 (.bool true) rfl rfl (by kernel_rfl) hP ‹_› (by rfl) (by intro W hSW; go_simp; (try with_reducible rfl)) ?_; try simp only [Act.put, aS, aZ, aC]
  refine wpAnyH_done (by kernel_rfl) ?_ _
  exact hQ _ _ ⟨rfl, rfl, rfl⟩ (by simp) ‹_›
 ·refine tkH 9 19 (.bool true) rfl rfl (by kernel_rfl) hP ‹_› (by rfl) (by intro W hSW; go_simp; (try with_reducible rfl)) ?_; try simp only [Act.put, aS, aZ, aC]
  refine tkH 10 20 (.bool true) rfl rfl (by kernel_rfl) hP ‹_› (by rfl) (by intro W hSW; go_simp; (try with_reducible rfl)) ?_; try simp only [Act.put, aS, aZ, aC]
  refine tkH 11 21 (.bool true) rfl rfl (by kernel_rfl) hP ‹_› (by rfl) (by intro W hSW; go_simp; (try with_reducible rfl)) ?_; try simp only [Act.put, aS, aZ, aC]
  refine skH 12 22 rfl rfl (by kernel_rfl) hP ‹_› (by rfl) ?_; try simp only [Act.put, aS, aZ, aC]
  refine skH 13 23 rfl rfl (by kernel_rfl) hP ‹_› (by rfl) ?_; try simp only [Act.put, aS, aZ, aC]
  refine skH 14 24 rfl rfl (by kernel_rfl) hP ‹_› (by rfl) ?_; try simp only [Act.put, aS, aZ, aC]
  refine skH 15 25 rfl rfl (by kernel_rfl) hP ‹_› (by rfl) ?_; try simp only [Act.put, aS, aZ, aC]
  refine tkH 16 26 (.bool true) rfl rfl (by kernel_rfl) hP ‹_› (by rfl) (by intro W hSW; go_simp; (try with_reducible rfl)) ?_; try simp only [Act.put, aS, aZ, aC]
  refine tkH 17 27 (.bool true) rfl rfl (by kernel_rfl) hP ‹_› (by rfl) (by intro W hSW; go_simp; (try with_reducible rfl)) ?_; try simp only [Act.put, aS, aZ, aC]
  refine skH 18 28 rfl rfl (by kernel_rfl) hP ‹_› (by rfl) ?_; try simp only [Act.put, aS, aZ, aC]
  refine skH 19 29 rfl rfl (by kernel_rfl) hP ‹_› (by rfl) ?_; try simp only [Act.put, aS, aZ, aC]
  refine skH 20 30 rfl rfl (by kernel_rfl) hP ‹_› (by rfl) ?_; try simp only [Act.put, aS, aZ, aC]
  refine skH 21 31 rfl rfl (by kernel_rfl) hP ‹_› (by rfl) ?_; try simp only [Act.put, aS, aZ, aC]
  refine tkH 22 32 (.bool true) rfl rfl (by kernel_rfl) hP ‹_› (by rfl) (by intro W hSW; go_simp; (try with_reducible rfl)) ?_; try simp only [Act.put, aS, aZ, aC]
  refine tkH 23 33 (.bool true) rfl rfl (by kernel_rfl) hP ‹_› (by rfl) (by intro W hSW; go_simp; (try with_reducible rfl)) ?_; try simp only [Act.put, aS, aZ, aC]
  refine skH 24 34 rfl rfl (by kernel_rfl) hP ‹_› (by rfl) ?_; try simp only [Act.put, aS, aZ, aC]
  refine skH 25 35 rfl rfl (by kernel_rfl) hP ‹_› (by rfl) ?_; try simp only [Act.put, aS, aZ, aC]
  refine skH 26 36 rfl rfl (by kernel_rfl) hP ‹_› (by rfl) ?_; try simp only [Act.put, aS, aZ, aC]
  refine skH 27 37 rfl rfl (by kernel_rfl) hP ‹_› (by rfl) ?_; try simp only [Act.put, aS, aZ, aC]
  refine skH 28 38 rfl rfl (by kernel_rfl) hP ‹_› (by rfl) ?_; try simp only [Act.put, aS, aZ, aC]
  refine skH 29 39 rfl rfl (by kernel_rfl) hP ‹_› (by rfl) ?_; try simp only [Act.put, aS, aZ, aC]
  refine skH 30 40 rfl rfl (by kernel_rfl) hP ‹_› (by rfl) ?_; try simp only [Act.put, aS, aZ, aC]
  refine skH 31 41 rfl rfl (by kernel_rfl) hP ‹_› (by rfl) ?_; try simp only [Act.put, aS, aZ, aC]
  refine skH 32 42 rfl rfl (by kernel_rfl) hP ‹_› (by rfl) ?_; try simp only [Act.put, aS, aZ, aC]
  refine skH 33 43 rfl rfl (by kernel_rfl) hP ‹_› (by rfl) ?_; try simp only [Act.put, aS, aZ, aC]
  refine skH 34 44 rfl rfl (by kernel_rfl) hP ‹_› (by rfl) ?_; try simp only [Act.put, aS, aZ, aC]
  refine skH 35 45 rfl rfl (by kernel_rfl) hP ‹_› (by rfl) ?_; try simp only [Act.put, aS, aZ, aC]
  refine tkH 36 46 (.bool true) rfl rfl (by kernel_rfl) hP ‹_› (by rfl) (by intro W hSW; go_simp; (try with_reducible rfl)) ?_; try simp only [Act.put, aS, aZ, aC]
  refine wpAnyH_done (by kernel_rfl) ?_ _
  exact hQ _ _ ⟨rfl, rfl, rfl⟩ (by simp) ‹_›
 ·refine tkH 15 25 (.bool true) rfl rfl (by kernel_rfl) hP ‹_› (by rfl) (by intro W hSW; go_simp; (try with_reducible rfl)) ?_; try simp only [Act.put, aS, aZ, aC]
  refine tkH 16 26 (.bool true) rfl rfl (by kernel_rfl) hP ‹_› (by rfl) (by intro W hSW; go_simp; (try with_reducible rfl)) ?_; try simp only [Act.put, aS, aZ, aC]
  refine tkH 17 27 (.bool true) rfl rfl (by kernel_rfl) hP ‹_› (by rfl) (by intro W hSW; go_simp; (try with_reducible rfl)) ?_; try simp only [Act.put, aS, aZ, aC]
  refine skH 18 28 rfl rfl (by kernel_rfl) hP ‹_› (by rfl) ?_; try simp only [Act.put, aS, aZ, aC]
  refine skH 19 29 rfl rfl (by kernel_rfl) hP ‹_› (by rfl) ?_; try simp only [Act.put, aS, aZ, aC]
  refine skH 20 30 rfl rfl (by kernel_rfl) hP ‹_› (by rfl) ?_; try simp only [Act.put, aS, aZ, aC]
  refine skH 21 31 rfl rfl (by kernel_rfl) hP ‹_› (by rfl) ?_; try simp only [Act.put, aS, aZ, aC]
  refine tkH 22 32 (.bool true) rfl rfl (by kernel_rfl) hP ‹_› (by rfl) (by intro W hSW; go_simp; (try with_reducible rfl)) ?_; try simp only [Act.put, aS, aZ, aC]
  refine tkH 23 33 (.bool true) rfl rfl (by kernel_rfl) hP ‹_› (by rfl) (by intro W hSW; go_simp; (try with_reducible rfl)) ?_; try simp only [Act.put, aS, aZ, aC]
  refine skH 24 34 rfl rfl (by kernel_rfl) hP ‹_› (by rfl) ?_; try simp only [Act.put, aS, aZ, aC]
  refine skH 25 35 rfl rfl (by kernel_rfl) hP ‹_› (by rfl) ?_; try simp only [Act.put, aS, aZ, aC]
  refine skH 26 36 rfl rfl (by kernel_rfl) hP ‹_› (by rfl) ?_; try simp only [Act.put, aS, aZ, aC]
  refine skH 27 37 rfl rfl (by kernel_rfl) hP ‹_› (by rfl) ?_; try simp only [Act.put, aS, aZ, aC]
  refine skH 28 38 rfl rfl (by kernel_rfl) hP ‹_› (by rfl) ?_; try simp only [Act.put, aS, aZ, aC]
  refine skH 29 39 rfl rfl (by kernel_rfl) hP ‹_› (by rfl) ?_; try simp only [Act.put, aS, aZ, aC]
  refine skH 30 40 rfl rfl (by kernel_rfl) hP ‹_› (by rfl) ?_; try simp only [Act.put, aS, aZ, aC]
  refine skH 31 41 rfl rfl (by kernel_rfl) hP ‹_› (by rfl) ?_; try simp only [Act.put, aS, aZ, aC]
  refine skH 32 42 rfl rfl (by kernel_rfl) hP ‹_› (by rfl) ?_; try simp only [Act.put, aS, aZ, aC]
  refine skH 33 43 rfl rfl (by kernel_rfl) hP ‹_› (by rfl) ?_; try simp only [Act.put, aS, aZ, aC]
  refine skH 34 44 rfl rfl (by kernel_rfl) hP ‹_› (by rfl) ?_; try simp only [Act.put, aS, aZ, aC]
  refine skH 35 45 rfl rfl (by kernel_rfl) hP ‹_› (by rfl) ?_; try simp only [Act.put, aS, aZ, aC]
  refine tkH 36 46 (.bool true) rfl rfl (by kernel_rfl) hP ‹_› (by rfl) (by intro W hSW; go_simp; (try with_reducible rfl)) ?_; try simp only [Act.put, aS, aZ, aC]
  refine wpAnyH_done (by kernel_rfl) ?_ _
  exact hQ _ _ ⟨rfl, rfl, rfl⟩ (by simp) ‹_›
 ·refine tkH 21 31 (.bool true) rfl rfl (by kernel_rfl) hP ‹_› (by rfl) (by intro W hSW; go_simp; (try with_reducible rfl)) ?_; try simp only [Act.put, aS, aZ, aC]
  refine tkH 22 32 (.bool true) rfl rfl (by kernel_rfl) hP ‹_› (by rfl) (by intro W hSW; go_simp; (try with_reducible rfl)) ?_; try simp only [Act.put, aS, aZ, aC]
  refine tkH 23 33 (.bool true) rfl rfl (by kernel_rfl) hP ‹_› (by rfl) (by intro W hSW; go_simp; (try with_reducible rfl)) ?_; try simp only [Act.put, aS, aZ, aC]
  refine skH 24 34 rfl rfl (by kernel_rfl) hP ‹_› (by rfl) ?_; try simp only [Act.put, aS, aZ, aC]
  refine skH 25 35 rfl rfl (by kernel_rfl) hP ‹_› (by rfl) ?_; try simp only [Act.put, aS, aZ, aC]
  refine skH 26 36 rfl rfl (by kernel_rfl) hP ‹_› (by rfl) ?_; try simp only [Act.put, aS, aZ, aC]
  refine skH 27 37 rfl rfl (by kernel_rfl) hP ‹_› (by rfl) ?_; try simp only [Act.put, aS, aZ, aC]
  refine skH 28 38 rfl rfl (by kernel_rfl) hP ‹_› (by rfl) ?_; try simp only [Act.put, aS, aZ, aC]
  refine skH 29 39 rfl rfl (by kernel_rfl) hP ‹_› (by rfl) ?_; try simp only [Act.put, aS, aZ, aC]
  refine skH 30 40 rfl rfl (by kernel_rfl) hP ‹_› (by rfl) ?_; try simp only [Act.put, aS, aZ, aC]
  refine skH 31 41 rfl rfl (by kernel_rfl) hP ‹_› (by rfl) ?_; try simp only [Act.put, aS, aZ, aC]
  refine skH 32 42 rfl rfl (by kernel_rfl) hP ‹_› (by rfl) ?_; try simp only [Act.put, aS, aZ, aC]
  refine skH 33 43 rfl rfl (by kernel_rfl) hP ‹_› (by rfl) ?_; try simp only [Act.put, aS, aZ, aC]
  refine skH 34 44 rfl rfl (by kernel_rfl) hP ‹_› (by rfl) ?_; try simp only [Act.put, aS, aZ, aC]
  refine skH 35 45 rfl rfl (by kernel_rfl) hP ‹_› (by rfl) ?_; try simp only [Act.put, aS, aZ, aC]
  refine tkH 36 46 (.bool true) rfl rfl (by kernel_rfl) hP ‹_› (by rfl) (by intro W hSW; go_simp; (try with_reducible rfl)) ?_; try simp only [Act.put, aS, aZ, aC]
  refine wpAnyH_done (by kernel_rfl) ?_ _
  exact hQ _ _ ⟨rfl, rfl, rfl⟩ (by simp) ‹_›
 ·refine tkH 35 45 (.bool true) rfl rfl (by kernel_rfl) hP ‹_› (by rfl) (by intro W hSW; go_simp; (try with_reducible rfl)) ?_; try simp only [Act.put, aS, aZ, aC]
  refine tkH 36 46 (.bool true) rfl rfl (by kernel_rfl) hP ‹_› (by rfl) (by intro W hSW; go_simp; (try with_reducible rfl)) ?_; try simp only [Act.put, aS, aZ, aC]
  refine wpAnyH_done (by kernel_rfl) ?_ _
  exact hQ _ _ ⟨rfl, rfl, rfl⟩ (by simp) ‹_›
end Go.Proofs.Ytcbehfbfaonanaa.Wr
end
