/- Part 2 of the texts that walk the program and tell its laws, joined in the order of their building. No conditions. -/
import Derived.Test.YtcbehfbfaonanaaJr0
import Derived.Laws.AppendOwn
import Derived.Laws.AppendOwnNone
import Derived.Laws.OwnMore
import Derived.Outline
import Derived.Deep.MidRow
import Derived.Deep.WholeRow
import Derived.Deep.RegionHeld3
/- A list of rows handed to a form: the walk of list at one kind of row (printed by genlist.py). -/
section
namespace Go.Proofs.Ytcbehfbfaonanaa.Wr
open Go.RowKit Go.Proofs.YtcbehfbfaonanaaW.PrintWords Go.Proofs.YtcbehfbfaonanaaW.PrintLast Go.Proofs.YtcbehfbfaonanaaW.PrintMore Go.Proofs.Ytcbehfbfaonanaa.Pk
set_option linter.unusedVariables false
set_option linter.unusedSimpArgs false

theorem zero_T : (Try.prog.info? 72).map (fun i => (i.zero, i.size, i.bytes)) = some (some (.agg (zeroRow epochF).toArray), (epochF).length, 24) := by kernel_rfl
theorem made_T (W : World) (N : Nat) (h : N ≤ 64) : (Instr.makeSlice 27 (.int .i64 (N : Int)) (.int .i64 (N : Int))).run Try.prog W = .ok (.slice (some ⟨W.heap.size, 0, none⟩) N N) (W.alloc (.cells (madeCells (zeroRow epochF).toArray (N * (epochF).length)) 72)) := by
  obtain ⟨i, hi, hz⟩ := Option.map_eq_some_iff.1 zero_T
  simp only [Prod.mk.injEq] at hz
  obtain ⟨h1, h2, h3⟩ := hz
  have := run_make (P := Try.prog) W 27 72 i _ Try.underlying27 hi h1 .i64 .i64 (N : Int) (N : Int) (by omega) (Int.le_refl _) (by rw [h3]; omega) (by omega)
  rw [h2, Int.toNat_natCast] at this
  exact this

set_option maxRecDepth 100000 in
set_option maxHeartbeats 4000000 in
theorem listT_c (F : Form) (hF : F.Good) (s : F.σ) (w : World) (b j g : Nat) (cs : Array Value) (T : TypeId) (A : Option Addr) (c : Nat) (rows : List (List Value)) (hI : F.Inv s w) (ho : ¬ F.own w.heap b) (hg : ¬ F.own w.heap g) (hgb : g ≠ b) (cg : w.cell? ⟨g, 0, none⟩ = some (.iface F.ty F.v))
    (hr : F.room s + (8 + rowsCost ((F.listR epochF s 64 rows).take (F.listM s 64 rows.length))) ≤ cap) (hb : w.heap[b]? = some (.cells cs T (0, 0))) (hc : cs[j]? = some (.slice A rows.length c)) (hL : ListAt w (.slice A rows.length c) (epochF).length rows)
    (hsep : ∀ k, arr (.slice A rows.length c) = some k → rows ≠ [] → k ≠ b ∧ ¬ F.own w.heap k ∧ k ≠ g) (hfit : ∀ r, r ∈ rows → fits epochF r) (hnl : rows.length ≤ 9223372036854775807) :
    Calls Try.prog 68 #[.iface F.ty F.v, .pointer (some ⟨b, j, none⟩), .int .i64 64, .func (.func 69) #[] #[.pointer (some ⟨g, 0, none⟩)]] w
      (ListDone F s w b j cs T (epochF).length (.slice A rows.length c) rows (F.list epochF s 64 rows).1 (F.list epochF s 64 rows).2 (8 + rowsCost ((F.listR epochF s 64 rows).take (F.listM s 64 rows.length)))) := by
  have hmf : ∀ (fn : Fn) (first cap : Array Value) (w : World), (Instr.makeFunc fn first cap).run Try.prog w = .ok (.func fn first cap) w := fun _ _ _ _ => rfl
  have HA := hF.ahead 3 "meridian/wire.count" (by decide) rfl
  have HM := hF.method 3 "meridian/wire.count" (by decide) rfl
  have HE := hF.enter 3 (by decide)
  obtain ⟨l0, l1⟩ := hF.count_lim s (rows.length : Int) 64 (by omega) (by omega)
  obtain ⟨N, hN⟩ := Int.eq_ofNat_of_zero_le l0
  have HCt := hF.count_c s w.drew (rows.length : Int) 64 (hF.move hI (fun _ _ => rfl) (Nat.le_refl _)) (by omega) (by omega) (by omega)
  rw [hN] at HCt
  have HC := Aside0.mk HCt
  have HL := Aside0.mk hL
  have HS := Aside0.mk hsep
  have HF := Aside0.mk hfit
  have HR := Aside0.mk hr
  have HG := Aside0.mk hF
  have HO := Aside0.mk ho
  have HOg := Aside0.mk hg
  have HB := Aside0.mk hgb
  have HCg := Aside0.mk cg
  have HH := Aside0.mk hb
  have HJ := Aside0.mk hc
  have HN := Aside0.mk (show (F.count s (rows.length : Int) ((64 : Nat) : Int)).2.toNat = N by rw [show (F.count s (rows.length : Int) ((64 : Nat) : Int)).2 = _ from hN]; rfl)
  have HNI := Aside0.mk (show (F.count s (rows.length : Int) ((64 : Nat) : Int)).2 = (N : Int) from hN)
  have cb0 : w.cell? ⟨b, j, none⟩ = some (.slice A rows.length c) := (blk_cell hb j).trans hc
  have HCb := Aside0.mk cb0
  have Hl1 := Aside0.mk (show N = rows.length ∨ N ≤ 64 by rw [hN] at l1; omega)
  have HHg := Aside0.mk (World.block_lt_of_cell? w ⟨g, 0, none⟩ cg)
  clear l0 l1 HCt hL hsep hfit hr hF ho hg hgb hb hc hI hN cg
  generalize hn : rows.length = n at *
  have HRn := Aside0.mk hn
  clear hn
  by_cases z0 : N = 0
  · subst z0
    have t1 : (decide ((n : Int) < 0)) = false := by simp
    go_enter Try.func68, Try.ntmps68
    go_wp2
    go_region_held3 (fun W => W.cell? ⟨b, j, none⟩ = some (.slice A n c)) (go_keep) (((with_reducible refine HC.out.mono ?_); rintro e w1 ⟨rfl, H⟩; have cb1 := (World.cell?_of_block (w := w) (a := ⟨b, j, none⟩) (H.undrew.wrote.far (blk_lt HH.out) HO.out (fun _ hp => nomatch hp))).trans HCb.out; have A1 := Aside0.mk (show Stepped F s (F.count s (n : Int) ((64 : Nat) : Int)).1 [] 8 w w1 from H.undrew); clear H))
    go_wp2
    go_loopw [9] (fun i wr => i = .int .i64 0 ∧ wr = w1) (fun i _ => 0)
    case atStart => exact ⟨rfl, rfl⟩
    case round =>
      obtain ⟨rfl, rfl⟩ := hrel
      go_wp2
      go_end0
      have hnr := HRn.out
      subst hnr
      exact ListDone.none_ (most := 64) HH.out HJ.out HO.out HL.out (fun k h1 h2 => ⟨(HS.out k h1 h2).1, (HS.out k h1 h2).2.1⟩) A1.out HNI.out
  by_cases z1 : N ≤ n
  · have h0 : rows ≠ [] := fun e => by have := HRn.out; rw [e] at this; simp at this; omega
    obtain ⟨a', c', e, hL2, _⟩ := HL.out
    obtain ⟨rb, off, csr, Tr, rfl, hbr, hRI⟩ := hL2 h0
    injection e with e1 e2 e3
    subst e1
    have HSp := Aside0.mk (HS.out rb rfl h0)
    have Hbr := Aside0.mk hbr
    have Hcs := Aside0.mk hRI
    have H0 := Aside0.mk h0
    clear hL2 h0 e2 e3 hRI hbr
    have t1 : (decide (n < N)) = false := by simp; omega
    have e2 := Aside0.mk (show F.listR epochF s 64 rows = rows by unfold Form.listR; rw [HRn.out, HN.out, if_neg (by omega)])
    have e3 := Aside0.mk (show F.listM s 64 n = min N 64 by unfold Form.listM; rw [HN.out])
    have hm : min N 64 ≤ rows.length := by rw [HRn.out]; omega
    have HM1 := Aside0.mk hm
    clear hm
    have HRo := Aside0.mk (show F.room s + (8 + rowsCost (rows.take (min N 64))) ≤ cap by have := HR.out; rw [e2.out, e3.out] at this; exact this)
    go_enter Try.func68, Try.ntmps68
    go_wp2
    go_region_held3 (fun W => W.cell? ⟨b, j, none⟩ = some (.slice (some ⟨rb, off, none⟩) n c)) (go_keep) (((with_reducible refine HC.out.mono ?_); rintro e w1 ⟨rfl, H⟩; have cb1 := (World.cell?_of_block (w := w) (a := ⟨b, j, none⟩) (H.undrew.wrote.far (blk_lt HH.out) HO.out (fun _ hp => nomatch hp))).trans HCb.out; have A1 := Aside0.mk (show Stepped F s (F.count s (n : Int) ((64 : Nat) : Int)).1 [] 8 w w1 from H.undrew); clear H))
    have HP0 := Aside0.mk (LoopP.start (fs := epochF) (R := rows) (off := off) (min N 64) A1.out.inv (fun h => HSp.out.2.1 (A1.out.own rb (blk_lt Hbr.out) h)) ((A1.out.wrote.far (blk_lt Hbr.out) HSp.out.2.1 (fun _ hp => nomatch hp)).trans Hbr.out) Hcs.out)
    have HCg1 := Aside0.mk ((World.cell?_of_block (w := w) (a := ⟨g, 0, none⟩) (A1.out.wrote.far HHg.out HOg.out (fun _ hp => nomatch hp))).trans HCg.out)
    have HCb1 := Aside0.mk cb1
    have HOg1 := Aside0.mk (fun h => HOg.out (A1.out.own g HHg.out h))
    have HOb1 := Aside0.mk (fun h => HO.out (A1.out.own b (blk_lt HH.out) h))
    go_wp2
    go_loopw [9] (fun i wr => ∃ k : Nat, i = .int .i64 k ∧ k ≤ min N 64 ∧ Aside0 (LoopP F epochF (F.count s (n : Int) ((64 : Nat) : Int)).1 w1 rb Tr off rows (min N 64) k wr)) (fun i _ => N - (intOf i).toNat)
    case atStart => exact ⟨0, rfl, by omega, HP0⟩
    case round =>
      clear HP0
      obtain ⟨k, rfl, hk, HP⟩ := hrel
      have hcb : wr.cell? ⟨b, j, none⟩ = some (.slice (some ⟨rb, off, none⟩) n c) := by
        obtain ⟨sk, D, l, cc, cs', _, _, _, hAt, _⟩ := HP.out
        exact hAt.cell HCb1.out HOb1.out (Ne.symm HSp.out.1)
      by_cases hlt : k < min N 64
      · have i0 : (0 : Int) ≤ (k : Int) := by omega
        have i1 : (k : Int) < (n : Int) := by omega
        have i2 : (k : Int) < (N : Int) := by omega
        have i3 : (k : Int) < 64 := by omega
        have HCs : Aside0 (Calls Try.prog 69 #[.pointer (some ⟨rb, off + k * 3, none⟩), .pointer (some ⟨g, 0, none⟩)] wr _) := Aside0.mk (HP.out.step HG.out (by decide) hlt HM1.out HF.out epoch_c HOg1.out (fun e => (HSp.out.2.2 e.symm)) HCg1.out (by have := HRo.out; have := A1.out.room; omega))
        go_wp2_with (go_at_call 69; (with_reducible refine HCs.out.mono ?_); rintro e w2 ⟨rfl, H⟩; have HP2 := Aside0.mk H; clear H)
        go_roundw
        case rel => exact ⟨k + 1, by go_num, by omega, HP2⟩
        case measure => simp [intOf]; omega
      · have hkm : k = min N 64 := by omega
        have hend : LoopP F epochF (F.count s (n : Int) ((64 : Nat) : Int)).1 w1 rb Tr off rows (min N 64) (min N 64) wr := hkm ▸ HP.out
        have HEnd := Aside0.mk hend
        clear hend
        by_cases hlt2 : k < N
        · have i2 : (k : Int) < (N : Int) := by omega
          have i3 : ¬ (k : Int) < 64 := by omega
          go_wp2
          go_end0
          have hnr := HRn.out
          subst hnr
          exact ListDone.old (most := 64) HH.out HJ.out HO.out H0.out HSp.out.1 HSp.out.2.1 rfl (blk_lt Hbr.out) A1.out (by rw [HN.out]; exact z1) (by rw [e3.out]; exact HEnd.out)
        · have i2 : ¬ (k : Int) < (N : Int) := by omega
          go_wp2
          go_end0
          have hnr := HRn.out
          subst hnr
          exact ListDone.old (most := 64) HH.out HJ.out HO.out H0.out HSp.out.1 HSp.out.2.1 rfl (blk_lt Hbr.out) A1.out (by rw [HN.out]; exact z1) (by rw [e3.out]; exact HEnd.out)
  · have hlt : n < N := by omega
    have t1 : (decide ((n : Int) < (N : Int))) = true := by simp; omega
    have hNM : N ≤ 64 := by have := Hl1.out; omega
    have e2 := Aside0.mk (show F.listR epochF s 64 rows = List.replicate N (zeroRow epochF) by unfold Form.listR; rw [HRn.out, HN.out, if_pos hlt])
    have e3 := Aside0.mk (show F.listM s 64 n = N by unfold Form.listM; rw [HN.out]; omega)
    have HRo := Aside0.mk (show F.room s + (8 + rowsCost ((List.replicate N (zeroRow epochF)).take N)) ≤ cap by have := HR.out; rw [e2.out, e3.out] at this; exact this)
    have HMK := fun W => made_T W N (by omega)
    have HBl := Aside0.mk (blk_lt HH.out)
    go_enter Try.func68, Try.ntmps68
    go_wp2
    go_region_held3 (fun W => W.cell? ⟨b, j, none⟩ = some (.slice A n c)) (go_keep) (((with_reducible refine HC.out.mono ?_); rintro e w1 ⟨rfl, H⟩; have hbw1 := (H.undrew.wrote.far (blk_lt HH.out) HO.out (fun _ hp => nomatch hp)).trans HH.out; have cb1 := (World.cell?_of_block (w := w) (a := ⟨b, j, none⟩) (H.undrew.wrote.far (blk_lt HH.out) HO.out (fun _ hp => nomatch hp))).trans HCb.out; have A1 := Aside0.mk (show Stepped F s (F.count s (n : Int) ((64 : Nat) : Int)).1 [] 8 w w1 from H.undrew); clear H))
    have hb1 : b < w1.heap.size := Nat.lt_of_lt_of_le HBl.out A1.out.wrote.size
    have fb1 := blk_frozen hbw1 j
    have Hbw := Aside0.mk hbw1
    clear hbw1
    have HCg1 := Aside0.mk ((World.cell?_of_block (w := w) (a := ⟨g, 0, none⟩) (A1.out.wrote.far HHg.out HOg.out (fun _ hp => nomatch hp))).trans HCg.out)
    have HOg1 := Aside0.mk (fun h => HOg.out (A1.out.own g HHg.out h))
    have HOb1 := Aside0.mk (fun h => HO.out (A1.out.own b (blk_lt HH.out) h))
    go_wp2
    have HOM := Aside0.mk (HG.out.own_move (w' := ((w1.setCell ⟨b, j, none⟩ (.slice (some ⟨w1.heap.size, 0, none⟩) N N)).alloc (.cells (madeCells (zeroRow epochF).toArray (N * (epochF).length)) 72))) A1.out.inv (fun k hk => (Below.heap_alloc _ _ k (by rw [World.size_setCell]; exact HG.out.lt A1.out.inv hk)).trans (Below.heap_setCell _ _ _ _ (fun e => HOb1.out (by have e' : k = b := e; rw [← e']; exact hk)))))
    have HP0 := Aside0.mk (LoopP.start (F := F) (fs := epochF) (s1 := (F.count s (n : Int) ((64 : Nat) : Int)).1) (wL := (w1.setCell ⟨b, j, none⟩ (.slice (some ⟨w1.heap.size, 0, none⟩) N N)).alloc (.cells (madeCells (zeroRow epochF).toArray (N * (epochF).length)) 72)) (rb := w1.heap.size) (T := 72) (R := List.replicate N (zeroRow epochF)) (off := 0) N (HG.out.move A1.out.inv (fun k hk => (Below.heap_alloc _ _ k (by rw [World.size_setCell]; exact HG.out.lt A1.out.inv hk)).trans (Below.heap_setCell _ _ _ _ (fun e => HOb1.out (by have e' : k = b := e; rw [← e']; exact hk)))) (by rw [World.size_alloc, World.size_setCell]; omega)) (fun h => absurd (HG.out.lt A1.out.inv (HOM.out _ h)) (Nat.lt_irrefl _)) (by have := alloc_new (w1.setCell ⟨b, j, none⟩ (.slice (some ⟨w1.heap.size, 0, none⟩) N N)) (.cells (madeCells (zeroRow epochF).toArray (N * (epochF).length)) 72); rw [World.size_setCell] at this; exact this) (madeRows _ rfl N))
    have HCgL := Aside0.mk (show ((w1.setCell ⟨b, j, none⟩ (.slice (some ⟨w1.heap.size, 0, none⟩) N N)).alloc (.cells (madeCells (zeroRow epochF).toArray (N * (epochF).length)) 72)).cell? ⟨g, 0, none⟩ = some (.iface F.ty F.v) by
      rw [World.cell?_alloc_past _ _ _ (by rw [World.size_setCell]; exact Nat.lt_of_lt_of_le HHg.out A1.out.wrote.size), World.cell?_setCell_other _ _ _ _ (by simp; intro e; exact absurd e.symm HB.out)]
      exact HCg1.out)
    have HCbL := Aside0.mk (show ((w1.setCell ⟨b, j, none⟩ (.slice (some ⟨w1.heap.size, 0, none⟩) N N)).alloc (.cells (madeCells (zeroRow epochF).toArray (N * (epochF).length)) 72)).cell? ⟨b, j, none⟩ = some (.slice (some ⟨w1.heap.size, 0, none⟩) N N) by
      rw [World.cell?_alloc_past _ _ _ (by rw [World.size_setCell]; exact hb1)]
      exact World.cell?_setCell_same _ _ _ cb1)
    have Hne := Aside0.mk (show g ≠ w1.heap.size from fun e => by have := HHg.out; have := A1.out.wrote.size; omega)
    have Hnb := Aside0.mk (show b ≠ w1.heap.size from fun e => by omega)
    generalize hWL : (w1.setCell ⟨b, j, none⟩ (.slice (some ⟨w1.heap.size, 0, none⟩) N N)).alloc (.cells (madeCells (zeroRow epochF).toArray (N * (epochF).length)) 72) = wL at *
    have HWL := Aside0.mk hWL
    clear hWL HMK cb1 fb1 cb0
    generalize hrb : w1.heap.size = rb at *
    go_loopw [9] (fun i wr => ∃ k : Nat, i = .int .i64 k ∧ k ≤ N ∧ Aside0 (LoopP F epochF (F.count s (n : Int) ((64 : Nat) : Int)).1 wL rb 72 0 (List.replicate N (zeroRow epochF)) N k wr)) (fun i _ => N - (intOf i).toNat)
    case atStart => exact ⟨0, rfl, by omega, HP0⟩
    case round =>
      clear HP0
      obtain ⟨k, rfl, hk, HP⟩ := hrel
      have hcb : wr.cell? ⟨b, j, none⟩ = some (.slice (some ⟨rb, 0, none⟩) N N) := by
        obtain ⟨sk, D, l, cc, cs', _, _, _, hAt, _⟩ := HP.out
        exact hAt.cell HCbL.out (fun h => HOb1.out (HOM.out _ h)) Hnb.out
      by_cases hlt2 : k < N
      · have i0 : (0 : Int) ≤ (k : Int) := by omega
        have i2 : (k : Int) < (N : Int) := by omega
        have i3 : (k : Int) < 64 := by omega
        have HCs : Aside0 (Calls Try.prog 69 #[.pointer (some ⟨rb, k * 3, none⟩), .pointer (some ⟨g, 0, none⟩)] wr _) := Aside0.mk (by
          have := (HP.out.step HG.out (by decide) hlt2 (by simp) (fun r hr => by rw [(List.mem_replicate.1 hr).2]; exact fits_zero _) epoch_c (fun h => HOg1.out (HOM.out _ h)) Hne.out HCgL.out (by have := HRo.out; have := A1.out.room; omega))
          rw [Nat.zero_add] at this
          exact this)
        go_wp2_with (go_at_call 69; (with_reducible refine HCs.out.mono ?_); rintro e w2 ⟨rfl, H⟩; have HP2 := Aside0.mk H; clear H)
        go_roundw
        case rel => exact ⟨k + 1, by go_num, by omega, HP2⟩
        case measure => simp [intOf]; omega
      · have hkm : k = N := by omega
        have hend : LoopP F epochF (F.count s (n : Int) ((64 : Nat) : Int)).1 wL rb 72 0 (List.replicate N (zeroRow epochF)) N N wr := by subst hkm; exact HP.out
        have HEnd := Aside0.mk hend
        clear hend
        have i2 : ¬ (k : Int) < (N : Int) := by omega
        go_wp2
        go_end0
        have hnr := HRn.out
        have hw := HWL.out
        subst hnr
        subst hrb
        refine ListDone.new_ (most := 64) (Z := (zeroRow epochF).toArray) (Tr := 72) HG.out HH.out HO.out A1.out HN.out hlt hNM ?_
        first | (rw [hw]; exact HEnd.out) | (subst hw; exact HEnd.out)
end Go.Proofs.Ytcbehfbfaonanaa.Wr
end

/- A whole message handed to a form: what lies in memory, and what one step of its walk comes to. -/
section
namespace Go.Proofs.Ytcbehfbfaonanaa.Wr
open Go.RowKit Go.Proofs.YtcbehfbfaonanaaW.PrintWords Go.Proofs.YtcbehfbfaonanaaW.PrintLast Go.Proofs.YtcbehfbfaonanaaW.PrintMore Go.Proofs.Ytcbehfbfaonanaa.Pk
set_option linter.unusedVariables false
set_option linter.unusedSimpArgs false

/-- A message: its cells, its lists (by the cell that holds each). -/
structure M where
  c : Nat → Value
  L : Nat → List (List Value)
def scalar (i : Nat) : Bool := decide (i < 26) && !(i == 3 || i == 8 || i == 9 || i == 10)
def kindOf (i : Nat) : Fld := if i = 13 ∨ i = 17 ∨ i = 24 then .flag else if i = 16 ∨ i = 18 ∨ i = 25 then .text 0 else .num 0 0
def Fld.like : Fld → Fld → Bool
  | .num _ _, .num _ _ => true
  | .flag, .flag => true
  | .text _, .text _ => true
  | _, _ => false
theorem Fld.like_fits {f g : Fld} {v : Value} (h : f.like g = true) (k : f.fits v) : g.fits v := by
  cases f <;> cases g <;> first | exact k | exact Bool.noConfusion h
def okRow : Nat → List Fld → Bool
  | _, [] => true
  | i, f :: fs => scalar i && (f.like (kindOf i) && (kindOf i).like f) && okRow (i + 1) fs
def valsAt (c : Nat → Value) : Nat → Nat → List Value
  | _, 0 => []
  | i, n + 1 => c i :: valsAt c (i + 1) n
def putAt (c : Nat → Value) (i : Nat) (vs : List Value) : Nat → Value := fun k => if i ≤ k then (vs[k - i]?).getD (c k) else c k
def upL (L : Nat → List (List Value)) (j : Nat) (r : List (List Value)) : Nat → List (List Value) := fun k => if k = j then r else L k
def Form.rowM (F : Form) (s : F.σ) (m : M) (i : Nat) (fs : List Fld) : F.σ × M :=
  ((F.row s fs (valsAt m.c i fs.length)).1, { m with c := putAt m.c i (F.row s fs (valsAt m.c i fs.length)).2 })
def Form.lstM (F : Form) (s : F.σ) (m : M) (j : Nat) (fs : List Fld) (most : Nat) : F.σ × M :=
  ((F.list fs s most (m.L j)).1, { m with L := upL m.L j (F.list fs s most (m.L j)).2 })
def lists : List (Nat × List Fld) := [(3, entryF), (8, pairF), (9, seenF), (10, epochF)]
theorem valsAt_length (c : Nat → Value) : ∀ (n i : Nat), (valsAt c i n).length = n
  | 0, _ => rfl
  | n + 1, i => by simp only [valsAt, List.length_cons, valsAt_length c n]
theorem valsAt_get (c : Nat → Value) : ∀ (n i k : Nat) (v : Value), (valsAt c i n)[k]? = some v → v = c (i + k)
  | 0, i, k, v, h => by simp [valsAt] at h
  | n + 1, i, 0, v, h => by simp only [valsAt, List.getElem?_cons_zero, Option.some.injEq] at h; exact h.symm
  | n + 1, i, k + 1, v, h => by
    simp only [valsAt, List.getElem?_cons_succ] at h
    rw [valsAt_get c n (i + 1) k v h, show i + 1 + k = i + (k + 1) by omega]
theorem okRow_scalar : ∀ {fs : List Fld} {i : Nat}, okRow i fs = true → ∀ k, k < fs.length → scalar (i + k) = true
  | [], i, _, k, hk => by simp at hk
  | f :: fs, i, h, 0, _ => by simp only [okRow, Bool.and_eq_true] at h; exact h.1.1
  | f :: fs, i, h, k + 1, hk => by
    simp only [okRow, Bool.and_eq_true] at h
    rw [show i + (k + 1) = i + 1 + k by omega]
    exact okRow_scalar h.2 k (by simpa using hk)
theorem okRow_fits : ∀ {fs : List Fld} {i : Nat} {c : Nat → Value}, okRow i fs = true → (∀ k, scalar k = true → (kindOf k).fits (c k)) → fits fs (valsAt c i fs.length)
  | [], i, c, _, _ => trivial
  | f :: fs, i, c, h, hc => by
    simp only [okRow, Bool.and_eq_true] at h
    exact ⟨Fld.like_fits h.1.2.2 (hc i h.1.1), okRow_fits h.2 hc⟩
theorem okRow_back : ∀ {fs : List Fld} {i : Nat} {vs : List Value}, okRow i fs = true → fits fs vs → ∀ k v, vs[k]? = some v → (kindOf (i + k)).fits v
  | [], i, [], _, _, k, v, hv => by simp at hv
  | [], i, _ :: _, _, hf, k, v, hv => hf.elim
  | _ :: _, i, [], _, hf, k, v, hv => hf.elim
  | f :: fs, i, u :: vs, h, hf, 0, v, hv => by
    simp only [okRow, Bool.and_eq_true] at h
    simp only [List.getElem?_cons_zero, Option.some.injEq] at hv
    subst hv
    exact Fld.like_fits h.1.2.1 hf.1
  | f :: fs, i, u :: vs, h, hf, k + 1, v, hv => by
    simp only [okRow, Bool.and_eq_true] at h
    rw [List.getElem?_cons_succ] at hv
    rw [show i + (k + 1) = i + 1 + k by omega]
    exact okRow_back h.2 hf.2 k v hv
theorem lists_noscalar {j : Nat} {fs : List Fld} (h : (j, fs) ∈ lists) : scalar j = false ∧ j < 26 := by
  simp only [lists, List.mem_cons, Prod.mk.injEq, List.not_mem_nil, or_false] at h
  rcases h with ⟨rfl, _⟩ | ⟨rfl, _⟩ | ⟨rfl, _⟩ | ⟨rfl, _⟩ <;> exact ⟨rfl, by omega⟩
theorem lists_one {j : Nat} {fs gs : List Fld} (h : (j, fs) ∈ lists) (k : (j, gs) ∈ lists) : fs = gs := by
  simp only [lists, List.mem_cons, Prod.mk.injEq, List.not_mem_nil, or_false] at h k
  rcases h with ⟨rfl, rfl⟩ | ⟨rfl, rfl⟩ | ⟨rfl, rfl⟩ | ⟨rfl, rfl⟩ <;> rcases k with ⟨k, rfl⟩ | ⟨k, rfl⟩ | ⟨k, rfl⟩ | ⟨k, rfl⟩ <;> first | rfl | omega

/-- Where a walk over the message in block b stands. -/
structure MAt (F : Form) (s0 : F.σ) (w0 : World) (b : Nat) (A : Nat → Prop) (s : F.σ) (c : Nat) (m : M) (w : World) : Prop where
  inv : F.Inv s w
  own : ∀ k, k < w0.heap.size → F.own w.heap k → F.own w0.heap k
  room : F.room s ≤ F.room s0 + c
  no : ¬ F.own w.heap b
  only : Only (fun k => F.own w0.heap k ∨ k = b ∨ A k) w0 w
  typed : ∀ i, scalar i = true → (kindOf i).fits (m.c i)
  blk : ∃ cs : Array Value, cs.size = 26 ∧ w.heap[b]? = some (.cells cs 35 (0, 0)) ∧ (∀ i, scalar i = true → cs[i]? = some (m.c i)) ∧
    ∀ j fs, (j, fs) ∈ lists → ((∀ r, r ∈ m.L j → fits fs r) ∧ (m.L j).length ≤ 9223372036854775807) ∧ ∃ sv, cs[j]? = some sv ∧ ListAt w sv fs.length (m.L j) ∧
      ∀ k, arr sv = some k → m.L j ≠ [] → k ≠ b ∧ ¬ F.own w.heap k ∧ (A k ∨ w0.heap.size ≤ k) ∧ ∀ j' fs' sv', (j', fs') ∈ lists → j' ≠ j → cs[j']? = some sv' → m.L j' ≠ [] → arr sv' ≠ some k
def MOn (F : Form) (s0 : F.σ) (w0 : World) (b : Nat) (A : Nat → Prop) (s : F.σ) (c : Nat) (m : M) (e : Ending) (w : World) : Prop :=
  e = .returned (.tuple #[]) ∧ MAt F s0 w0 b A s c m w
variable {F : Form} {s0 s : F.σ} {w0 w : World} {b : Nat} {A : Nat → Prop} {c : Nat} {m : M}
theorem MAt.drew (hF : F.Good) (h : MAt F s0 w0 b A s c m w) : MAt F s0 w0 b A s c m w.drew := by
  obtain ⟨cs, h1, h2, h3, h4⟩ := h.blk
  exact ⟨hF.move h.inv (fun _ _ => rfl) (Nat.le_refl _), h.own, h.room, h.no, h.only.drew, h.typed, cs, h1, h2, h3, fun j fs hj => by
    obtain ⟨hf, sv, g1, g2, g3⟩ := h4 j fs hj
    exact ⟨hf, sv, g1, g2.move (fun _ _ _ => rfl), g3⟩⟩
theorem ListAt.lt {w : World} {sv : Value} {st : Nat} {rows : List (List Value)} (h : ListAt w sv st rows) {k : Nat} (hk : arr sv = some k) (h0 : rows ≠ []) : k < w.heap.size := by
  obtain ⟨a, c, rfl, h, _⟩ := h
  obtain ⟨rb, off, cs, T, rfl, hb, _⟩ := h h0
  cases hk
  exact blk_lt hb

/-- A row of fields was handed over. -/
theorem MAt.rowDid (h : MAt F s0 w0 b A s c m w) {i : Nat} {fs : List Fld} (hi : okRow i fs = true) {d : Nat} {w1 : World} (k : Stepped F s (F.row s fs (valsAt m.c i fs.length)).1 (cellsAt b i (F.row s fs (valsAt m.c i fs.length)).2) d w w1) :
    MAt F s0 w0 b A (F.rowM s m i fs).1 (c + d) (F.rowM s m i fs).2 w1 := by
  obtain ⟨cs, h1, h2, h3, h4⟩ := h.blk
  have hbl := blk_lt h2
  have hfit := okRow_fits hi h.typed
  have hfr := fits_row F s hfit
  have hlr := fits_length hfr
  have hb1 : w1.heap[b]? = some (.cells (into b cs (cellsAt b i (F.row s fs (valsAt m.c i fs.length)).2)) 35 (0, 0)) :=
    (k.wrote.block b hbl h.no).trans (setAll_into _ (fun p hp => (cellsAt_spot p hp).2) h2)
  have hsz : fs ≠ [] → i + (F.row s fs (valsAt m.c i fs.length)).2.length ≤ cs.size := fun h0 => by
    have hl : 0 < fs.length := List.length_pos_iff.2 h0
    have := okRow_scalar hi (fs.length - 1) (by omega)
    unfold scalar at this
    simp only [Bool.and_eq_true, decide_eq_true_eq] at this
    omega
  have hput : ∀ q, (into b cs (cellsAt b i (F.row s fs (valsAt m.c i fs.length)).2))[q]? = if i ≤ q ∧ q < i + (F.row s fs (valsAt m.c i fs.length)).2.length then (F.row s fs (valsAt m.c i fs.length)).2[q - i]? else cs[q]? := by
    intro q
    split
    · rename_i hq
      have h0 : fs ≠ [] := fun e => by have h9 : fs.length = 0 := List.length_eq_zero_iff.2 e; omega
      have hv := List.getElem?_eq_getElem (l := (F.row s fs (valsAt m.c i fs.length)).2) (i := q - i) (by omega)
      have := into_at (b := b) (i := i) (cs := cs) hv (hsz h0)
      rw [show i + (q - i) = q by omega] at this
      rw [this, hv]
    · rename_i hq
      exact into_far (by omega)
  have hfar : ∀ q, q < w.heap.size → ¬ F.own w.heap q → q ≠ b → w1.heap[q]? = w.heap[q]? := fun q hq ho hqb => k.wrote.far hq ho (fun p hp => by rw [(cellsAt_spot p hp).1]; exact hqb.symm)
  refine ⟨k.inv, fun q hq ho => h.own q hq (k.own q (Nat.lt_of_lt_of_le hq h.only.size) ho), by have := h.room; have := k.room; simp only [Form.rowM]; omega, fun ho => h.no (k.own b hbl ho), ?_, ?_, ?_⟩
  · refine h.only.trans (k.wrote.only (S' := fun q => F.own w.heap q ∨ q = b) (fun q _ hq => .inl hq) (fun p hp => .inr (cellsAt_spot p hp).1)) ?_
    intro q hq hs
    rcases hs with hs | hs
    · exact .inl (h.own q hq hs)
    · exact .inr (.inl hs)
  · intro q hq
    simp only [Form.rowM, putAt]
    split
    · rename_i hiq
      cases hv : (F.row s fs (valsAt m.c i fs.length)).2[q - i]? with
      | none => exact h.typed q hq
      | some v =>
        have := okRow_back hi hfr (q - i) v hv
        rw [show i + (q - i) = q by omega] at this
        exact this
    · exact h.typed q hq
  · refine ⟨_, by rw [size_into]; exact h1, hb1, ?_, ?_⟩
    · intro q hq
      rw [hput q]
      simp only [Form.rowM, putAt]
      split
      · rename_i hq'
        rw [if_pos hq'.1]
        have hv := List.getElem?_eq_getElem (l := (F.row s fs (valsAt m.c i fs.length)).2) (i := q - i) (by omega)
        rw [hv]; rfl
      · rename_i hq'
        rw [h3 q hq]
        split
        · rename_i hiq
          rw [List.getElem?_eq_none (by omega)]; rfl
        · rfl
    · intro j gs hj
      obtain ⟨hf, sv, g1, g2, g3⟩ := h4 j gs hj
      have hjn : ∀ {j' : Nat} {gs' : List Fld}, (j', gs') ∈ lists → (into b cs (cellsAt b i (F.row s fs (valsAt m.c i fs.length)).2))[j']? = cs[j']? := fun {j' gs'} hj' => by
        rw [hput j', if_neg]
        intro hq'
        have := okRow_scalar hi (j' - i) (by omega)
        rw [show i + (j' - i) = j' by omega, (lists_noscalar hj').1] at this
        exact Bool.noConfusion this
      refine ⟨hf, sv, (hjn hj).trans g1, g2.move (fun q hq h0 => hfar q (g2.lt hq h0) (g3 q hq h0).2.1 (g3 q hq h0).1), fun q hq h0 => ?_⟩
      obtain ⟨e1, e2, e3, e4⟩ := g3 q hq h0
      exact ⟨e1, fun ho => e2 (k.own q (g2.lt hq h0) ho), e3, fun j' fs' sv' hj' hne hsv' => e4 j' fs' sv' hj' hne ((hjn hj').symm.trans hsv')⟩

/-- The contract of list at one kind of row. -/
def ListC (k kc : FuncId) (fs : List Fld) (most : Nat) (mi : Int) : Prop :=
  ∀ (F : Form) (_ : F.Good) (s : F.σ) (w : World) (b j g : Nat) (cs : Array Value) (T : TypeId) (A : Option Addr) (c : Nat) (rows : List (List Value)) (_ : F.Inv s w) (_ : ¬ F.own w.heap b) (_ : ¬ F.own w.heap g) (_ : g ≠ b) (_ : w.cell? ⟨g, 0, none⟩ = some (.iface F.ty F.v))
    (_ : F.room s + (8 + rowsCost ((F.listR fs s most rows).take (F.listM s most rows.length))) ≤ cap) (_ : w.heap[b]? = some (.cells cs T (0, 0))) (_ : cs[j]? = some (.slice A rows.length c)) (_ : ListAt w (.slice A rows.length c) fs.length rows)
    (_ : ∀ k, arr (.slice A rows.length c) = some k → rows ≠ [] → k ≠ b ∧ ¬ F.own w.heap k ∧ k ≠ g) (_ : ∀ r, r ∈ rows → fits fs r) (_ : rows.length ≤ 9223372036854775807),
    Calls Try.prog k #[.iface F.ty F.v, .pointer (some ⟨b, j, none⟩), .int .i64 mi, .func (.func kc) #[] #[.pointer (some ⟨g, 0, none⟩)]] w
      (ListDone F s w b j cs T fs.length (.slice A rows.length c) rows (F.list fs s most rows).1 (F.list fs s most rows).2 (8 + rowsCost ((F.listR fs s most rows).take (F.listM s most rows.length))))
def Form.lstCost (F : Form) (s : F.σ) (m : M) (j : Nat) (fs : List Fld) (most : Nat) : Nat := 8 + rowsCost ((F.listR fs s most (m.L j)).take (F.listM s most (m.L j).length))
theorem list_fits (hF : F.Good) {fs : List Fld} {most : Nat} {rows : List (List Value)} (hm : most ≤ 64) (h : ∀ r, r ∈ rows → fits fs r) (hl : rows.length ≤ 9223372036854775807) :
    (∀ r, r ∈ (F.list fs s most rows).2 → fits fs r) ∧ (F.list fs s most rows).2.length ≤ 9223372036854775807 := by
  have hR : ∀ r, r ∈ F.listR fs s most rows → fits fs r := fun r hr => by
    unfold Form.listR at hr
    split at hr
    · rw [(List.mem_replicate.1 hr).2]; exact fits_zero _
    · exact h r hr
  refine ⟨fun r hr => ?_, ?_⟩
  · unfold Form.list at hr
    rcases List.mem_append.1 hr with hr | hr
    · exact rows_fits F fs _ _ (fun q hq => hR q (List.mem_of_mem_take hq)) r hr
    · exact hR r (List.mem_of_mem_drop hr)
  · have e : (F.list fs s most rows).2.length = (F.listR fs s most rows).length := by
      unfold Form.list
      rw [List.length_append, rows_length, List.length_take, List.length_drop]
      have : F.listM s most rows.length ≤ (F.listR fs s most rows).length := by
        unfold Form.listM Form.listR
        split
        · simp; omega
        · omega
      omega
    rw [e]
    unfold Form.listR
    split
    · obtain ⟨l0, l1⟩ := hF.count_lim s (rows.length : Int) (most : Int) (by omega) (by omega)
      simp only [List.length_replicate]
      omega
    · exact hl
/-- A list was handed over. -/
theorem MAt.lst (h : MAt F s0 w0 b A s c m w) (hF : F.Good) {k kc : FuncId} {j : Nat} {fs : List Fld} {most : Nat} {mi : Int} (hC : ListC k kc fs most mi) (hm : most ≤ 64) (hj : (j, fs) ∈ lists) {g : Nat} (hg : ¬ F.own w0.heap g) (hgb : g ≠ b) (hgA : ¬ A g) (cg : w0.cell? ⟨g, 0, none⟩ = some (.iface F.ty F.v))
    (hr : F.room s0 + c + F.lstCost s m j fs most ≤ cap) :
    Calls Try.prog k #[.iface F.ty F.v, .pointer (some ⟨b, j, none⟩), .int .i64 mi, .func (.func kc) #[] #[.pointer (some ⟨g, 0, none⟩)]] w (MOn F s0 w0 b A (F.lstM s m j fs most).1 (c + F.lstCost s m j fs most) (F.lstM s m j fs most).2) := by
  have hgl := World.block_lt_of_cell? w0 ⟨g, 0, none⟩ cg
  have cg' : w.cell? ⟨g, 0, none⟩ = some (.iface F.ty F.v) := h.only.cell cg (by
    rintro (hs | hs | hs)
    · exact hg hs
    · exact hgb hs
    · exact hgA hs)
  obtain ⟨cs, h1, h2, h3, h4⟩ := h.blk
  obtain ⟨⟨hf, hl⟩, sv, g1, g2, g3⟩ := h4 j fs hj
  have g2' := g2
  obtain ⟨a, cc, rfl, _⟩ := g2'
  have hbl := blk_lt h2
  refine (hC F hF s w b j g cs _ a cc (m.L j) h.inv h.no (fun ho => hg (h.own g hgl ho)) hgb cg' (by have := h.room; unfold Form.lstCost at hr; omega) h2 g1 g2 (fun q hq h0 => ⟨(g3 q hq h0).1, (g3 q hq h0).2.1, fun e => by
    rcases (g3 q hq h0).2.2.1 with hA | hA
    · exact hgA (e ▸ hA)
    · have hgl' : g < w0.heap.size := hgl
      omega⟩) hf hl).mono ?_
  rintro e w' ⟨rfl, sv', i1, i2, i3, i4, i5, i6, i7, i8⟩
  have hlf := list_fits (s := s) hF hm hf hl
  have hkeep : ∀ q, q < w.heap.size → ¬ F.own w.heap q → q ≠ b → (arr (.slice a (m.L j).length cc) = some q → m.L j = []) → w'.heap[q]? = w.heap[q]? := fun q hq ho hqb hqa => i8.block q hq (by
    rintro (hs | hs | hs)
    · exact ho hs
    · exact hqb hs
    · exact hs.2 (hqa hs.1))
  -- the old list is not empty where the new one, in the old array, is not
  have hold : (F.list fs s most (m.L j)).2 ≠ [] → sv' = .slice a (m.L j).length cc → m.L j ≠ [] := fun h0 e e0 => by
    obtain ⟨a2, c2, e2, _⟩ := i5
    rw [e] at e2
    injection e2 with _ e2 _
    have e9 : (m.L j).length = 0 := List.length_eq_zero_iff.2 e0
    exact h0 (List.length_eq_zero_iff.1 (e2.symm.trans e9))
  have hj26 := (lists_noscalar hj).2
  refine ⟨rfl, i1, fun q hq ho => h.own q hq (i2 q (Nat.lt_of_lt_of_le hq h.only.size) ho), by have := h.room; unfold Form.lstCost; simp only [Form.lstM]; omega, fun ho => h.no (i2 b hbl ho), ?_, h.typed, ?_⟩
  · refine h.only.trans i8 ?_
    intro q hq hs
    rcases hs with hs | hs | ⟨hs, h0⟩
    · exact .inl (h.own q hq hs)
    · exact .inr (.inl hs)
    · rcases (g3 q hs h0).2.2.1 with hA | hA
      · exact .inr (.inr hA)
      · omega
  · refine ⟨_, by rw [Array.size_setIfInBounds]; exact h1, i4, ?_, ?_⟩
    · intro q hq
      have hne : j ≠ q := fun e => by subst e; rw [(lists_noscalar hj).1] at hq; exact Bool.noConfusion hq
      rw [Array.getElem?_setIfInBounds_ne hne]
      exact h3 q hq
    · intro j' fs' hj'
      by_cases e : j' = j
      · subst e
        have := lists_one hj hj'
        subst this
        refine ⟨by simp only [Form.lstM, upL, if_true]; exact hlf, sv', by rw [Array.getElem?_setIfInBounds_self_of_lt (by omega)], by simp only [Form.lstM, upL, if_true]; exact i5, ?_⟩
        simp only [Form.lstM, upL, if_true]
        intro q hq h0
        refine ⟨(i7 q hq h0).1, (i7 q hq h0).2, ?_, ?_⟩
        · rcases i6 with e | ⟨k', e, hk'⟩
          · exact (g3 q (e ▸ hq) (hold h0 e)).2.2.1
          · rw [e] at hq
            injection hq with hq
            subst hq
            exact .inr (Nat.le_trans h.only.size hk')
        · intro j2 fs2 sv2 hj2 hne hsv2 hL2 ha2
          rw [Array.getElem?_setIfInBounds_ne (Ne.symm hne)] at hsv2
          rw [if_neg hne] at hL2
          obtain ⟨_, sv3, k1, k2, k3⟩ := h4 j2 fs2 hj2
          rw [hsv2] at k1
          injection k1 with k1
          subst k1
          rcases i6 with e | ⟨k', e, hk'⟩
          · exact (g3 q (e ▸ hq) (hold h0 e)).2.2.2 j2 fs2 sv2 hj2 hne hsv2 hL2 ha2
          · rw [e] at hq
            injection hq with hq
            subst hq
            have := k2.lt ha2 hL2
            omega
      · obtain ⟨hf', sv2, k1, k2, k3⟩ := h4 j' fs' hj'
        have hL' : (F.lstM s m j fs most).2.L j' = m.L j' := by simp only [Form.lstM, upL, if_neg e]
        rw [hL']
        refine ⟨hf', sv2, by rw [Array.getElem?_setIfInBounds_ne (Ne.symm e)]; exact k1, k2.move (fun q hq h0 => hkeep q (k2.lt hq h0) (k3 q hq h0).2.1 (k3 q hq h0).1 (fun ha => ?_)), fun q hq h0 => ⟨(k3 q hq h0).1, fun ho => (k3 q hq h0).2.1 (i2 q (k2.lt hq h0) ho), (k3 q hq h0).2.2.1, ?_⟩⟩
        · by_cases hL : m.L j = []
          · exact hL
          · exact absurd ha ((k3 q hq h0).2.2.2 j fs _ hj (Ne.symm e) g1 hL)
        · intro j2 fs2 sv3 hj2 hne hsv3 hL3 ha3
          by_cases e2 : j2 = j
          · subst e2
            rw [Array.getElem?_setIfInBounds_self_of_lt (by omega)] at hsv3
            injection hsv3 with hsv3
            subst hsv3
            have hL3' : (F.list fs s most (m.L j2)).2 ≠ [] := by simpa only [Form.lstM, upL, if_true] using hL3
            rcases i6 with e | ⟨k', e, hk'⟩
            · exact (k3 q hq h0).2.2.2 j2 fs _ hj hne g1 (hold hL3' e) (e ▸ ha3)
            · rw [e] at ha3
              injection ha3 with ha3
              subst ha3
              have := k2.lt hq h0
              omega
          · rw [Array.getElem?_setIfInBounds_ne (Ne.symm e2)] at hsv3
            have hL3' : m.L j2 ≠ [] := by simpa only [Form.lstM, upL, if_neg e2] using hL3
            exact (k3 q hq h0).2.2.2 j2 fs2 sv3 hj2 hne hsv3 hL3' ha3
end Go.Proofs.Ytcbehfbfaonanaa.Wr
end

/- A message as a value: its lists as they are read; a copy of a list. -/
section
namespace Go.Proofs.Ytcbehfbfaonanaa.Wr
open Go.RowKit Go.Proofs.YtcbehfbfaonanaaW.PrintWords Go.Proofs.YtcbehfbfaonanaaW.PrintLast Go.Proofs.YtcbehfbfaonanaaW.PrintMore Go.Proofs.Ytcbehfbfaonanaa.Pk
set_option linter.unusedVariables false
set_option linter.unusedSimpArgs false

/-- The slice's rows are read from there. -/
def ListRd (w : World) (sv : Value) (st : Nat) (rows : List (List Value)) : Prop :=
  ∃ a c, sv = .slice a rows.length c ∧ (a = none → c = 0) ∧ (rows ≠ [] → ∃ ad, a = some ad ∧ ∀ k r, rows[k]? = some r → ∀ j v, r[j]? = some v → w.cell? (ad.add (k * st + j)) = some v)
theorem ListRd.below {w w' : World} {sv : Value} {st : Nat} {rows : List (List Value)} (h : ListRd w sv st rows) (hst : 0 < st) (hl : ∀ r, r ∈ rows → r.length = st) (hB : Below w.heap.size w w') : ListRd w' sv st rows := by
  obtain ⟨a, c, rfl, h0, h3⟩ := h
  refine ⟨a, c, rfl, h0, fun h' => ?_⟩
  obtain ⟨ad, rfl, h4⟩ := h3 h'
  refine ⟨ad, rfl, fun k r hr j v hv => ?_⟩
  have hc := h4 k r hr j v hv
  rw [hB.cell (World.block_lt_of_cell? w _ hc)]
  exact hc

theorem flat_get {st : Nat} : ∀ {rows : List (List Value)} (_ : ∀ r, r ∈ rows → r.length = st) {i : Nat} {u : Value}, rows.flatten[i]? = some u → ∃ k r j, rows[k]? = some r ∧ r[j]? = some u ∧ i = k * st + j
  | [], _, i, u, h => by simp at h
  | r :: rows, hl, i, u, h => by
    rw [List.flatten_cons] at h
    have hr := hl r (.head _)
    rcases Nat.lt_or_ge i r.length with hi | hi
    · rw [List.getElem?_append_left hi] at h
      exact ⟨0, r, i, rfl, h, by omega⟩
    · rw [List.getElem?_append_right hi] at h
      obtain ⟨k, r', j, h1, h2, h3⟩ := flat_get (fun q hq => hl q (.tail _ hq)) h
      exact ⟨k + 1, r', j, by simpa using h1, h2, by rw [Nat.add_mul]; omega⟩
theorem flat_at {st : Nat} : ∀ {rows : List (List Value)} (_ : ∀ r, r ∈ rows → r.length = st) {k : Nat} {r : List Value} {j : Nat} {v : Value}, rows[k]? = some r → r[j]? = some v → rows.flatten[k * st + j]? = some v
  | [], _, k, r, j, v, h, _ => by simp at h
  | q :: rows, hl, 0, r, j, v, h, hv => by
    simp only [List.getElem?_cons_zero, Option.some.injEq] at h
    subst h
    rw [List.flatten_cons, List.getElem?_append_left (by have := (List.getElem?_eq_some_iff.1 hv).1; omega)]
    simpa using hv
  | q :: rows, hl, k + 1, r, j, v, h, hv => by
    have hr := hl q (.head _)
    rw [List.getElem?_cons_succ] at h
    rw [List.flatten_cons, List.getElem?_append_right (by rw [Nat.add_mul]; omega), show (k + 1) * st + j - q.length = k * st + j by rw [Nat.add_mul]; omega]
    exact flat_at (fun q hq => hl q (.tail _ hq)) h hv
theorem flat_length {st : Nat} : ∀ {rows : List (List Value)} (_ : ∀ r, r ∈ rows → r.length = st), rows.flatten.length = rows.length * st
  | [], _ => by simp
  | r :: rows, hl => by rw [List.flatten_cons, List.length_append, flat_length (fun q hq => hl q (.tail _ hq)), hl r (.head _), List.length_cons, Nat.add_mul]; omega
theorem fits_one {fs : List Fld} {vs : List Value} (h : fits fs vs) : ∀ u, u ∈ vs → u.oneCell' = true := by
  induction fs generalizing vs with
  | nil => cases vs with
    | nil => intro u hu; nomatch hu
    | cons v vs => exact h.elim
  | cons f fs ih => cases vs with
    | nil => exact h.elim
    | cons v vs =>
      intro u hu
      rcases List.mem_cons.1 hu with rfl | hu
      · have := h.1
        cases f <;> obtain ⟨x, rfl⟩ := this <;> rfl
      · exact ih h.2 u hu
/-- Owned rows lie oas a list does. -/
theorem listAt_own {w : World} {base : Nat} {e : TypeId} {st : Nat} {v : Value} {rows : List (List Value)} (hl : ∀ r, r ∈ rows → r.length = st) (h : w.ownsRow base e st v rows.length rows.flatten) :
    ListAt w v st rows ∧ ListRd w v st rows ∧ ∀ k, arr v = some k → base ≤ k := by
  obtain ⟨h1, h2⟩ := h
  rcases h2 with ⟨rfl, h2⟩ | ⟨g, cap, cur, rfl, hb, hg, hn, hm, hs, ht⟩
  · have e : rows = [] := List.length_eq_zero_iff.1 h2
    subst e
    exact ⟨⟨none, 0, rfl, fun h => absurd rfl h, fun _ => rfl⟩, ⟨none, 0, rfl, fun _ => rfl, fun h => absurd rfl h⟩, fun k hk => by simp [arr] at hk⟩
  · have key : RowsIn cur 0 st rows := fun k r hr j v hv => by
      have := flat_at hl hr hv
      rw [← ht, List.getElem?_take] at this
      split at this
      · rw [Nat.zero_add]; simpa using this
      · cases this
    refine ⟨⟨some ⟨g, 0, none⟩, cap, rfl, fun _ => ⟨g, 0, cur, e, rfl, hg, key⟩, fun h => by simp at h⟩, ⟨some ⟨g, 0, none⟩, cap, rfl, fun h => by simp at h, fun _ => ⟨⟨g, 0, none⟩, rfl, fun k r hr j v hv => ?_⟩⟩, fun k hk => by simp only [arr, Option.some.injEq] at hk; omega⟩
    have hc := key k r hr j v hv
    rw [Nat.zero_add] at hc
    rcases Nat.eq_zero_or_pos (k * st + j) with h0 | h0
    · rw [h0] at hc ⊢; exact (blk_cell hg 0).trans hc
    · have e : (⟨g, 0, none⟩ : Addr).add (k * st + j) = ⟨g, k * st + j, none⟩ := by
        unfold Addr.add; rw [if_neg (by omega)]; simp
      rw [e]
      exact (blk_cell hg _).trans hc
theorem ListAt.rd {w : World} {sv : Value} {st : Nat} {rows : List (List Value)} (h : ListAt w sv st rows) : ListRd w sv st rows := by
  obtain ⟨a, c, rfl, h, hz⟩ := h
  refine ⟨a, c, rfl, hz, fun h' => ?_⟩
  obtain ⟨rb, off, cs, T, rfl, hg, hr⟩ := h h'
  refine ⟨_, rfl, fun k r hk j v hv => ?_⟩
  have hc := hr k r hk j v hv
  rcases Nat.eq_zero_or_pos (k * st + j) with h0 | h0
  · rw [h0]; rw [Nat.add_assoc, h0] at hc; exact (blk_cell hg _).trans hc
  · have e : (⟨rb, off, none⟩ : Addr).add (k * st + j) = ⟨rb, off + (k * st + j), none⟩ := by
      unfold Addr.add; rw [if_neg (by omega)]
    rw [e]; rw [Nat.add_assoc] at hc
    exact (blk_cell hg _).trans hc

section
variable {P : Program} {ops : Array Oper} {rest : List Oper} {o : Oper} {a : Act} {Q : Exit → Act → World → Prop}
/-- append(v, l...), of rows that are read. -/
theorem append_rows {w0 W : World} (base : Nat) (hgd : o.guard = none) (s x : Operand) (t e : TypeId) (z : Value) (size bytes : Nat)
    (ho : o.op = .call { callee := .builtin .append, args := #[s, x], argTypes := #[t, t] })
    (ht : P.underlying t = some (.slice e)) (hinfo : (P.info? e).map (fun i => (i.zero, i.size, i.bytes)) = some (some z, size, bytes)) (hz : z.cells.size = size) (hs0 : 0 < size) (hb0 : 0 < bytes)
    (v sv : Value) (xs rows : List (List Value)) (fs : List Fld) (hfs : fs.length = size) (hs : a.eval s = v) (hx : a.eval x = sv) (hf : ∀ r, r ∈ rows → fits fs r)
    (HO : W.ownsRow base e size v xs.length xs.flatten) (HR : ListRd W sv size rows) (HB : Below base w0 W) (hbase : base ≤ W.heap.size) (hl : (xs.length + rows.length) * bytes ≤ 140737488355328)
    (h : ∀ v1 w1, w1.ownsRow base e size v1 (xs ++ rows).length (xs ++ rows).flatten → Below base w0 w1 → W.grownBy w1 v.ownBlock → (v1.ownBlock = v.ownBlock ∨ ∃ b, v1.ownBlock = some b ∧ W.heap.size ≤ b) → wpList P ops Q rest (a.put o.dst v1) w1) :
    wpList P ops Q (o :: rest) a W := by
  obtain ⟨i0, hi, hzz⟩ := Option.map_eq_some_iff.1 hinfo
  simp only [Prod.mk.injEq] at hzz
  obtain ⟨hz0, hz1, hz2⟩ := hzz
  have hlen : xs.length + rows.length ≤ 140737488355328 := Nat.le_trans (Nat.le_mul_of_pos_right _ hb0) hl
  have hlr : ∀ r, r ∈ rows → r.length = size := fun r hr => (fits_length (hf r hr)).trans hfs
  obtain ⟨A, c, rfl, h0, h3⟩ := HR
  cases A with
  | none =>
    have hc := h0 rfl
    have e0 : rows = [] := Classical.byContradiction fun h => by obtain ⟨_, e, _⟩ := h3 h; cases e
    subst e0
    subst hc
    refine wpList_append_own_none hgd s x t ho base e i0 size ht hi v xs.length xs.flatten hs HO hx ?_
    exact h v W (by simpa using HO) HB ⟨rfl, rfl, rfl, Nat.le_refl _, fun _ _ _ => rfl⟩ (.inl rfl)
  | some ad =>
    refine wpList_append_own_at W hgd s x t ho base e i0 z size bytes ht hi hz0 hz1 hz2 hz hs0 v xs.length xs.flatten hs HO ad rows.length c rows.flatten hx (flat_length hlr) (fun i u hu => ?_) (fun u hu => ?_) (by simp only [maxLen]; omega) hl hbase ?_
    · obtain ⟨k, r, j, k1, k2, k3⟩ := flat_get hlr hu
      obtain ⟨ad', e', h4⟩ := h3 (fun e => by subst e; simp at k1)
      injection e' with e'
      subst e'
      subst k3
      exact h4 k r k1 j u k2
    · obtain ⟨r, hr, hu⟩ := List.mem_flatten.1 hu
      exact fits_one (hf r hr) u hu
    · intro v1 w1 hown hg _ hat
      refine h v1 w1 (by simpa using hown) (HB.grown hg hbase (own_base HO)) hg ?_
      rcases hat with hat | hat
      · exact .inl hat
      · exact .inr ⟨_, hat, Nat.le_refl _⟩
end
/-- A list's copy: in new memory. -/
def IsCopy (st : Nat) (rows : List (List Value)) (w : World) (e : Ending) (w' : World) : Prop :=
  ∃ sv, e = .returned sv ∧ Below w.heap.size w w' ∧ ListAt w' sv st rows ∧ ListRd w' sv st rows ∧ ∀ k, arr sv = some k → w.heap.size ≤ k
theorem infoEntry : (Try.prog.info? 66).map (fun i => (i.zero, i.size, i.bytes)) = some (some (.agg #[(.int .i64 0), (.int .i64 0), (.int .i64 0), (.int .i64 0), (.string ⟨#[]⟩), (.bool false), (.string ⟨#[]⟩)]), 7, 72) := by kernel_rfl
set_option maxRecDepth 100000 in
set_option maxHeartbeats 1000000 in
theorem cloneEntry_c (w : World) (sv : Value) (rows : List (List Value)) (hR : ListRd w sv 7 rows) (hf : ∀ r, r ∈ rows → fits entryF r) (hn : rows.length ≤ 1048576) :
    Calls Try.prog 35 #[sv] w (IsCopy 7 rows w) := by
  have HR := Aside0.mk hR
  obtain ⟨A, c, rfl, h0, h3⟩ := hR
  cases A with
  | none =>
    obtain rfl : c = 0 := h0 rfl
    obtain rfl : rows = [] := Classical.byContradiction fun h => by obtain ⟨_, e, _⟩ := h3 h; cases e
    have hq : ∀ w, (binOp .eql 22 (.slice none 0 0) (.slice none 0 0)).run Try.prog w = .ok (.bool true) w := fun _ => rfl
    clear h0 h3 hf hn
    go_enter Try.func35, Try.ntmps35
    go_wp2
    go_ret
    exact ⟨_, rfl, Below.refl _ _, ⟨none, 0, rfl, fun h => absurd rfl h, fun _ => rfl⟩, HR.out, fun k hk => by simp [arr] at hk⟩
  | some ad =>
    have HF := Aside0.mk hf
    have HL := Aside0.mk (fun r (hr : r ∈ rows) => fits_length (hf r hr))
    have HN := Aside0.mk hn
    have HB := Aside0.mk ((Below.refl w.heap.size w).alloc (Nat.le_refl _) (.cells #[] 66))
    have HR1 := Aside0.mk (HR.out.below (by omega) (fun r hr => fits_length (hf r hr)) HB.out)
    have HO := Aside0.mk (World.ownsRow_lit (base := w.heap.size) (e := 66) (size := 7) w #[] 0 (Nat.le_refl _) (by omega) rfl)
    have hq : ∀ w, (binOp .eql 22 (.slice (some ad) rows.length c) (.slice none 0 0)).run Try.prog w = .ok (.bool false) w := fun _ => rfl
    clear h0 h3 hf hn
    go_enter Try.func35, Try.ntmps35
    go_wp2_with (at_builtin; refine append_rows (w0 := w) w.heap.size rfl (.tmp 5) (.tmp 6) 22 66 _ 7 72 rfl Try.underlying22 infoEntry rfl (by omega) (by omega) (.slice (some ⟨w.heap.size, 0, none⟩) 0 0) _ [] rows entryF rfl rfl rfl HF.out HO.out HR1.out HB.out (by simp) (by have := HN.out; simp; omega) ?_; intro v1 w1 hO hB hg hat; have HB1 := Aside0.mk hB; have HO1 := Aside0.mk hO; clear hO hg hat hB)
    go_ret
    have K := listAt_own (rows := rows) HL.out HO1.out
    exact ⟨_, rfl, HB1.out, K⟩
theorem infoPair : (Try.prog.info? 68).map (fun i => (i.zero, i.size, i.bytes)) = some (some (.agg #[(.string ⟨#[]⟩), (.int .i64 0), (.int .i64 0), (.bool false), (.string ⟨#[]⟩)]), 5, 56) := by kernel_rfl
set_option maxRecDepth 100000 in
set_option maxHeartbeats 1000000 in
theorem clonePair_c (w : World) (sv : Value) (rows : List (List Value)) (hR : ListRd w sv 5 rows) (hf : ∀ r, r ∈ rows → fits pairF r) (hn : rows.length ≤ 1048576) :
    Calls Try.prog 36 #[sv] w (IsCopy 5 rows w) := by
  have HR := Aside0.mk hR
  obtain ⟨A, c, rfl, h0, h3⟩ := hR
  cases A with
  | none =>
    obtain rfl : c = 0 := h0 rfl
    obtain rfl : rows = [] := Classical.byContradiction fun h => by obtain ⟨_, e, _⟩ := h3 h; cases e
    have hq : ∀ w, (binOp .eql 25 (.slice none 0 0) (.slice none 0 0)).run Try.prog w = .ok (.bool true) w := fun _ => rfl
    clear h0 h3 hf hn
    go_enter Try.func36, Try.ntmps36
    go_wp2
    go_ret
    exact ⟨_, rfl, Below.refl _ _, ⟨none, 0, rfl, fun h => absurd rfl h, fun _ => rfl⟩, HR.out, fun k hk => by simp [arr] at hk⟩
  | some ad =>
    have HF := Aside0.mk hf
    have HL := Aside0.mk (fun r (hr : r ∈ rows) => fits_length (hf r hr))
    have HN := Aside0.mk hn
    have HB := Aside0.mk ((Below.refl w.heap.size w).alloc (Nat.le_refl _) (.cells #[] 68))
    have HR1 := Aside0.mk (HR.out.below (by omega) (fun r hr => fits_length (hf r hr)) HB.out)
    have HO := Aside0.mk (World.ownsRow_lit (base := w.heap.size) (e := 68) (size := 5) w #[] 0 (Nat.le_refl _) (by omega) rfl)
    have hq : ∀ w, (binOp .eql 25 (.slice (some ad) rows.length c) (.slice none 0 0)).run Try.prog w = .ok (.bool false) w := fun _ => rfl
    clear h0 h3 hf hn
    go_enter Try.func36, Try.ntmps36
    go_wp2_with (at_builtin; refine append_rows (w0 := w) w.heap.size rfl (.tmp 5) (.tmp 6) 25 68 _ 5 56 rfl Try.underlying25 infoPair rfl (by omega) (by omega) (.slice (some ⟨w.heap.size, 0, none⟩) 0 0) _ [] rows pairF rfl rfl rfl HF.out HO.out HR1.out HB.out (by simp) (by have := HN.out; simp; omega) ?_; intro v1 w1 hO hB hg hat; have HB1 := Aside0.mk hB; have HO1 := Aside0.mk hO; clear hO hg hat hB)
    go_ret
    have K := listAt_own (rows := rows) HL.out HO1.out
    exact ⟨_, rfl, HB1.out, K⟩
theorem infoSeen : (Try.prog.info? 70).map (fun i => (i.zero, i.size, i.bytes)) = some (some (.agg #[(.int .i64 0), (.int .i64 0), (.int .i64 0), (.int .i64 0)]), 4, 32) := by kernel_rfl
set_option maxRecDepth 100000 in
set_option maxHeartbeats 1000000 in
theorem cloneSeen_c (w : World) (sv : Value) (rows : List (List Value)) (hR : ListRd w sv 4 rows) (hf : ∀ r, r ∈ rows → fits seenF r) (hn : rows.length ≤ 1048576) :
    Calls Try.prog 37 #[sv] w (IsCopy 4 rows w) := by
  have HR := Aside0.mk hR
  obtain ⟨A, c, rfl, h0, h3⟩ := hR
  cases A with
  | none =>
    obtain rfl : c = 0 := h0 rfl
    obtain rfl : rows = [] := Classical.byContradiction fun h => by obtain ⟨_, e, _⟩ := h3 h; cases e
    have hq : ∀ w, (binOp .eql 26 (.slice none 0 0) (.slice none 0 0)).run Try.prog w = .ok (.bool true) w := fun _ => rfl
    clear h0 h3 hf hn
    go_enter Try.func37, Try.ntmps37
    go_wp2
    go_ret
    exact ⟨_, rfl, Below.refl _ _, ⟨none, 0, rfl, fun h => absurd rfl h, fun _ => rfl⟩, HR.out, fun k hk => by simp [arr] at hk⟩
  | some ad =>
    have HF := Aside0.mk hf
    have HL := Aside0.mk (fun r (hr : r ∈ rows) => fits_length (hf r hr))
    have HN := Aside0.mk hn
    have HB := Aside0.mk ((Below.refl w.heap.size w).alloc (Nat.le_refl _) (.cells #[] 70))
    have HR1 := Aside0.mk (HR.out.below (by omega) (fun r hr => fits_length (hf r hr)) HB.out)
    have HO := Aside0.mk (World.ownsRow_lit (base := w.heap.size) (e := 70) (size := 4) w #[] 0 (Nat.le_refl _) (by omega) rfl)
    have hq : ∀ w, (binOp .eql 26 (.slice (some ad) rows.length c) (.slice none 0 0)).run Try.prog w = .ok (.bool false) w := fun _ => rfl
    clear h0 h3 hf hn
    go_enter Try.func37, Try.ntmps37
    go_wp2_with (at_builtin; refine append_rows (w0 := w) w.heap.size rfl (.tmp 5) (.tmp 6) 26 70 _ 4 32 rfl Try.underlying26 infoSeen rfl (by omega) (by omega) (.slice (some ⟨w.heap.size, 0, none⟩) 0 0) _ [] rows seenF rfl rfl rfl HF.out HO.out HR1.out HB.out (by simp) (by have := HN.out; simp; omega) ?_; intro v1 w1 hO hB hg hat; have HB1 := Aside0.mk hB; have HO1 := Aside0.mk hO; clear hO hg hat hB)
    go_ret
    have K := listAt_own (rows := rows) HL.out HO1.out
    exact ⟨_, rfl, HB1.out, K⟩
theorem infoEpoch : (Try.prog.info? 72).map (fun i => (i.zero, i.size, i.bytes)) = some (some (.agg #[(.int .i64 0), (.int .i64 0), (.bool false)]), 3, 24) := by kernel_rfl
set_option maxRecDepth 100000 in
set_option maxHeartbeats 1000000 in
theorem cloneEpoch_c (w : World) (sv : Value) (rows : List (List Value)) (hR : ListRd w sv 3 rows) (hf : ∀ r, r ∈ rows → fits epochF r) (hn : rows.length ≤ 1048576) :
    Calls Try.prog 38 #[sv] w (IsCopy 3 rows w) := by
  have HR := Aside0.mk hR
  obtain ⟨A, c, rfl, h0, h3⟩ := hR
  cases A with
  | none =>
    obtain rfl : c = 0 := h0 rfl
    obtain rfl : rows = [] := Classical.byContradiction fun h => by obtain ⟨_, e, _⟩ := h3 h; cases e
    have hq : ∀ w, (binOp .eql 27 (.slice none 0 0) (.slice none 0 0)).run Try.prog w = .ok (.bool true) w := fun _ => rfl
    clear h0 h3 hf hn
    go_enter Try.func38, Try.ntmps38
    go_wp2
    go_ret
    exact ⟨_, rfl, Below.refl _ _, ⟨none, 0, rfl, fun h => absurd rfl h, fun _ => rfl⟩, HR.out, fun k hk => by simp [arr] at hk⟩
  | some ad =>
    have HF := Aside0.mk hf
    have HL := Aside0.mk (fun r (hr : r ∈ rows) => fits_length (hf r hr))
    have HN := Aside0.mk hn
    have HB := Aside0.mk ((Below.refl w.heap.size w).alloc (Nat.le_refl _) (.cells #[] 72))
    have HR1 := Aside0.mk (HR.out.below (by omega) (fun r hr => fits_length (hf r hr)) HB.out)
    have HO := Aside0.mk (World.ownsRow_lit (base := w.heap.size) (e := 72) (size := 3) w #[] 0 (Nat.le_refl _) (by omega) rfl)
    have hq : ∀ w, (binOp .eql 27 (.slice (some ad) rows.length c) (.slice none 0 0)).run Try.prog w = .ok (.bool false) w := fun _ => rfl
    clear h0 h3 hf hn
    go_enter Try.func38, Try.ntmps38
    go_wp2_with (at_builtin; refine append_rows (w0 := w) w.heap.size rfl (.tmp 5) (.tmp 6) 27 72 _ 3 24 rfl Try.underlying27 infoEpoch rfl (by omega) (by omega) (.slice (some ⟨w.heap.size, 0, none⟩) 0 0) _ [] rows epochF rfl rfl rfl HF.out HO.out HR1.out HB.out (by simp) (by have := HN.out; simp; omega) ?_; intro v1 w1 hO hB hg hat; have HB1 := Aside0.mk hB; have HO1 := Aside0.mk hO; clear hO hg hat hB)
    go_ret
    have K := listAt_own (rows := rows) HL.out HO1.out
    exact ⟨_, rfl, HB1.out, K⟩

end Go.Proofs.Ytcbehfbfaonanaa.Wr
end

/- A message's walk as a script: what is still to be handed over. -/
section
namespace Go.Proofs.Ytcbehfbfaonanaa.Wr
open Go.RowKit Go.Proofs.YtcbehfbfaonanaaW.PrintWords Go.Proofs.YtcbehfbfaonanaaW.PrintLast Go.Proofs.YtcbehfbfaonanaaW.PrintMore Go.Proofs.Ytcbehfbfaonanaa.Pk
set_option linter.unusedVariables false
set_option linter.unusedSimpArgs false

/-- One step of a message's script: a row of fields from cell i on; the number of parts; a list. -/
inductive Step where
  | row (i : Nat) (fs : List Fld)
  | most
  | lst (j : Nat) (fs : List Fld) (most : Nat)
def maxOf : Value → Int
  | .int .i64 x => if 1 < x then x else 1
  | _ => 1
def Form.step (F : Form) (s : F.σ) (m : M) : Step → F.σ × M
  | .row i fs => F.rowM s m i fs
  | .most => F.rowM s m 7 [.num (maxOf (m.c 6)) 128]
  | .lst j fs n => F.lstM s m j fs n
def Form.stepCost (F : Form) (s : F.σ) (m : M) : Step → Nat
  | .row i fs => cost (valsAt m.c i fs.length)
  | .most => 8
  | .lst j fs n => F.lstCost s m j fs n
def Form.run (F : Form) (s : F.σ) (m : M) : List Step → F.σ × M
  | [] => (s, m)
  | t :: ts => F.run (F.step s m t).1 (F.step s m t).2 ts
def Form.runCost (F : Form) (s : F.σ) (m : M) : List Step → Nat
  | [] => 0
  | t :: ts => F.stepCost s m t + F.runCost (F.step s m t).1 (F.step s m t).2 ts
theorem run_append (F : Form) : ∀ (ts us : List Step) (s : F.σ) (m : M), F.run s m (ts ++ us) = F.run (F.run s m ts).1 (F.run s m ts).2 us
  | [], us, s, m => rfl
  | t :: ts, us, s, m => run_append F ts us _ _
theorem runCost_append (F : Form) : ∀ (ts us : List Step) (s : F.σ) (m : M), F.runCost s m (ts ++ us) = F.runCost s m ts + F.runCost (F.run s m ts).1 (F.run s m ts).2 us
  | [], us, s, m => by simp [Form.runCost, Form.run]
  | t :: ts, us, s, m => by
    simp only [List.cons_append, Form.runCost, Form.run, runCost_append F ts us]
    omega

/-- The walk stands where ts are still to be handed over. -/
def Stand (F : Form) (s0 : F.σ) (w0 : World) (b : Nat) (A : Nat → Prop) (K : Value) (C : Nat) (sF : F.σ) (mF : M) (ts : List Step) (w : World) : Prop :=
  ∃ s c m, MAt F s0 w0 b A s c m w ∧ m.c 0 = K ∧ c + F.runCost s m ts = C ∧ F.run s m ts = (sF, mF)
def StandOn (F : Form) (s0 : F.σ) (w0 : World) (b : Nat) (A : Nat → Prop) (K : Value) (C : Nat) (sF : F.σ) (mF : M) (ts : List Step) (e : Ending) (w : World) : Prop :=
  e = .returned (.tuple #[]) ∧ Stand F s0 w0 b A K C sF mF ts w
variable {F : Form} {s0 s sF : F.σ} {w0 w : World} {b : Nat} {A : Nat → Prop} {K : Value} {c C : Nat} {m mF : M} {ts : List Step} {i j n : Nat} {fs : List Fld} {lo up lim : Int}
theorem Stand.drew (hF : F.Good) (h : Stand F s0 w0 b A K C sF mF ts w) : Stand F s0 w0 b A K C sF mF ts w.drew := by
  obtain ⟨s, c, m, h1, h2⟩ := h
  exact ⟨s, c, m, h1.drew hF, h2⟩
theorem Stand.start (h : MAt F s w b A s 0 m w) (ts : List Step) : Stand F s w b A (m.c 0) (F.runCost s m ts) (F.run s m ts).1 (F.run s m ts).2 ts w := ⟨s, 0, m, h, rfl, by simp, rfl⟩
theorem Stand.done (h : Stand F s0 w0 b A K C sF mF [] w) : MOn F s0 w0 b A sF C mF (.returned (.tuple #[])) w := by
  obtain ⟨s, c, m, h1, h2, h3, h4⟩ := h
  simp only [Form.runCost, Form.run, Nat.add_zero, Prod.mk.injEq] at h3 h4
  obtain ⟨rfl, rfl⟩ := h4
  subst h3
  exact ⟨rfl, h1⟩
theorem MAt.kind (h : MAt F s0 w0 b A s c m w) {i : Nat} (hi : scalar i = true) : w.cell? ⟨b, i, none⟩ = some (m.c i) ∧ w.frozen? ⟨b, i, none⟩ = false := by
  obtain ⟨cs, h1, h2, h3, _⟩ := h.blk
  exact ⟨(blk_cell h2 i).trans (h3 i hi), blk_frozen h2 i⟩
theorem Stand.kind (h : Stand F s0 w0 b A K C sF mF ts w) : w.cell? ⟨b, 0, none⟩ = some K := by
  obtain ⟨s, c, m, h1, h2, _⟩ := h
  rw [← h2]
  exact (h1.kind rfl).1
theorem rowM_c0 {i : Nat} {fs : List Fld} (hi : 0 < i) : (F.rowM s m i fs).2.c 0 = m.c 0 := by
  simp only [Form.rowM, putAt]
  rw [if_neg (by omega)]
/-- A row was handed over by some call. -/
theorem Stand.did {i : Nat} {fs : List Fld} {t : Step} (h : MAt F s0 w0 b A s c m w) (hK : m.c 0 = K) (hC : c + F.runCost s m (t :: ts) = C) (hR : F.run s m (t :: ts) = (sF, mF)) (ht : F.step s m t = F.rowM s m i fs) (hc : F.stepCost s m t = cost (valsAt m.c i fs.length)) (hi : okRow i fs = true) (h0 : 0 < i) {k : FuncId} {args : Array Value}
    (H : Calls Try.prog k args w (Did F s (F.row s fs (valsAt m.c i fs.length)).1 (cellsAt b i (F.row s fs (valsAt m.c i fs.length)).2) (cost (valsAt m.c i fs.length)) w)) :
    Calls Try.prog k args w (StandOn F s0 w0 b A K C sF mF ts) := by
  refine H.mono ?_
  rintro e w' ⟨rfl, hS⟩
  have := h.rowDid hi hS
  refine ⟨rfl, _, _, _, this, (rowM_c0 h0).trans hK, ?_, ?_⟩
  · rw [← hC]; simp only [Form.runCost, ht, hc]; omega
  · rw [← hR]; simp only [Form.run, ht]
theorem Stand.num (h : Stand F s0 w0 b A K C sF mF (.row i [.num lo up] :: ts) w) (hF : F.Good) (hr : F.room s0 + C ≤ cap) (hi : okRow i [.num lo up] = true) (h0 : 0 < i) :
    Calls Try.prog (F.k 0) #[F.v, .pointer (some ⟨b, i, none⟩), .int .i64 lo, .int .i64 up] w.drew (StandOn F s0 w0 b A K C sF mF ts) := by
  obtain ⟨s, c, m, h1, h2, h3, h4⟩ := Stand.drew hF h
  refine Stand.did h1 h2 h3 h4 rfl rfl hi h0 ?_
  obtain ⟨cs, k1, k2, k3, _⟩ := h1.blk
  have hs := okRow_scalar hi 0 (by simp)
  obtain ⟨n, hn⟩ := (okRow_fits hi h1.typed).1
  have := hF.num_c s w.drew b i cs _ n lo up h1.inv h1.no (by have := h1.room; simp only [Form.runCost, Form.stepCost, List.length_cons, List.length_nil, valsAt, hn, cost, costV] at h3; omega) k2 (by rw [← hn]; exact k3 i hs)
  simpa [valsAt, hn, Form.row, Form.fld, cellsAt, cost, costV] using this
theorem Stand.flag (h : Stand F s0 w0 b A K C sF mF (.row i [.flag] :: ts) w) (hF : F.Good) (hr : F.room s0 + C ≤ cap) (hi : okRow i [.flag] = true) (h0 : 0 < i) :
    Calls Try.prog (F.k 1) #[F.v, .pointer (some ⟨b, i, none⟩)] w.drew (StandOn F s0 w0 b A K C sF mF ts) := by
  obtain ⟨s, c, m, h1, h2, h3, h4⟩ := Stand.drew hF h
  refine Stand.did h1 h2 h3 h4 rfl rfl hi h0 ?_
  obtain ⟨cs, k1, k2, k3, _⟩ := h1.blk
  have hs := okRow_scalar hi 0 (by simp)
  obtain ⟨n, hn⟩ := (okRow_fits hi h1.typed).1
  have := hF.flag_c s w.drew b i cs _ n h1.inv h1.no (by have := h1.room; simp only [Form.runCost, Form.stepCost, List.length_cons, List.length_nil, valsAt, hn, cost, costV] at h3; omega) k2 (by rw [← hn]; exact k3 i hs)
  simpa [valsAt, hn, Form.row, Form.fld, cellsAt, cost, costV] using this
theorem Stand.text (h : Stand F s0 w0 b A K C sF mF (.row i [.text lim] :: ts) w) (hF : F.Good) (hr : F.room s0 + C ≤ cap) (hi : okRow i [.text lim] = true) (h0 : 0 < i) :
    Calls Try.prog (F.k 2) #[F.v, .pointer (some ⟨b, i, none⟩), .int .i64 lim] w.drew (StandOn F s0 w0 b A K C sF mF ts) := by
  obtain ⟨s, c, m, h1, h2, h3, h4⟩ := Stand.drew hF h
  refine Stand.did h1 h2 h3 h4 rfl rfl hi h0 ?_
  obtain ⟨cs, k1, k2, k3, _⟩ := h1.blk
  have hs := okRow_scalar hi 0 (by simp)
  obtain ⟨n, hn⟩ := (okRow_fits hi h1.typed).1
  have := hF.text_c s w.drew b i cs _ n lim h1.inv h1.no (by have := h1.room; simp only [Form.runCost, Form.stepCost, List.length_cons, List.length_nil, valsAt, hn, cost, costV] at h3; omega) k2 (by rw [← hn]; exact k3 i hs)
  simpa [valsAt, hn, Form.row, Form.fld, cellsAt, cost, costV] using this
theorem Stand.rowC' (h : Stand F s0 w0 b A K C sF mF (.row i fs :: ts) w) (hF : F.Good) (hr : F.room s0 + C ≤ cap) {k : FuncId} (hk : RowC k fs) (hi : okRow i fs = true) (h0 : 0 < i) :
    Calls Try.prog k #[.iface F.ty F.v, .pointer (some ⟨b, i, none⟩)] w (StandOn F s0 w0 b A K C sF mF ts) := by
  obtain ⟨s, c, m, h1, h2, h3, h4⟩ := h
  refine Stand.did h1 h2 h3 h4 rfl rfl hi h0 ?_
  obtain ⟨cs, k1, k2, k3, _⟩ := h1.blk
  refine hk F hF s w b i cs _ _ h1.inv h1.no (by have := h1.room; simp only [Form.runCost, Form.stepCost] at h3; omega) k2 (fun j v hj => ?_) (okRow_fits hi h1.typed)
  have hjl : j < fs.length := by have := (List.getElem?_eq_some_iff.1 hj).1; rwa [valsAt_length] at this
  rw [valsAt_get _ _ _ _ _ hj]
  exact k3 _ (okRow_scalar hi j hjl)
theorem Stand.rowC (h : Stand F s0 w0 b A K C sF mF (.row i fs :: ts) w) (hF : F.Good) (hr : F.room s0 + C ≤ cap) {k : FuncId} (hk : RowC k fs) (hi : okRow i fs = true) (h0 : 0 < i) :
    Calls Try.prog k #[.iface F.ty F.v, .pointer (some ⟨b, i, none⟩)] w.drew (StandOn F s0 w0 b A K C sF mF ts) := Stand.rowC' (Stand.drew hF h) hF hr hk hi h0
theorem Stand.lst (h : Stand F s0 w0 b A K C sF mF (.lst j fs n :: ts) w) (hF : F.Good) (hr : F.room s0 + C ≤ cap) {k kc : FuncId} {mi : Int} (hC : ListC k kc fs n mi) (hm : n ≤ 64) (hj : (j, fs) ∈ lists) {g : Nat} (hg : ¬ F.own w0.heap g) (hgb : g ≠ b) (hgA : ¬ A g) (cg : w0.cell? ⟨g, 0, none⟩ = some (.iface F.ty F.v)) :
    Calls Try.prog k #[.iface F.ty F.v, .pointer (some ⟨b, j, none⟩), .int .i64 mi, .func (.func kc) #[] #[.pointer (some ⟨g, 0, none⟩)]] w.drew (StandOn F s0 w0 b A K C sF mF ts) := by
  obtain ⟨s, c, m, h1, h2, h3, h4⟩ := Stand.drew hF h
  simp only [Form.runCost, Form.stepCost] at h3
  refine (h1.lst hF hC hm hj hg hgb hgA cg (by omega)).mono ?_
  rintro e w' ⟨rfl, hS⟩
  refine ⟨rfl, _, _, _, hS, h2, ?_, ?_⟩
  · rw [← h3]; simp only [Form.step]; omega
  · rw [← h4]; rfl
theorem Stand.cell (h : Stand F s0 w0 b A K C sF mF ts w) {g : Nat} {v : Value} (hg : ¬ F.own w0.heap g) (hgb : g ≠ b) (hgA : ¬ A g) (cg : w0.cell? ⟨g, 0, none⟩ = some v) : w.cell? ⟨g, 0, none⟩ = some v := by
  obtain ⟨s, c, m, h1, _⟩ := h
  refine h1.only.cell cg ?_
  rintro (hs | hs | hs)
  · exact hg hs
  · exact hgb hs
  · exact hgA hs

/-- The function k hands over ts of the message. -/
def WholeC (k : FuncId) (ts : List Step) (KP : Value → Prop) : Prop :=
  ∀ (F : Form), F.Good → ∀ (s : F.σ) (w : World) (b : Nat) (A : Nat → Prop) (m : M), (∀ k, A k → k < w.heap.size) → MAt F s w b A s 0 m w → KP (m.c 0) → F.room s + F.runCost s m ts ≤ cap →
    Calls Try.prog k #[.iface F.ty F.v, .pointer (some ⟨b, 0, none⟩)] w (MOn F s w b A (F.run s m ts).1 (F.runCost s m ts) (F.run s m ts).2)
end Go.Proofs.Ytcbehfbfaonanaa.Wr
end

/- A message's walks: who, head, fault. -/
section
namespace Go.Proofs.Ytcbehfbfaonanaa.Wr
open Go.RowKit Go.Proofs.YtcbehfbfaonanaaW.PrintWords Go.Proofs.YtcbehfbfaonanaaW.PrintLast Go.Proofs.YtcbehfbfaonanaaW.PrintMore Go.Proofs.Ytcbehfbfaonanaa.Pk
set_option linter.unusedVariables false
set_option linter.unusedSimpArgs false

def whoS : List Step := [.row 14 [.num 0 9007199254740992], .row 15 [.num 0 9007199254740992]]
set_option maxRecDepth 100000 in
set_option maxHeartbeats 2000000 in
theorem who_c : WholeC 70 whoS (fun _ => True) := by
  intro F hF s w b A m hAl h _ hr
  have hmf : ∀ (fn : Fn) (first cap : Array Value) (w : World), (Instr.makeFunc fn first cap).run Try.prog w = .ok (.func fn first cap) w := fun _ _ _ _ => rfl
  have HA := hF.ahead 0 "meridian/wire.num" (by decide) rfl
  have HM := hF.method 0 "meridian/wire.num" (by decide) rfl
  have HE := hF.enter 0 (by decide)
  have S0 := Aside0.mk (Stand.start h whoS)
  have HR := Aside0.mk hr
  have HG := Aside0.mk hF
  generalize (F.run s m whoS).1 = sF at *
  generalize (F.run s m whoS).2 = mF at *
  generalize F.runCost s m whoS = C at *
  generalize m.c 0 = K at *
  clear h hr hF
  have C1 := Aside0.mk (S0.out.num HG.out HR.out rfl (by omega))
  go_enter Try.func70, Try.ntmps70
  go_wp2
  go_region_held3 (fun _ => True) (trivial) (((with_reducible refine C1.out.mono ?_); rintro e w1 ⟨rfl, H⟩; have S1 := Aside0.mk H; clear H))
  have C2 := Aside0.mk (S1.out.num HG.out HR.out rfl (by omega))
  go_wp2
  go_region_held3 (fun _ => True) (trivial) (((with_reducible refine C2.out.mono ?_); rintro e w2 ⟨rfl, H⟩; have S2 := Aside0.mk H; clear H))
  go_wp2
  go_end0
  exact S2.out.done

def headS (n : Int) : List Step := if n = 4 then [] else if n = 6 then [.row 2 [.num 0 64]] else [.row 1 [.num 0 4], .row 2 [.num 0 64]]
set_option maxRecDepth 100000 in
set_option maxHeartbeats 2000000 in
theorem head_c (n : Int) : WholeC 40 (headS n) (fun v => v = .int .i64 n) := by
  intro F hF s w b A m hAl h hK hr
  have hmf : ∀ (fn : Fn) (first cap : Array Value) (w : World), (Instr.makeFunc fn first cap).run Try.prog w = .ok (.func fn first cap) w := fun _ _ _ _ => rfl
  have HA := hF.ahead 0 "meridian/wire.num" (by decide) rfl
  have HM := hF.method 0 "meridian/wire.num" (by decide) rfl
  have HE := hF.enter 0 (by decide)
  have S0 := Aside0.mk (Stand.start h (headS n))
  have HR := Aside0.mk hr
  have HG := Aside0.mk hF
  generalize (F.run s m (headS n)).1 = sF at *
  generalize (F.run s m (headS n)).2 = mF at *
  generalize F.runCost s m (headS n) = C at *
  rw [hK] at S0
  have ck := S0.out.kind
  clear h hr hF hK
  by_cases h4 : n = 4
  · subst h4
    have S0' := Aside0.mk (show Stand F s w b A (.int .i64 4) C sF mF [] w from S0.out)
    go_enter Try.func40, Try.ntmps40
    go_wp2
    go_end0
    exact S0'.out.done
  · have t4 : (n == 4) = false := by simpa using h4
    by_cases h6 : n = 6
    · subst h6
      have S0' := Aside0.mk (show Stand F s w b A (.int .i64 6) C sF mF [.row 2 [.num 0 64]] w from S0.out)
      have C1 := Aside0.mk (S0'.out.num HG.out HR.out rfl (by omega))
      go_enter Try.func40, Try.ntmps40
      go_wp2
      go_region_held3 (fun _ => True) (trivial) (((with_reducible refine C1.out.mono ?_); rintro e w1 ⟨rfl, H⟩; have S1 := Aside0.mk H; clear H))
      go_wp2
      go_end0
      exact S1.out.done
    · have t6 : (n != 6) = true := by simpa using h6
      have e : headS n = [.row 1 [.num 0 4], .row 2 [.num 0 64]] := by unfold headS; rw [if_neg h4, if_neg h6]
      rw [e] at S0
      have C1 := Aside0.mk (S0.out.num HG.out HR.out rfl (by omega))
      clear e
      go_enter Try.func40, Try.ntmps40
      go_wp2
      go_region_held3 (fun _ => True) (trivial) (((with_reducible refine C1.out.mono ?_); rintro e w1 ⟨rfl, H⟩; have S1 := Aside0.mk H; clear H))
      have C2 := Aside0.mk (S1.out.num HG.out HR.out rfl (by omega))
      go_wp2
      go_region_held3 (fun _ => True) (trivial) (((with_reducible refine C2.out.mono ?_); rintro e w2 ⟨rfl, H⟩; have S2 := Aside0.mk H; clear H))
      go_wp2
      go_end0
      exact S2.out.done
end Go.Proofs.Ytcbehfbfaonanaa.Wr
end

/- A message's walks: fault; the box that a form is caught in; part. -/
section
namespace Go.Proofs.Ytcbehfbfaonanaa.Wr
open Go.RowKit Go.Proofs.YtcbehfbfaonanaaW.PrintWords Go.Proofs.YtcbehfbfaonanaaW.PrintLast Go.Proofs.YtcbehfbfaonanaaW.PrintMore Go.Proofs.Ytcbehfbfaonanaa.Pk
set_option linter.unusedVariables false
set_option linter.unusedSimpArgs false

theorem MAt.alloc {F : Form} (hF : F.Good) {s : F.σ} {w : World} {b : Nat} {A : Nat → Prop} {m : M} (h : MAt F s w b A s 0 m w) (o : Obj) : MAt F s (w.alloc o) b A s 0 m (w.alloc o) := by
  obtain ⟨cs, h1, h2, h3, h4⟩ := h.blk
  have hom : ∀ k, F.own (w.alloc o).heap k → F.own w.heap k := hF.own_move h.inv (fun k hk => Below.heap_alloc w o k (hF.lt h.inv hk))
  refine ⟨hF.move h.inv (fun k hk => Below.heap_alloc w o k (hF.lt h.inv hk)) (by rw [World.size_alloc]; omega), fun k hk ho => ho, h.room, fun ho => h.no (hom b ho), Only.refl _ _, h.typed, cs, h1, (Below.heap_alloc w o b (blk_lt h2)).trans h2, h3, fun j fs hj => ?_⟩
  obtain ⟨hf, sv, g1, g2, g3⟩ := h4 j fs hj
  refine ⟨hf, sv, g1, g2.move (fun k hk h0 => Below.heap_alloc w o k (g2.lt hk h0)), fun k hk h0 => ⟨(g3 k hk h0).1, fun ho => (g3 k hk h0).2.1 (hom k ho), ?_, (g3 k hk h0).2.2.2⟩⟩
  rcases (g3 k hk h0).2.2.1 with hA | hA
  · exact .inl hA
  · have := g2.lt hk h0; omega
theorem alloc_own {F : Form} (hF : F.Good) {s : F.σ} {w : World} (hI : F.Inv s w) (o : Obj) : ∀ k, F.own (w.alloc o).heap k → F.own w.heap k := hF.own_move hI (fun k hk => Below.heap_alloc w o k (hF.lt hI hk))
theorem MOn.unalloc {F : Form} (hF : F.Good) {s s' : F.σ} {w w' : World} {b : Nat} {A : Nat → Prop} {c : Nat} {m : M} {o : Obj} {e : Ending} (hI : F.Inv s w) (h : MOn F s (w.alloc o) b A s' c m e w') : MOn F s w b A s' c m e w' := by
  obtain ⟨rfl, h⟩ := h
  obtain ⟨cs, h1, h2, h3, h4⟩ := h.blk
  refine ⟨rfl, h.inv, fun k hk ho => alloc_own hF hI o k (h.own k (by rw [World.size_alloc]; omega) ho), h.room, h.no, ((Only.refl _ w).alloc o).trans h.only (fun i _ hs => hs.imp (alloc_own hF hI o i) id), h.typed, cs, h1, h2, h3, fun j fs hj => ?_⟩
  obtain ⟨hf, sv, g1, g2, g3⟩ := h4 j fs hj
  refine ⟨hf, sv, g1, g2, fun k hk h0 => ⟨(g3 k hk h0).1, (g3 k hk h0).2.1, ?_, (g3 k hk h0).2.2.2⟩⟩
  rcases (g3 k hk h0).2.2.1 with hA | hA
  · exact .inl hA
  · rw [World.size_alloc] at hA; exact .inr (by omega)

def faultS : List Step := [.row 21 [.num 0 15]]
theorem Stepped.fault {F : Form} (hF : F.Good) {s s' : F.σ} {w w2 : World} {b : Nat} {u v : Value} {o : Obj} (hI : F.Inv s w) (hb : b < w.heap.size) (hbo : ¬ F.own w.heap b)
    (h : Stepped F s s' [(⟨w.heap.size, 0, none⟩, u)] 8 (w.alloc o) w2) : Stepped F s s' [(⟨b, 21, none⟩, v)] 8 w (w2.setCell ⟨b, 21, none⟩ v) := by
  have hs : w.heap.size + 1 ≤ w2.heap.size := by have := h.wrote.size; rwa [World.size_alloc] at this
  refine ⟨hF.move h.inv (fun k hk => Below.heap_setCell _ _ _ _ (fun e => hbo (alloc_own hF hI o b (h.own b (by rw [World.size_alloc]; omega) (by have e' : k = b := e; rwa [e'] at hk))))) (by rw [World.size_setCell]; omega), fun k hk ho => alloc_own hF hI o k (h.own k (by rw [World.size_alloc]; omega) (hF.own_move h.inv (fun k hk => Below.heap_setCell _ _ _ _ (fun e => hbo (alloc_own hF hI o b (h.own b (by rw [World.size_alloc]; omega) (by have e' : k = b := e; rwa [e'] at hk))))) k ho)), ?_, h.room⟩
  refine ⟨h.wrote.os, h.wrote.tape, h.wrote.output, by rw [World.size_setCell]; omega, fun k hk hn => setCell_congr ?_ _ _⟩
  rw [h.wrote.far (by rw [World.size_alloc]; omega) (fun ho => hn (alloc_own hF hI o k ho)) (fun p hp => by simp only [List.mem_singleton] at hp; subst hp; simp only; omega)]
  exact Below.heap_alloc w o k hk
set_option maxRecDepth 100000 in
set_option maxHeartbeats 2000000 in
theorem fault_c : WholeC 71 faultS (fun _ => True) := by
  intro F hF s w b A m hAl h _ hr
  have HM := hF.method 0 "meridian/wire.num" (by decide) rfl
  have HE := hF.enter 0 (by decide)
  obtain ⟨n, hn⟩ : ∃ n, m.c 21 = .int .i64 n := h.typed 21 rfl
  obtain ⟨cs, h1, h2, h3, h4⟩ := h.blk
  have hbl := blk_lt h2
  have ck : w.cell? ⟨b, 21, none⟩ = some (.int .i64 n) := (h.kind (i := 21) rfl).1.trans (by rw [hn])
  have fk : w.frozen? ⟨b, 21, none⟩ = false := (h.kind (i := 21) rfl).2
  have C := Aside0.mk (hF.num_c s (w.alloc (.cells #[.int .i64 n] 3)) w.heap.size 0 #[.int .i64 n] 3 n 0 15 (hF.move h.inv (fun k hk => Below.heap_alloc w _ k (hF.lt h.inv hk)) (by rw [World.size_alloc]; omega)) (fun ho => absurd (hF.lt h.inv (alloc_own hF h.inv _ _ ho)) (Nat.lt_irrefl _)) (by have := h.room; simp only [Form.runCost, Form.stepCost, faultS, List.length_cons, List.length_nil, valsAt, hn, cost, costV] at hr; omega) (alloc_new w _) rfl)
  have HN := Aside0.mk hn
  have HH := Aside0.mk h
  have HG := Aside0.mk hF
  have HB := Aside0.mk h2
  clear h hr hF h1 h2 h3 h4 hn hAl
  go_enter Try.func71, Try.ntmps71
  go_wp2_with ((with_reducible refine C.out.mono ?_); rintro e w2 ⟨rfl, H⟩; have c2 : w2.cell? ⟨w.heap.size, 0, none⟩ = some (.int .i64 (F.num s n 0 15).2) := (World.cell?_of_block (w := setAll (w.alloc (.cells #[.int .i64 n] 3)) [(⟨w.heap.size, 0, none⟩, .int .i64 (F.num s n 0 15).2)]) (a := ⟨w.heap.size, 0, none⟩) (H.wrote.block w.heap.size (by rw [World.size_alloc]; omega) (fun ho => absurd (HG.out.lt HH.out.inv (alloc_own HG.out HH.out.inv _ _ ho)) (Nat.lt_irrefl _)))).trans (World.cell?_setCell_same _ _ _ (show (w.alloc (.cells #[.int .i64 n] 3)).cell? ⟨w.heap.size, 0, none⟩ = some (.int .i64 n) by rw [World.cell?_alloc_at _ _ _ _ rfl]; rfl)); have hb2 : w2.heap[b]? = w.heap[b]? := (H.wrote.far (by rw [World.size_alloc]; omega) (fun ho => HH.out.no (alloc_own HG.out HH.out.inv _ _ ho)) (fun p hp => by simp only [List.mem_singleton] at hp; subst hp; simp only; omega)).trans (Below.heap_alloc w _ b hbl); have cb2 := (World.cell?_of_block (w := w) (a := ⟨b, 21, none⟩) hb2).trans ck; have fb2 := blk_frozen (hb2.trans HB.out) 21; have HS := Aside0.mk H; clear H hb2)
  go_end0
  have HR := HH.out.rowDid (i := 21) (fs := [.num 0 15]) rfl (d := 8) (w1 := w2.setCell ⟨b, 21, none⟩ (.int .i64 (F.num s n 0 15).2)) (by
    have := Stepped.fault (v := .int .i64 (F.num s n 0 15).2) HG.out HH.out.inv hbl HH.out.no HS.out
    simpa [valsAt, HN.out, Form.row, Form.fld, cellsAt] using this)
  refine ⟨rfl, ?_⟩
  simpa [faultS, Form.run, Form.step, Form.runCost, Form.stepCost, valsAt, HN.out, cost, costV] using HR
end Go.Proofs.Ytcbehfbfaonanaa.Wr
end

/- A message's walks: a function for the whole message called in the midst; part. -/
section
namespace Go.Proofs.Ytcbehfbfaonanaa.Wr
open Go.RowKit Go.Proofs.YtcbehfbfaonanaaW.PrintWords Go.Proofs.YtcbehfbfaonanaaW.PrintLast Go.Proofs.YtcbehfbfaonanaaW.PrintMore Go.Proofs.Ytcbehfbfaonanaa.Pk
set_option linter.unusedVariables false
set_option linter.unusedSimpArgs false

def Step.pos : Step → Bool
  | .row i _ => decide (0 < i)
  | _ => true
theorem run_c0 (F : Form) : ∀ (ts : List Step) (s : F.σ) (m : M), ts.all Step.pos = true → (F.run s m ts).2.c 0 = m.c 0
  | [], s, m, _ => rfl
  | t :: ts, s, m, h => by
    simp only [List.all_cons, Bool.and_eq_true] at h
    refine (run_c0 F ts _ _ h.2).trans ?_
    cases t with
    | row i fs => exact rowM_c0 (by simpa [Step.pos] using h.1)
    | most => exact rowM_c0 (by omega)
    | lst j fs n => rfl
variable {F : Form} {s0 s sF : F.σ} {w0 w : World} {b : Nat} {A : Nat → Prop} {K : Value} {c C : Nat} {m mF : M} {ts us : List Step}
theorem Stand.whole' {KP : Value → Prop} {k : FuncId} (hk : WholeC k ts KP) (h : Stand F s0 w0 b A K C sF mF (ts ++ us) w) (hF : F.Good) (hr : F.room s0 + C ≤ cap) (hKP : KP K) (hp : ts.all Step.pos = true) :
    Calls Try.prog k #[.iface F.ty F.v, .pointer (some ⟨b, 0, none⟩)] w (StandOn F s0 w0 b A K C sF mF us) := by
  obtain ⟨s, c, m, h1, h2, h3, h4⟩ := h
  rw [runCost_append] at h3
  rw [run_append] at h4
  obtain ⟨cs, q1, q2, q3, q4⟩ := h1.blk
  have hA : MAt F s w b (fun k => (A k ∨ w0.heap.size ≤ k) ∧ k < w.heap.size) s 0 m w := by
    refine ⟨h1.inv, fun _ _ h => h, by omega, h1.no, Only.refl _ _, h1.typed, cs, q1, q2, q3, fun j fs hj => ?_⟩
    obtain ⟨hf, sv, g1, g2, g3⟩ := q4 j fs hj
    exact ⟨hf, sv, g1, g2, fun k hk h0 => ⟨(g3 k hk h0).1, (g3 k hk h0).2.1, .inl ⟨(g3 k hk h0).2.2.1, g2.lt hk h0⟩, (g3 k hk h0).2.2.2⟩⟩
  refine (hk F hF s w b _ m (fun k h => h.2) hA (h2 ▸ hKP) (by have := h1.room; omega)).mono ?_
  rintro e w' ⟨rfl, hS⟩
  refine ⟨rfl, _, c + F.runCost s m ts, _, ?_, (run_c0 F ts s m hp).trans h2, by omega, h4⟩
  obtain ⟨cs', r1, r2, r3, r4⟩ := hS.blk
  refine ⟨hS.inv, fun q hq ho => h1.own q hq (hS.own q (Nat.lt_of_lt_of_le hq h1.only.size) ho), by have := h1.room; have := hS.room; omega, hS.no, h1.only.trans hS.only ?_, hS.typed, cs', r1, r2, r3, fun j fs hj => ?_⟩
  · intro i hi hs
    rcases hs with hs | hs | hs
    · exact .inl (h1.own i hi hs)
    · exact .inr (.inl hs)
    · rcases hs.1 with ha | ha
      · exact .inr (.inr ha)
      · omega
  · obtain ⟨hf, sv, g1, g2, g3⟩ := r4 j fs hj
    refine ⟨hf, sv, g1, g2, fun k hk h0 => ⟨(g3 k hk h0).1, (g3 k hk h0).2.1, ?_, (g3 k hk h0).2.2.2⟩⟩
    rcases (g3 k hk h0).2.2.1 with hA | hA
    · exact hA.1
    · exact .inr (Nat.le_trans h1.only.size hA)
theorem Stand.most (h : Stand F s0 w0 b A K C sF mF (.most :: ts) w) : ∃ x : Int, w.cell? ⟨b, 6, none⟩ = some (.int .i64 x) ∧ (F.Good → F.room s0 + C ≤ cap →
    Calls Try.prog (F.k 0) #[F.v, .pointer (some ⟨b, 7, none⟩), .int .i64 (if 1 < x then x else 1), .int .i64 128] w.drew (fun e w' => e = .returned (.tuple #[]) ∧ Stand F s0 w0 b A K C sF mF ts w' ∧ w'.cell? ⟨b, 6, none⟩ = some (.int .i64 x))) := by
  obtain ⟨s, c, m, h1, h2, h3, h4⟩ := h
  obtain ⟨x, hx⟩ := h1.typed 6 rfl
  refine ⟨x, by rw [← hx]; exact (h1.kind rfl).1, fun hF hr => ?_⟩
  obtain ⟨y, hy⟩ := h1.typed 7 rfl
  have h1' := h1.drew hF
  obtain ⟨cs, k1, k2, k3, _⟩ := h1'.blk
  have := hF.num_c s w.drew b 7 cs _ y (if 1 < x then x else 1) 128 h1'.inv h1'.no (by have := h1'.room; simp only [Form.runCost, Form.stepCost] at h3; omega) k2 (by rw [← hy]; exact k3 7 rfl)
  refine this.mono ?_
  rintro e w' ⟨rfl, hS⟩
  have hR := h1'.rowDid (i := 7) (fs := [.num (if 1 < x then x else 1) 128]) rfl (d := 8) (w1 := w') (by simpa [valsAt, hy, Form.row, Form.fld, cellsAt] using hS)
  refine ⟨rfl, ⟨_, _, _, hR, (rowM_c0 (by omega)).trans h2, ?_, ?_⟩, ?_⟩
  · rw [← h3]; simp only [Form.runCost, Form.stepCost, Form.step, hx, maxOf]; omega
  · rw [← h4]; simp only [Form.run, Form.step, hx, maxOf]
  · rw [(hR.kind (i := 6) rfl).1]
    simp only [Form.rowM, putAt]
    rw [if_neg (by omega), hx]

def partS : List Step := [.row 4 posF, .row 6 [.num 1 128], .most, .lst 8 pairF 8, .lst 9 seenF 8]
set_option maxRecDepth 100000 in
set_option maxHeartbeats 4000000 in
theorem part_c : WholeC 67 partS (fun _ => True) := by
  intro F hF s w b A m hAl h _ hr
  have hmf : ∀ (fn : Fn) (first cap : Array Value) (w : World), (Instr.makeFunc fn first cap).run Try.prog w = .ok (.func fn first cap) w := fun _ _ _ _ => rfl
  have HA := hF.ahead 0 "meridian/wire.num" (by decide) rfl
  have HM := hF.method 0 "meridian/wire.num" (by decide) rfl
  have HE := hF.enter 0 (by decide)
  obtain ⟨cs0, hb0⟩ : ∃ cs0, w.heap[b]? = some (.cells cs0 35 (0, 0)) := let ⟨cs, _, h2, _⟩ := h.blk; ⟨cs, h2⟩
  have HGb := Aside0.mk (show w.heap.size ≠ b from fun e => by have := blk_lt hb0; omega)
  have HGA := Aside0.mk (show ¬ A w.heap.size from fun e => by have := hAl _ e; omega)
  have HGo := Aside0.mk (show ¬ F.own (w.alloc (.cells #[.iface F.ty F.v] 114)).heap w.heap.size from fun e => by have := hF.lt h.inv (alloc_own hF h.inv _ _ e); omega)
  have cg0 : (w.alloc (.cells #[.iface F.ty F.v] 114)).cell? ⟨w.heap.size, 0, none⟩ = some (.iface F.ty F.v) := by rw [World.cell?_alloc_at _ _ _ _ rfl]; rfl
  have S0 := Aside0.mk (Stand.start (h.alloc hF (.cells #[.iface F.ty F.v] 114)) partS)
  have HCg := Aside0.mk cg0
  have HR := Aside0.mk hr
  have HG := Aside0.mk hF
  suffices hsuf : Calls Try.prog 67 #[.iface F.ty F.v, .pointer (some ⟨b, 0, none⟩)] w (MOn F s (w.alloc (.cells #[.iface F.ty F.v] 114)) b A (F.run s m partS).1 (F.runCost s m partS) (F.run s m partS).2) from hsuf.mono (fun e w' H => H.unalloc hF h.inv)
  generalize (F.run s m partS).1 = sF at *
  generalize (F.run s m partS).2 = mF at *
  generalize F.runCost s m partS = C at *
  generalize m.c 0 = K at *
  clear h hr hF hAl hb0 cs0
  have C1 := Aside0.mk (S0.out.rowC HG.out HR.out pos_c rfl (by omega))
  go_enter Try.func67, Try.ntmps67
  go_wp2
  go_region_held3 (fun W => W.cell? ⟨w.heap.size, 0, none⟩ = some (.iface F.ty F.v)) (go_keep) (((with_reducible refine C1.out.mono ?_); rintro e w1 ⟨rfl, H⟩; have cg1 := H.cell HGo.out HGb.out HGA.out HCg.out; have S1 := Aside0.mk H; clear H))
  have C2 := Aside0.mk (S1.out.num HG.out HR.out rfl (by omega))
  go_wp2
  go_region_held3 (fun W => W.cell? ⟨w.heap.size, 0, none⟩ = some (.iface F.ty F.v)) (go_keep) (((with_reducible refine C2.out.mono ?_); rintro e w2 ⟨rfl, H⟩; have cg2 := H.cell HGo.out HGb.out HGA.out HCg.out; have S2 := Aside0.mk H; clear H))
  obtain ⟨x, cx, CM⟩ := S2.out.most
  have C3t := CM HG.out HR.out
  obtain ⟨y, hy⟩ : ∃ y : Int, (if 1 < x then x else 1) = y := ⟨_, rfl⟩
  rw [hy] at C3t
  have C3 := Aside0.mk C3t
  clear C3t
  have cx' : w2.drew.cell? ⟨b, 6, none⟩ = some (.int .i64 x) := cx
  clear CM
  go_wp2
  go_region_held3 (fun W => W.cell? ⟨w.heap.size, 0, none⟩ = some (.iface F.ty F.v) ∧ W.cell? ⟨b, 6, none⟩ = some (.int .i64 x)) (go_keep) (((with_reducible refine C3.out.mono ?_); rintro e w3 ⟨rfl, H, cx3⟩; have cg3 := H.cell HGo.out HGb.out HGA.out HCg.out; have S3 := Aside0.mk H; clear H))
  all_goals
    have C4 := Aside0.mk (S3.out.lst HG.out HR.out listP_c (by omega) (by simp [lists]) HGo.out HGb.out HGA.out HCg.out)
    go_wp2
    go_region_held3 (fun W => W.cell? ⟨w.heap.size, 0, none⟩ = some (.iface F.ty F.v)) (go_keep) (((with_reducible refine C4.out.mono ?_); rintro e w4 ⟨rfl, H⟩; have cg4 := H.cell HGo.out HGb.out HGA.out HCg.out; have S4 := Aside0.mk H; clear H))
    have C5 := Aside0.mk (S4.out.lst HG.out HR.out listS_c (by omega) (by simp [lists]) HGo.out HGb.out HGA.out HCg.out)
    go_wp2
    go_region_held3 (fun W => W.cell? ⟨w.heap.size, 0, none⟩ = some (.iface F.ty F.v)) (go_keep) (((with_reducible refine C5.out.mono ?_); rintro e w5 ⟨rfl, H⟩; have cg5 := H.cell HGo.out HGb.out HGA.out HCg.out; have S5 := Aside0.mk H; clear H))
    go_wp2
    go_end0
    exact S5.out.done
end Go.Proofs.Ytcbehfbfaonanaa.Wr
end

/- A message's walks: fields, kind by kind (printed by genfields.py). -/
section
namespace Go.Proofs.Ytcbehfbfaonanaa.Wr
open Go.RowKit Go.Proofs.YtcbehfbfaonanaaW.PrintWords Go.Proofs.YtcbehfbfaonanaaW.PrintLast Go.Proofs.YtcbehfbfaonanaaW.PrintMore Go.Proofs.Ytcbehfbfaonanaa.Pk
set_option linter.unusedVariables false
set_option linter.unusedSimpArgs false

def fieldsS (n : Int) : List Step :=
  if n = 1 then [.lst 3 entryF 8] else if n = 2 then [.row 11 posF] else if n = 3 then partS ++ [] else if n = 4 then [.lst 10 epochF 64] else if n = 5 then [.row 11 posF, .row 13 [.flag]]
  else if n = 7 then whoS ++ [.row 16 [.text 64], .row 19 posF] else if n = 8 then whoS ++ [.row 16 [.text 64], .row 17 [.flag], .row 18 [.text 1024], .row 19 posF]
  else if n = 9 then whoS ++ (faultS ++ [.row 22 valueF, .row 11 posF, .row 19 posF]) else if n = 10 then whoS ++ (faultS ++ [.row 4 posF, .row 19 posF]) else []

set_option maxRecDepth 100000 in
set_option maxHeartbeats 8000000 in
theorem fields1_c : WholeC 41 (fieldsS 1) (fun v => v = .int .i64 1) := by
  intro F hF s w b A m hAl h hK hr
  have hmf : ∀ (fn : Fn) (first cap : Array Value) (w : World), (Instr.makeFunc fn first cap).run Try.prog w = .ok (.func fn first cap) w := fun _ _ _ _ => rfl
  obtain ⟨cs0, hb0⟩ : ∃ cs0, w.heap[b]? = some (.cells cs0 35 (0, 0)) := let ⟨cs, _, h2, _⟩ := h.blk; ⟨cs, h2⟩
  have HGb := Aside0.mk (show w.heap.size ≠ b from fun e => by have := blk_lt hb0; omega)
  have HGA := Aside0.mk (show ¬ A w.heap.size from fun e => by have := hAl _ e; omega)
  have HGo := Aside0.mk (show ¬ F.own (w.alloc (.cells #[.iface F.ty F.v] 114)).heap w.heap.size from fun e => by have := hF.lt h.inv (alloc_own hF h.inv _ _ e); omega)
  have cg0 : (w.alloc (.cells #[.iface F.ty F.v] 114)).cell? ⟨w.heap.size, 0, none⟩ = some (.iface F.ty F.v) := by rw [World.cell?_alloc_at _ _ _ _ rfl]; rfl
  have S0 := Aside0.mk (Stand.start (h.alloc hF (.cells #[.iface F.ty F.v] 114)) (fieldsS 1))
  rw [hK] at S0
  have HCg := Aside0.mk cg0
  have HR := Aside0.mk hr
  have HG := Aside0.mk hF
  have ck0 := S0.out.kind
  have HBl := Aside0.mk (blk_lt hb0)
  have ck00 : w.cell? ⟨b, 0, none⟩ = some (.int .i64 1) := ((World.cell?_alloc_past _ _ _ HBl.out).symm.trans ck0)
  suffices hsuf : Calls Try.prog 41 #[.iface F.ty F.v, .pointer (some ⟨b, 0, none⟩)] w (MOn F s (w.alloc (.cells #[.iface F.ty F.v] 114)) b A (F.run s m (fieldsS 1)).1 (F.runCost s m (fieldsS 1)) (F.run s m (fieldsS 1)).2) from hsuf.mono (fun e w' H => H.unalloc hF h.inv)
  generalize (F.run s m (fieldsS 1)).1 = sF at *
  generalize (F.run s m (fieldsS 1)).2 = mF at *
  generalize F.runCost s m (fieldsS 1) = C at *
  clear h hr hF hAl hb0 cs0 hK
  have S0 := Aside0.mk (show Stand F s (w.alloc (.cells #[.iface F.ty F.v] 114)) b A (.int .i64 1) C sF mF [.lst 3 entryF 8] (w.alloc (.cells #[.iface F.ty F.v] 114)) from S0.out)
  go_enter Try.func41, Try.ntmps41
  have C0 := Aside0.mk (S0.out.lst HG.out HR.out listE_c (by omega) (by simp [lists]) HGo.out HGb.out HGA.out HCg.out)
  go_wp2
  go_region_held3 (fun W => W.cell? ⟨w.heap.size, 0, none⟩ = some (.iface F.ty F.v)) (go_keep) (((with_reducible refine C0.out.mono ?_); rintro e w1 ⟨rfl, H⟩; have cg1 := H.cell HGo.out HGb.out HGA.out HCg.out; have ck1 := H.kind; have S1 := Aside0.mk H; clear H))
  go_wp2
  go_end0
  exact S1.out.done

set_option maxRecDepth 100000 in
set_option maxHeartbeats 8000000 in
theorem fields2_c : WholeC 41 (fieldsS 2) (fun v => v = .int .i64 2) := by
  intro F hF s w b A m hAl h hK hr
  have hmf : ∀ (fn : Fn) (first cap : Array Value) (w : World), (Instr.makeFunc fn first cap).run Try.prog w = .ok (.func fn first cap) w := fun _ _ _ _ => rfl
  obtain ⟨cs0, hb0⟩ : ∃ cs0, w.heap[b]? = some (.cells cs0 35 (0, 0)) := let ⟨cs, _, h2, _⟩ := h.blk; ⟨cs, h2⟩
  have HGb := Aside0.mk (show w.heap.size ≠ b from fun e => by have := blk_lt hb0; omega)
  have HGA := Aside0.mk (show ¬ A w.heap.size from fun e => by have := hAl _ e; omega)
  have HGo := Aside0.mk (show ¬ F.own (w.alloc (.cells #[.iface F.ty F.v] 114)).heap w.heap.size from fun e => by have := hF.lt h.inv (alloc_own hF h.inv _ _ e); omega)
  have cg0 : (w.alloc (.cells #[.iface F.ty F.v] 114)).cell? ⟨w.heap.size, 0, none⟩ = some (.iface F.ty F.v) := by rw [World.cell?_alloc_at _ _ _ _ rfl]; rfl
  have S0 := Aside0.mk (Stand.start (h.alloc hF (.cells #[.iface F.ty F.v] 114)) (fieldsS 2))
  rw [hK] at S0
  have HCg := Aside0.mk cg0
  have HR := Aside0.mk hr
  have HG := Aside0.mk hF
  have ck0 := S0.out.kind
  have HBl := Aside0.mk (blk_lt hb0)
  have ck00 : w.cell? ⟨b, 0, none⟩ = some (.int .i64 2) := ((World.cell?_alloc_past _ _ _ HBl.out).symm.trans ck0)
  suffices hsuf : Calls Try.prog 41 #[.iface F.ty F.v, .pointer (some ⟨b, 0, none⟩)] w (MOn F s (w.alloc (.cells #[.iface F.ty F.v] 114)) b A (F.run s m (fieldsS 2)).1 (F.runCost s m (fieldsS 2)) (F.run s m (fieldsS 2)).2) from hsuf.mono (fun e w' H => H.unalloc hF h.inv)
  generalize (F.run s m (fieldsS 2)).1 = sF at *
  generalize (F.run s m (fieldsS 2)).2 = mF at *
  generalize F.runCost s m (fieldsS 2) = C at *
  clear h hr hF hAl hb0 cs0 hK
  have S0 := Aside0.mk (show Stand F s (w.alloc (.cells #[.iface F.ty F.v] 114)) b A (.int .i64 2) C sF mF [.row 11 posF] (w.alloc (.cells #[.iface F.ty F.v] 114)) from S0.out)
  go_enter Try.func41, Try.ntmps41
  have C0 := Aside0.mk (S0.out.rowC HG.out HR.out pos_c rfl (by omega))
  go_wp2
  go_region_held3 (fun W => W.cell? ⟨w.heap.size, 0, none⟩ = some (.iface F.ty F.v)) (go_keep) (((with_reducible refine C0.out.mono ?_); rintro e w1 ⟨rfl, H⟩; have cg1 := H.cell HGo.out HGb.out HGA.out HCg.out; have ck1 := H.kind; have S1 := Aside0.mk H; clear H))
  go_wp2
  go_end0
  exact S1.out.done

set_option maxRecDepth 100000 in
set_option maxHeartbeats 8000000 in
theorem fieldsO_c (n : Int) (hn : n < 1 ∨ n = 6 ∨ 10 < n) : WholeC 41 (fieldsS n) (fun v => v = .int .i64 n) := by
  have eS : fieldsS n = [] := by unfold fieldsS; repeat (first | rw [if_neg (by omega)])
  have t1 : (n == 1) = false := by simp; omega
  have t2 : (n == 2) = false := by simp; omega
  have t3 : (n == 3) = false := by simp; omega
  have t4 : (n == 4) = false := by simp; omega
  have t5 : (n == 5) = false := by simp; omega
  have t7 : (n == 7) = false := by simp; omega
  have t8 : (n == 8) = false := by simp; omega
  have t9 : (n == 9) = false := by simp; omega
  have t10 : (n == 10) = false := by simp; omega
  intro F hF s w b A m hAl h hK hr
  have hmf : ∀ (fn : Fn) (first cap : Array Value) (w : World), (Instr.makeFunc fn first cap).run Try.prog w = .ok (.func fn first cap) w := fun _ _ _ _ => rfl
  obtain ⟨cs0, hb0⟩ : ∃ cs0, w.heap[b]? = some (.cells cs0 35 (0, 0)) := let ⟨cs, _, h2, _⟩ := h.blk; ⟨cs, h2⟩
  have HGb := Aside0.mk (show w.heap.size ≠ b from fun e => by have := blk_lt hb0; omega)
  have HGA := Aside0.mk (show ¬ A w.heap.size from fun e => by have := hAl _ e; omega)
  have HGo := Aside0.mk (show ¬ F.own (w.alloc (.cells #[.iface F.ty F.v] 114)).heap w.heap.size from fun e => by have := hF.lt h.inv (alloc_own hF h.inv _ _ e); omega)
  have cg0 : (w.alloc (.cells #[.iface F.ty F.v] 114)).cell? ⟨w.heap.size, 0, none⟩ = some (.iface F.ty F.v) := by rw [World.cell?_alloc_at _ _ _ _ rfl]; rfl
  have S0 := Aside0.mk (Stand.start (h.alloc hF (.cells #[.iface F.ty F.v] 114)) (fieldsS n))
  rw [hK] at S0
  have HCg := Aside0.mk cg0
  have HR := Aside0.mk hr
  have HG := Aside0.mk hF
  have ck0 := S0.out.kind
  have HBl := Aside0.mk (blk_lt hb0)
  have ck00 : w.cell? ⟨b, 0, none⟩ = some (.int .i64 n) := ((World.cell?_alloc_past _ _ _ HBl.out).symm.trans ck0)
  suffices hsuf : Calls Try.prog 41 #[.iface F.ty F.v, .pointer (some ⟨b, 0, none⟩)] w (MOn F s (w.alloc (.cells #[.iface F.ty F.v] 114)) b A (F.run s m (fieldsS n)).1 (F.runCost s m (fieldsS n)) (F.run s m (fieldsS n)).2) from hsuf.mono (fun e w' H => H.unalloc hF h.inv)
  generalize (F.run s m (fieldsS n)).1 = sF at *
  generalize (F.run s m (fieldsS n)).2 = mF at *
  generalize F.runCost s m (fieldsS n) = C at *
  clear h hr hF hAl hb0 cs0 hK
  rw [eS] at S0
  clear eS
  go_enter Try.func41, Try.ntmps41
  go_wp2
  go_end0
  exact S0.out.done

end Go.Proofs.Ytcbehfbfaonanaa.Wr
end

/- A message's walks: fields, kind by kind (printed by genfields.py). -/
section
namespace Go.Proofs.Ytcbehfbfaonanaa.Wr
open Go.RowKit Go.Proofs.YtcbehfbfaonanaaW.PrintWords Go.Proofs.YtcbehfbfaonanaaW.PrintLast Go.Proofs.YtcbehfbfaonanaaW.PrintMore Go.Proofs.Ytcbehfbfaonanaa.Pk
set_option linter.unusedVariables false
set_option linter.unusedSimpArgs false

set_option maxRecDepth 100000 in
set_option maxHeartbeats 8000000 in
theorem fields9_c : WholeC 41 (fieldsS 9) (fun v => v = .int .i64 9) := by
  intro F hF s w b A m hAl h hK hr
  have hmf : ∀ (fn : Fn) (first cap : Array Value) (w : World), (Instr.makeFunc fn first cap).run Try.prog w = .ok (.func fn first cap) w := fun _ _ _ _ => rfl
  obtain ⟨cs0, hb0⟩ : ∃ cs0, w.heap[b]? = some (.cells cs0 35 (0, 0)) := let ⟨cs, _, h2, _⟩ := h.blk; ⟨cs, h2⟩
  have HGb := Aside0.mk (show w.heap.size ≠ b from fun e => by have := blk_lt hb0; omega)
  have HGA := Aside0.mk (show ¬ A w.heap.size from fun e => by have := hAl _ e; omega)
  have HGo := Aside0.mk (show ¬ F.own (w.alloc (.cells #[.iface F.ty F.v] 114)).heap w.heap.size from fun e => by have := hF.lt h.inv (alloc_own hF h.inv _ _ e); omega)
  have cg0 : (w.alloc (.cells #[.iface F.ty F.v] 114)).cell? ⟨w.heap.size, 0, none⟩ = some (.iface F.ty F.v) := by rw [World.cell?_alloc_at _ _ _ _ rfl]; rfl
  have S0 := Aside0.mk (Stand.start (h.alloc hF (.cells #[.iface F.ty F.v] 114)) (fieldsS 9))
  rw [hK] at S0
  have HCg := Aside0.mk cg0
  have HR := Aside0.mk hr
  have HG := Aside0.mk hF
  have ck0 := S0.out.kind
  have HBl := Aside0.mk (blk_lt hb0)
  have ck00 : w.cell? ⟨b, 0, none⟩ = some (.int .i64 9) := ((World.cell?_alloc_past _ _ _ HBl.out).symm.trans ck0)
  suffices hsuf : Calls Try.prog 41 #[.iface F.ty F.v, .pointer (some ⟨b, 0, none⟩)] w (MOn F s (w.alloc (.cells #[.iface F.ty F.v] 114)) b A (F.run s m (fieldsS 9)).1 (F.runCost s m (fieldsS 9)) (F.run s m (fieldsS 9)).2) from hsuf.mono (fun e w' H => H.unalloc hF h.inv)
  generalize (F.run s m (fieldsS 9)).1 = sF at *
  generalize (F.run s m (fieldsS 9)).2 = mF at *
  generalize F.runCost s m (fieldsS 9) = C at *
  clear h hr hF hAl hb0 cs0 hK
  have S0 := Aside0.mk (show Stand F s (w.alloc (.cells #[.iface F.ty F.v] 114)) b A (.int .i64 9) C sF mF (whoS ++ (faultS ++ [.row 22 valueF, .row 11 posF, .row 19 posF])) (w.alloc (.cells #[.iface F.ty F.v] 114)) from S0.out)
  go_enter Try.func41, Try.ntmps41
  have C0 := Aside0.mk (Stand.whole' who_c S0.out HG.out HR.out trivial rfl)
  go_wp2_with (go_at_call 70; (with_reducible refine C0.out.mono ?_); rintro e w1 ⟨rfl, H⟩; have cg1 := H.cell HGo.out HGb.out HGA.out HCg.out; have ck1 := H.kind; have S1 := Aside0.mk H; clear H)
  have C1 := Aside0.mk (Stand.whole' fault_c S1.out HG.out HR.out trivial rfl)
  go_wp2_with (go_at_call 71; (with_reducible refine C1.out.mono ?_); rintro e w2 ⟨rfl, H⟩; have cg2 := H.cell HGo.out HGb.out HGA.out HCg.out; have ck2 := H.kind; have S2 := Aside0.mk H; clear H)
  have C2 := Aside0.mk (S2.out.rowC HG.out HR.out value_c rfl (by omega))
  go_region_held3 (fun W => W.cell? ⟨w.heap.size, 0, none⟩ = some (.iface F.ty F.v)) (go_keep) (((with_reducible refine C2.out.mono ?_); rintro e w3 ⟨rfl, H⟩; have cg3 := H.cell HGo.out HGb.out HGA.out HCg.out; have ck3 := H.kind; have S3 := Aside0.mk H; clear H))
  have C3 := Aside0.mk (S3.out.rowC HG.out HR.out pos_c rfl (by omega))
  go_wp2
  go_region_held3 (fun W => W.cell? ⟨w.heap.size, 0, none⟩ = some (.iface F.ty F.v)) (go_keep) (((with_reducible refine C3.out.mono ?_); rintro e w4 ⟨rfl, H⟩; have cg4 := H.cell HGo.out HGb.out HGA.out HCg.out; have ck4 := H.kind; have S4 := Aside0.mk H; clear H))
  have C4 := Aside0.mk (S4.out.rowC HG.out HR.out pos_c rfl (by omega))
  go_wp2
  go_region_held3 (fun W => W.cell? ⟨w.heap.size, 0, none⟩ = some (.iface F.ty F.v)) (go_keep) (((with_reducible refine C4.out.mono ?_); rintro e w5 ⟨rfl, H⟩; have cg5 := H.cell HGo.out HGb.out HGA.out HCg.out; have ck5 := H.kind; have S5 := Aside0.mk H; clear H))
  go_wp2
  go_end0
  exact S5.out.done

set_option maxRecDepth 100000 in
set_option maxHeartbeats 8000000 in
theorem fields10_c : WholeC 41 (fieldsS 10) (fun v => v = .int .i64 10) := by
  intro F hF s w b A m hAl h hK hr
  have hmf : ∀ (fn : Fn) (first cap : Array Value) (w : World), (Instr.makeFunc fn first cap).run Try.prog w = .ok (.func fn first cap) w := fun _ _ _ _ => rfl
  obtain ⟨cs0, hb0⟩ : ∃ cs0, w.heap[b]? = some (.cells cs0 35 (0, 0)) := let ⟨cs, _, h2, _⟩ := h.blk; ⟨cs, h2⟩
  have HGb := Aside0.mk (show w.heap.size ≠ b from fun e => by have := blk_lt hb0; omega)
  have HGA := Aside0.mk (show ¬ A w.heap.size from fun e => by have := hAl _ e; omega)
  have HGo := Aside0.mk (show ¬ F.own (w.alloc (.cells #[.iface F.ty F.v] 114)).heap w.heap.size from fun e => by have := hF.lt h.inv (alloc_own hF h.inv _ _ e); omega)
  have cg0 : (w.alloc (.cells #[.iface F.ty F.v] 114)).cell? ⟨w.heap.size, 0, none⟩ = some (.iface F.ty F.v) := by rw [World.cell?_alloc_at _ _ _ _ rfl]; rfl
  have S0 := Aside0.mk (Stand.start (h.alloc hF (.cells #[.iface F.ty F.v] 114)) (fieldsS 10))
  rw [hK] at S0
  have HCg := Aside0.mk cg0
  have HR := Aside0.mk hr
  have HG := Aside0.mk hF
  have ck0 := S0.out.kind
  have HBl := Aside0.mk (blk_lt hb0)
  have ck00 : w.cell? ⟨b, 0, none⟩ = some (.int .i64 10) := ((World.cell?_alloc_past _ _ _ HBl.out).symm.trans ck0)
  suffices hsuf : Calls Try.prog 41 #[.iface F.ty F.v, .pointer (some ⟨b, 0, none⟩)] w (MOn F s (w.alloc (.cells #[.iface F.ty F.v] 114)) b A (F.run s m (fieldsS 10)).1 (F.runCost s m (fieldsS 10)) (F.run s m (fieldsS 10)).2) from hsuf.mono (fun e w' H => H.unalloc hF h.inv)
  generalize (F.run s m (fieldsS 10)).1 = sF at *
  generalize (F.run s m (fieldsS 10)).2 = mF at *
  generalize F.runCost s m (fieldsS 10) = C at *
  clear h hr hF hAl hb0 cs0 hK
  have S0 := Aside0.mk (show Stand F s (w.alloc (.cells #[.iface F.ty F.v] 114)) b A (.int .i64 10) C sF mF (whoS ++ (faultS ++ [.row 4 posF, .row 19 posF])) (w.alloc (.cells #[.iface F.ty F.v] 114)) from S0.out)
  go_enter Try.func41, Try.ntmps41
  have C0 := Aside0.mk (Stand.whole' who_c S0.out HG.out HR.out trivial rfl)
  go_wp2_with (go_at_call 70; (with_reducible refine C0.out.mono ?_); rintro e w1 ⟨rfl, H⟩; have cg1 := H.cell HGo.out HGb.out HGA.out HCg.out; have ck1 := H.kind; have S1 := Aside0.mk H; clear H)
  have C1 := Aside0.mk (Stand.whole' fault_c S1.out HG.out HR.out trivial rfl)
  go_wp2_with (go_at_call 71; (with_reducible refine C1.out.mono ?_); rintro e w2 ⟨rfl, H⟩; have cg2 := H.cell HGo.out HGb.out HGA.out HCg.out; have ck2 := H.kind; have S2 := Aside0.mk H; clear H)
  have C2 := Aside0.mk (S2.out.rowC HG.out HR.out pos_c rfl (by omega))
  go_region_held3 (fun W => W.cell? ⟨w.heap.size, 0, none⟩ = some (.iface F.ty F.v)) (go_keep) (((with_reducible refine C2.out.mono ?_); rintro e w3 ⟨rfl, H⟩; have cg3 := H.cell HGo.out HGb.out HGA.out HCg.out; have ck3 := H.kind; have S3 := Aside0.mk H; clear H))
  have C3 := Aside0.mk (S3.out.rowC HG.out HR.out pos_c rfl (by omega))
  go_wp2
  go_region_held3 (fun W => W.cell? ⟨w.heap.size, 0, none⟩ = some (.iface F.ty F.v)) (go_keep) (((with_reducible refine C3.out.mono ?_); rintro e w4 ⟨rfl, H⟩; have cg4 := H.cell HGo.out HGb.out HGA.out HCg.out; have ck4 := H.kind; have S4 := Aside0.mk H; clear H))
  go_wp2
  go_end0
  exact S4.out.done

end Go.Proofs.Ytcbehfbfaonanaa.Wr
end

/- The packer's reader, call by call: what next, number, Num, Flag, Text, Count and End of a reader in memory come to. -/
section
namespace Go.Proofs.Ytcbehfbfaonanaa.Pk
open Go.RowKit Go.Proofs.YtcbehfbfaonanaaW.PrintWords Go.Proofs.YtcbehfbfaonanaaW.PrintLast Go.Proofs.YtcbehfbfaonanaaW.PrintMore
set_option linter.unusedVariables false
set_option linter.unusedSimpArgs false

def goN : Nat → Int → Int → List Int → Int × List Int × Bool
  | 0, _, _, bs => (0, bs, true)
  | _ + 1, _, _, [] => (0, [], true)
  | f + 1, n, b, c :: t => if c < 128 then (if (c = 0 ∧ f ≠ 7) ∨ n + c % 128 * b > 9007199254740992 then (0, t, true) else (n + c % 128 * b, t, false)) else goN f (n + c % 128 * b) (b * 128) t
def rnum (bs : List Int) (bad : Bool) : Int × List Int × Bool := if bad = true then (0, bs, true) else goN 8 0 1 bs
def IsB (x : Int) : Prop := 0 ≤ x ∧ x < 256

set_option maxHeartbeats 400000 in
theorem next_ok (g q : Nat) (x : Int) (t : List Int) (w : World) (h : RdAt w g q (x :: t) false) :
    Calls Try.prog 84 #[.pointer (some ⟨g, 0, none⟩)] w fun e w' => e = .returned (.tuple #[.int .u8 x, .bool true]) ∧ RdAt w' g q t false ∧ Only (· = g) w w' := by
  obtain ⟨off, c, hb, hc, hm, hg, hq, hx⟩ := h
  simp only [List.length_cons] at hb hc hm
  have h0 := blk_cell hb 0
  have h1 := blk_cell hb 1
  have f0 := blk_frozen hb 0
  have hx0 := hx.head
  simp only [List.getElem?_toArray, List.getElem?_cons_zero, List.getElem?_cons_succ] at h0 h1
  have K1 := Aside0.mk (show c ≠ 1 → RdAt (w.setCell ⟨g, 0, none⟩ (.slice (some ⟨q, off + 1, none⟩) t.length (c - 1))) g q t false from fun _ =>
    ⟨off + 1, c - 1, by rw [blk_set hb]; rfl, by omega, by omega, hg, by simpa using hq, (hx.tail).move (Below.heap_setCell _ _ _ _ (Ne.symm hg))⟩)
  have K2 := Aside0.mk (show c = 1 → RdAt (w.setCell ⟨g, 0, none⟩ (.slice (some ⟨q, off, none⟩) t.length 0)) g q t false from fun e =>
    ⟨off, 0, by rw [blk_set hb]; rfl, by omega, by omega, hg, by simpa using hq, fun j x hj => by
      have := (List.getElem?_eq_some_iff.1 hj).1
      omega⟩)
  clear hb hx
  generalize t.length = n at *
  have hlen : (((n + 1 : Nat) : Int) == 0) = false := by simp; omega
  go_enter Try.func84, Try.ntmps84
  go_wp2
  · go_ret2
    exact ⟨rfl, K2.out (by assumption), Only.at_ _ _ _ _⟩
  · go_ret2
    exact ⟨rfl, K1.out (by assumption), Only.at_ _ _ _ _⟩
set_option maxHeartbeats 400000 in
theorem next_no (g q : Nat) (bs : List Int) (bad : Bool) (w : World) (h : RdAt w g q bs bad) (hn : bad = true ∨ bs = []) :
    Calls Try.prog 84 #[.pointer (some ⟨g, 0, none⟩)] w fun e w' => e = .returned (.tuple #[.int .u8 0, .bool false]) ∧ RdAt w' g q bs true ∧ Only (· = g) w w' := by
  obtain ⟨off, c, hb, hc, hm, hg, hq, hx⟩ := h
  have h0 := blk_cell hb 0
  have h1 := blk_cell hb 1
  have f1 := blk_frozen hb 1
  simp only [List.getElem?_toArray, List.getElem?_cons_zero, List.getElem?_cons_succ] at h0 h1
  have K1 := Aside0.mk (show RdAt (w.setCell ⟨g, 1, none⟩ (.bool true)) g q bs true from
    ⟨off, c, by rw [blk_set hb]; rfl, hc, hm, hg, by simpa using hq, hx.move (Below.heap_setCell _ _ _ _ (Ne.symm hg))⟩)
  clear hb hx
  rcases hn with rfl | rfl
  · generalize bs.length = n at *
    go_enter Try.func84, Try.ntmps84
    go_wp2
    go_ret2
    exact ⟨rfl, K1.out, Only.at_ _ _ _ _⟩
  · cases bad
    all_goals
      go_enter Try.func84, Try.ntmps84
      go_wp2
      go_ret2
      exact ⟨rfl, K1.out, Only.at_ _ _ _ _⟩
end Go.Proofs.Ytcbehfbfaonanaa.Pk
end

/- The packer's reader: what number comes to. -/
section
namespace Go.Proofs.Ytcbehfbfaonanaa.Pk
open Go.RowKit Go.Proofs.YtcbehfbfaonanaaW.PrintWords Go.Proofs.YtcbehfbfaonanaaW.PrintLast Go.Proofs.YtcbehfbfaonanaaW.PrintMore
set_option linter.unusedVariables false
set_option linter.unusedSimpArgs false

theorem and127 (x : Int) (h0 : 0 ≤ x) (h1 : x < 256) : bits .and .u8 x 127 = x % 128 := by
  rw [u8_and x 127 h0 h1 (by decide) (by decide)]
  rw [show (127 : Int).toNat = 2 ^ 7 - 1 from rfl, Nat.and_two_pow_sub_one_eq_mod]
  omega
theorem pow128 {k : Nat} (h : k < 8) : (128 : Int) ^ k ≤ 562949953421312 ∧ 0 < (128 : Int) ^ k := by
  match k, h with
  | 0, _ => decide
  | 1, _ => decide
  | 2, _ => decide
  | 3, _ => decide
  | 4, _ => decide
  | 5, _ => decide
  | 6, _ => decide
  | 7, _ => decide
/-- One round's numbers. -/
theorem round_nums {k : Nat} {N B x : Int} (hk : k < 8) (hB : B = 128 ^ k) (h0 : 0 ≤ N) (h1 : N < B) (x0 : 0 ≤ x) (x1 : x < 256) :
    ∃ m p n2 b2 : Int, bits .and .u8 x 127 = m ∧ 0 ≤ m ∧ m < 128 ∧ wrap64 (m * B) = p ∧ wrap64 (N + p) = n2 ∧ wrap64 (B * 128) = b2 ∧ n2 = N + x % 128 * B ∧ b2 = B * 128 ∧ 0 ≤ n2 ∧ n2 < b2 ∧ b2 = 128 ^ (k + 1) := by
  obtain ⟨hb, hb0⟩ := pow128 hk
  rw [← hB] at hb hb0
  have hm : 0 ≤ x % 128 ∧ x % 128 < 128 := by omega
  have hp : 0 ≤ x % 128 * B := Int.mul_nonneg hm.1 (by omega)
  have hp2 : x % 128 * B ≤ 127 * B := Int.mul_le_mul_of_nonneg_right (by omega) (by omega)
  have e1 : wrap64 (x % 128 * B) = x % 128 * B := by unfold wrap64; omega
  refine ⟨x % 128, x % 128 * B, N + x % 128 * B, B * 128, and127 x x0 x1, hm.1, hm.2, e1, by unfold wrap64; omega, by unfold wrap64; omega, rfl, rfl, by omega, by omega, ?_⟩
  rw [hB, Int.pow_succ]

def Res (g q : Nat) (R : Int × List Int × Bool) (w : World) (e : Ending) (w' : World) : Prop := e = .returned (.int .i64 R.1) ∧ RdAt w' g q R.2.1 R.2.2 ∧ Only (· = g) w w'
theorem Res.mk {g q : Nat} {R : Int × List Int × Bool} {n : Int} {bs : List Int} {bad : Bool} {w w' : World} (h : R = (n, bs, bad)) (hR : RdAt w' g q bs bad) (hO : Only (· = g) w w') : Res g q R w (.returned (.int .i64 n)) w' := by
  subst h
  exact ⟨rfl, hR, hO⟩

set_option maxHeartbeats 2000000 in
theorem number_c (g q : Nat) (bs : List Int) (bad : Bool) (w : World) (h : RdAt w g q bs bad) (hb : ∀ x ∈ bs, IsB x) :
    Calls Try.prog 83 #[.pointer (some ⟨g, 0, none⟩)] w (Res g q (rnum bs bad) w) := by
  have HB := Aside0.mk hb
  clear hb
  cases bad
  · have HO : Only (· = g) w w := Only.refl _ _
    have HG := Aside0.mk (show rnum bs false = goN 8 0 1 bs from rfl)
    generalize rnum bs false = R at *
    go_enter Try.func83, Try.ntmps83
    go_wp2
    go_loopw [3, 4, 5] (fun n b i wr => ∃ (k : Nat) (N B : Int) (t : List Int), k ≤ 8 ∧ i = .int .i64 k ∧ n = .int .i64 N ∧ b = .int .i64 B ∧ 0 ≤ N ∧ N < B ∧ Aside0 (B = 128 ^ k) ∧ RdAt wr g q t false ∧ Only (· = g) w wr ∧ Aside0 (R = goN (8 - k) N B t) ∧ Aside0 (∀ x ∈ t, IsB x)) (fun _ _ i _ => 8 - (intOf i).toNat)
    case atStart => exact ⟨0, 0, 1, bs, by omega, rfl, rfl, rfl, by omega, by omega, ⟨rfl⟩, h, HO, HG, HB⟩
    case round =>
      obtain ⟨k, N, B, t, hk, rfl, rfl, rfl, h0, h1, h2, hR, hO, h3, h4⟩ := hrel
      by_cases hlt : k < 8
      · have h5 := Aside0.mk (show 8 - k = 7 - k + 1 by omega)
        cases t with
        | nil =>
          have h6 := Aside0.mk (show R = (0, [], true) by rw [h3.out, h5.out]; rfl)
          go_wp2_with (refine (next_no _ _ _ _ _ hR (.inr rfl)).mono ?_; rintro e w' ⟨rfl, hR1, hO1⟩)
          go_ret
          exact Res.mk h6.out hR1 (hO.then_ hO1)
        | cons x t =>
          have hx : 0 ≤ x ∧ x < 256 := h4.out x (by simp)
          obtain ⟨x0, x1⟩ := hx
          have h4' := Aside0.mk (show ∀ y ∈ t, IsB y from fun y hy => h4.out y (by simp [hy]))
          obtain ⟨m, p, n2, b2, e1, m0, m1, e2, e3, e4, en, eb, n0, nb, bb⟩ := round_nums hlt h2.out h0 h1 x0 x1
          have EN := Aside0.mk en
          have EB := Aside0.mk eb
          have BB := Aside0.mk bb
          clear en eb bb h4
          by_cases hx : x < 128
          · have hx' : decide (x < 128) = true := decide_eq_true hx
            by_cases hz : x = 0 ∧ 0 < k
            · obtain ⟨rfl, hk0⟩ := hz
              have h6 := Aside0.mk (show R = (0, t, true) by rw [h3.out, h5.out]; unfold goN; rw [if_pos hx, if_pos (.inl ⟨rfl, by omega⟩)])
              go_wp2_with (refine (next_ok _ _ _ _ _ hR).mono ?_; rintro e w' ⟨rfl, hR1, hO1⟩; have c1 := hR1.flag; have f1 := hR1.frozen1)
              go_ret
              exact Res.mk h6.out (hR1.spoil true) ((hO.then_ hO1).set (.inr rfl) _)
            · by_cases hm : n2 > 9007199254740992
              · have h6 := Aside0.mk (show R = (0, t, true) by rw [h3.out, h5.out]; unfold goN; rw [if_pos hx, if_pos (.inr (by rw [← EN.out]; exact hm))])
                by_cases hx0 : x = 0
                · obtain rfl : k = 0 := by omega
                  subst hx0
                  go_wp2_with (refine (next_ok _ _ _ _ _ hR).mono ?_; rintro e w' ⟨rfl, hR1, hO1⟩; have c1 := hR1.flag; have f1 := hR1.frozen1)
                  go_ret
                  exact Res.mk h6.out (hR1.spoil true) ((hO.then_ hO1).set (.inr rfl) _)
                · have hx0' : (x == 0) = false := by simpa using hx0
                  clear hz hx0
                  go_wp2_with (refine (next_ok _ _ _ _ _ hR).mono ?_; rintro e w' ⟨rfl, hR1, hO1⟩; have c1 := hR1.flag; have f1 := hR1.frozen1)
                  go_ret
                  exact Res.mk h6.out (hR1.spoil true) ((hO.then_ hO1).set (.inr rfl) _)
              · have h6 := Aside0.mk (show R = (wrap64 (N + p), t, false) by rw [h3.out, h5.out, e3]; unfold goN; rw [if_pos hx, if_neg (by rw [← EN.out]; omega), EN.out])
                by_cases hx0 : x = 0
                · obtain rfl : k = 0 := by omega
                  subst hx0
                  go_wp2_with (refine (next_ok _ _ _ _ _ hR).mono ?_; rintro e w' ⟨rfl, hR1, hO1⟩)
                  go_ret
                  exact Res.mk h6.out hR1 (hO.then_ hO1)
                · have hx0' : (x == 0) = false := by simpa using hx0
                  clear hz hx0
                  go_wp2_with (refine (next_ok _ _ _ _ _ hR).mono ?_; rintro e w' ⟨rfl, hR1, hO1⟩)
                  go_ret
                  exact Res.mk h6.out hR1 (hO.then_ hO1)
          · have h6 := Aside0.mk (show R = goN (8 - (k + 1)) n2 b2 t by rw [h3.out, h5.out, show 8 - (k + 1) = 7 - k by omega, EN.out, EB.out]; exact if_neg hx)
            have hx' : decide (x < 128) = false := decide_eq_false hx
            go_wp2_with (refine (next_ok _ _ _ _ _ hR).mono ?_; rintro e w' ⟨rfl, hR1, hO1⟩)
            go_roundw
            case rel => exact ⟨k + 1, n2, b2, t, by omega, by go_num, congrArg (Value.int .i64) e3, congrArg (Value.int .i64) e4, n0, nb, BB, hR1, hO.then_ hO1, h6, h4'⟩
            case measure => simp [intOf]; omega
      · obtain rfl : k = 8 := by omega
        have h6 := Aside0.mk (show R = (0, t, true) by rw [h3.out]; rfl)
        have c1 := hR.flag
        have f1 := hR.frozen1
        go_wp2
        go_ret
        exact Res.mk h6.out (hR.spoil true) (hO.set (.inr rfl) _)
  · have HG := Aside0.mk (show rnum bs true = (0, bs, true) from rfl)
    generalize rnum bs true = R at *
    go_enter Try.func83, Try.ntmps83
    go_wp2
    go_loopw [3, 4, 5] (fun n b i wr => i = .int .i64 0 ∧ wr = w) (fun _ _ i _ => 8 - (intOf i).toNat)
    case atStart => exact ⟨rfl, rfl⟩
    case round =>
      obtain ⟨rfl, rfl⟩ := hrel
      go_wp2_with (refine (next_no _ _ _ _ _ h (.inl rfl)).mono ?_; rintro e w' ⟨rfl, hR1, hO1⟩)
      go_ret
      exact Res.mk HG.out hR1 hO1
end Go.Proofs.Ytcbehfbfaonanaa.Pk
end

/- The packer's reader: what Num, Flag, Text, Count and End come to; and what they answer where there is no reader. -/
section
namespace Go.Proofs.Ytcbehfbfaonanaa.Pk
open Go.RowKit Go.Proofs.YtcbehfbfaonanaaW.PrintWords Go.Proofs.YtcbehfbfaonanaaW.PrintLast Go.Proofs.YtcbehfbfaonanaaW.PrintMore
set_option linter.unusedVariables false
set_option linter.unusedSimpArgs false

theorem goN_nonneg (f : Nat) : ∀ (n b : Int) (bs : List Int), 0 ≤ n → 0 ≤ b → 0 ≤ (goN f n b bs).1 := by
  induction f with
  | zero => intro n b bs _ _; exact Int.le_refl 0
  | succ f ih =>
    intro n b bs hn hb
    cases bs with
    | nil => exact Int.le_refl 0
    | cons c t =>
      have hp : 0 ≤ n + c % 128 * b := Int.add_nonneg hn (Int.mul_nonneg (by omega) hb)
      unfold goN
      split
      · split
        · exact Int.le_refl 0
        · exact hp
      · exact ih _ _ _ hp (by omega)
theorem goN_suffix (f : Nat) : ∀ (n b : Int) (bs : List Int), ∃ m, (goN f n b bs).2.1 = bs.drop m := by
  induction f with
  | zero => intro n b bs; exact ⟨0, rfl⟩
  | succ f ih =>
    intro n b bs
    cases bs with
    | nil => exact ⟨0, rfl⟩
    | cons c t =>
      unfold goN
      split
      · split
        · exact ⟨1, rfl⟩
        · exact ⟨1, rfl⟩
      · obtain ⟨m, e⟩ := ih (n + c % 128 * b) (b * 128) t
        exact ⟨m + 1, by rw [e]; rfl⟩
theorem rnum_nonneg (bs : List Int) (bad : Bool) : 0 ≤ (rnum bs bad).1 := by
  unfold rnum
  split
  · exact Int.le_refl 0
  · exact goN_nonneg _ _ _ _ (by decide) (by decide)
theorem rnum_suffix (bs : List Int) (bad : Bool) : ∃ m, (rnum bs bad).2.1 = bs.drop m := by
  unfold rnum
  split
  · exact ⟨0, rfl⟩
  · exact goN_suffix _ _ _ _
theorem rnum_mem {bs : List Int} {bad : Bool} {p : Int → Prop} (h : ∀ x ∈ bs, p x) : ∀ x ∈ (rnum bs bad).2.1, p x := by
  obtain ⟨m, e⟩ := rnum_suffix bs bad
  intro x hx
  rw [e] at hx
  exact h x (List.mem_of_mem_drop hx)

def rflag (bs : List Int) (bad : Bool) : Bool × List Int × Bool :=
  if bad = true then (false, bs, true) else match bs with
    | [] => (false, [], true)
    | c :: t => if c > 1 then (false, t, true) else (c == 1, t, false)
def rtext (most : Int) (bs : List Int) (bad : Bool) : List Int × List Int × Bool :=
  if (rnum bs bad).2.2 = true ∨ (rnum bs bad).1 > most ∨ (rnum bs bad).1 > ((rnum bs bad).2.1.length : Int) then ([], (rnum bs bad).2.1, true) else ((rnum bs bad).2.1.take (rnum bs bad).1.toNat, (rnum bs bad).2.1.drop (rnum bs bad).1.toNat, false)
def rcount (most : Int) (bs : List Int) (bad : Bool) : Int × List Int × Bool :=
  if (rnum bs bad).1 > most then (0, (rnum bs bad).2.1, true) else rnum bs bad
def rend (bs : List Int) (bad : Bool) : Int := if bad = true ∨ 0 < bs.length then 2 else 0

set_option maxHeartbeats 400000 in
theorem rNum_c (g q : Nat) (bs : List Int) (bad : Bool) (w : World) (h : RdAt w g q bs bad) (hb : ∀ x ∈ bs, IsB x) :
    Calls Try.prog 75 #[.pointer (some ⟨g, 0, none⟩)] w (Res g q (rnum bs bad) w) := by
  have C := Aside0.mk (number_c g q bs bad w h hb)
  clear hb
  generalize rnum bs bad = R at *
  go_enter Try.func75, Try.ntmps75
  go_wp2_with (refine C.out.mono ?_; rintro e w' ⟨rfl, hR1, hO1⟩)
  go_ret
  exact ⟨rfl, hR1, hO1⟩
def ResB (g q : Nat) (R : Bool × List Int × Bool) (w : World) (e : Ending) (w' : World) : Prop := e = .returned (.bool R.1) ∧ RdAt w' g q R.2.1 R.2.2 ∧ Only (· = g) w w'
theorem ResB.mk {g q : Nat} {R : Bool × List Int × Bool} {n : Bool} {bs : List Int} {bad : Bool} {w w' : World} (h : R = (n, bs, bad)) (hR : RdAt w' g q bs bad) (hO : Only (· = g) w w') : ResB g q R w (.returned (.bool n)) w' := by
  subst h
  exact ⟨rfl, hR, hO⟩
set_option maxHeartbeats 400000 in
theorem rFlag_c (g q : Nat) (bs : List Int) (bad : Bool) (w : World) (h : RdAt w g q bs bad) (hb : ∀ x ∈ bs, IsB x) :
    Calls Try.prog 106 #[.pointer (some ⟨g, 0, none⟩)] w (ResB g q (rflag bs bad) w) := by
  by_cases hc : bad = true ∨ bs = []
  · have h6 := Aside0.mk (show rflag bs bad = (false, bs, true) by unfold rflag; rcases hc with rfl | rfl; rfl; cases bad <;> rfl)
    generalize rflag bs bad = R at *
    have C := Aside0.mk (next_no g q bs bad w h hc)
    clear hb hc
    go_enter Try.func106, Try.ntmps106
    go_wp2_with (refine C.out.mono ?_; rintro e w' ⟨rfl, hR1, hO1⟩; have c1 := hR1.flag; have f1 := hR1.frozen1)
    go_ret
    exact ResB.mk h6.out (hR1.spoil true) (hO1.set (.inr rfl) _)
  · obtain ⟨rfl, x, t, rfl⟩ : bad = false ∧ ∃ x t, bs = x :: t := by
      cases bad <;> cases bs <;> simp at hc ⊢
    obtain ⟨x0, x1⟩ : IsB x := hb x (by simp)
    have C := Aside0.mk (next_ok g q x t w h)
    clear hb hc
    by_cases hx : 1 < x
    · have h6 := Aside0.mk (show rflag (x :: t) false = (false, t, true) by unfold rflag; simp; omega)
      generalize rflag (x :: t) false = R at *
      have hx1 : (x == 1) = false := by simp; omega
      have hx2 : decide (1 < x) = true := decide_eq_true hx
      go_enter Try.func106, Try.ntmps106
      go_wp2_with (refine C.out.mono ?_; rintro e w' ⟨rfl, hR1, hO1⟩; have c1 := hR1.flag; have f1 := hR1.frozen1)
      go_ret
      exact ResB.mk h6.out (hR1.spoil true) (hO1.set (.inr rfl) _)
    · have h6 := Aside0.mk (show rflag (x :: t) false = (x == 1, t, false) by unfold rflag; simp; omega)
      generalize rflag (x :: t) false = R at *
      have hx2 : decide (1 < x) = false := decide_eq_false hx
      go_enter Try.func106, Try.ntmps106
      go_wp2_with (refine C.out.mono ?_; rintro e w' ⟨rfl, hR1, hO1⟩; have c1 := hR1.flag; have f1 := hR1.frozen1)
      all_goals
        go_ret
        exact ResB.mk h6.out (hR1.spoil false) (hO1.set (.inr rfl) _)
set_option maxHeartbeats 400000 in
theorem rCount_c (most : Int) (g q : Nat) (bs : List Int) (bad : Bool) (w : World) (h : RdAt w g q bs bad) (hb : ∀ x ∈ bs, IsB x) :
    Calls Try.prog 110 #[.pointer (some ⟨g, 0, none⟩), .int .i64 most] w (Res g q (rcount most bs bad) w) := by
  have C := Aside0.mk (rNum_c g q bs bad w h hb)
  clear hb
  by_cases hm : most < (rnum bs bad).1
  · have h6 := Aside0.mk (show rcount most bs bad = (0, (rnum bs bad).2.1, true) from if_pos hm)
    generalize rcount most bs bad = R at *
    generalize rnum bs bad = R1 at *
    obtain ⟨n, bs1, bad1⟩ := R1
    have hm' : decide (most < n) = true := decide_eq_true hm
    go_enter Try.func110, Try.ntmps110
    go_wp2_with (refine C.out.mono ?_; rintro e w' ⟨rfl, hR1, hO1⟩; have c1 := hR1.flag; have f1 := hR1.frozen1)
    go_ret
    exact Res.mk h6.out (hR1.spoil true) (hO1.set (.inr rfl) _)
  · have h6 := Aside0.mk (show rcount most bs bad = rnum bs bad from if_neg hm)
    generalize rcount most bs bad = R at *
    generalize rnum bs bad = R1 at *
    obtain ⟨n, bs1, bad1⟩ := R1
    have hm' : decide (most < n) = false := decide_eq_false hm
    go_enter Try.func110, Try.ntmps110
    go_wp2_with (refine C.out.mono ?_; rintro e w' ⟨rfl, hR1, hO1⟩; have c1 := hR1.flag; have f1 := hR1.frozen1)
    go_ret
    exact Res.mk h6.out hR1 hO1
set_option maxHeartbeats 400000 in
theorem rEnd_c (g q : Nat) (bs : List Int) (bad : Bool) (w : World) (h : RdAt w g q bs bad) :
    Calls Try.prog 60 #[.pointer (some ⟨g, 0, none⟩)] w fun e w' => e = .returned (.int .i64 (rend bs bad)) ∧ w = w' := by
  obtain ⟨off, c, hb, hc, hm, hg, hq, hx⟩ := h
  have h0 := blk_cell hb 0
  have h1 := blk_cell hb 1
  simp only [List.getElem?_toArray, List.getElem?_cons_zero, List.getElem?_cons_succ] at h0 h1
  clear hb hx
  unfold rend
  generalize bs.length = n at *
  cases bad
  · by_cases hn : 0 < n
    · rw [if_pos (.inr hn)]
      have hn' : decide (0 < n) = true := decide_eq_true hn
      go_enter Try.func60, Try.ntmps60
      go_wp2
      go_ret
      exact ⟨rfl, rfl⟩
    · rw [if_neg (by simp; omega)]
      have hn' : decide (0 < n) = false := decide_eq_false hn
      go_enter Try.func60, Try.ntmps60
      go_wp2
      go_ret
      exact ⟨rfl, rfl⟩
  · rw [if_pos (.inl rfl)]
    go_enter Try.func60, Try.ntmps60
    go_wp2
    go_ret
    exact ⟨rfl, rfl⟩
end Go.Proofs.Ytcbehfbfaonanaa.Pk
end

/- The packer's reader: what Text and Read come to. -/
section
namespace Go.Proofs.Ytcbehfbfaonanaa.Pk
open Go.RowKit Go.Proofs.YtcbehfbfaonanaaW.PrintWords Go.Proofs.YtcbehfbfaonanaaW.PrintLast Go.Proofs.YtcbehfbfaonanaaW.PrintMore
set_option linter.unusedVariables false
set_option linter.unusedSimpArgs false

def ResS (g q : Nat) (R : List Int × List Int × Bool) (w : World) (e : Ending) (w' : World) : Prop := e = .returned (.string (strOfNums R.1)) ∧ RdAt w' g q R.2.1 R.2.2 ∧ Only (· = g) w w'
theorem ResS.mk {g q : Nat} {R : List Int × List Int × Bool} {s : ByteArray} {n bs : List Int} {bad : Bool} {w w' : World} (h : R = (n, bs, bad)) (hs : s = strOfNums n) (hR : RdAt w' g q bs bad) (hO : Only (· = g) w w') : ResS g q R w (.returned (.string s)) w' := by
  subst h; subst hs
  exact ⟨rfl, hR, hO⟩
theorem info_u8 : (Try.prog.info? 5).map (fun i => (i.zero, i.size, i.bytes)) = some (some (.int .u8 0), 1, 1) := by kernel_rfl
theorem cut_l (A : Option Addr) (n c m : Nat) (hm : m ≤ n) (W : World) :
    (Instr.slice 37 (.slice A n c) (some (.int .i64 (m : Int))) none none).run Try.prog W = .ok (.slice (if c = m then A else A.map (·.add m)) (n - m) (c - m)) W := by
  obtain ⟨i, hi, hz⟩ := Option.map_eq_some_iff.1 info_u8
  simp only [Prod.mk.injEq] at hz
  have hel : Try.prog.elem 37 = 5 := by simp [Program.elem, Try.underlying37]
  have hu : Try.prog.underlying 37 = some (.slice (Try.prog.elem 37)) := by rw [hel]; exact Try.underlying37
  rw [run_slice_l W 37 A n c hu .i64 (m : Int) (Int.natCast_nonneg _) (by omega), hel]
  simp [sizeOf, typeInfo, hi, hz.2.1, sliced, Result.andThen]
theorem cut_h (A : Option Addr) (n c m : Nat) (hm : m ≤ c) (W : World) :
    (Instr.slice 37 (.slice A n c) none (some (.int .i64 (m : Int))) none).run Try.prog W = .ok (.slice A m c) W := by
  obtain ⟨i, hi, hz⟩ := Option.map_eq_some_iff.1 info_u8
  simp only [Prod.mk.injEq] at hz
  have hel : Try.prog.elem 37 = 5 := by simp [Program.elem, Try.underlying37]
  have hu : Try.prog.underlying 37 = some (.slice (Try.prog.elem 37)) := by rw [hel]; exact Try.underlying37
  rw [run_slice_h W 37 A n c hu .i64 (m : Int) (Int.natCast_nonneg _) (by omega), hel]
  simp [sizeOf, typeInfo, hi, hz.2.1, sliced, Result.andThen]
  intro _
  cases A <;> rfl
theorem RdAt.cut {w : World} {g q : Nat} {bs : List Int} {bad : Bool} (h : RdAt w g q bs bad) (m : Nat) (hm : m ≤ bs.length) :
    ∃ off c, bs.length ≤ c ∧ c ≤ 9223372036854775807 ∧ w.cell? ⟨g, 0, none⟩ = some (.slice (some ⟨q, off, none⟩) bs.length c) ∧
      (∀ W : World, (Instr.slice 37 (.slice (some ⟨q, off, none⟩) bs.length c) none (some (.int .i64 (m : Int))) none).run Try.prog W = .ok (.slice (some ⟨q, off, none⟩) m c) W) ∧
      (convert 37 9 (.slice (some ⟨q, off, none⟩) m c)).run Try.prog w = .ok (.string (strOfNums (bs.take m))) w ∧
      ∃ A, (∀ W : World, (Instr.slice 37 (.slice (some ⟨q, off, none⟩) bs.length c) (some (.int .i64 (m : Int))) none none).run Try.prog W = .ok (.slice A (bs.length - m) (c - m)) W) ∧ RdAt (w.setCell ⟨g, 0, none⟩ (.slice A (bs.length - m) (c - m))) g q (bs.drop m) bad := by
  obtain ⟨off, c, hb, hc, hm', hg, hq, hx⟩ := h
  have h0 := blk_cell hb 0
  simp only [List.getElem?_toArray, List.getElem?_cons_zero] at h0
  refine ⟨off, c, hc, hm', h0, fun W => cut_h _ _ _ _ (by omega) W, ?_, some ⟨q, if c = m then off else off + m, none⟩, fun W => ?_, if c = m then off else off + m, c - m, ?_, ?_, by omega, hg, by simpa using hq, ?_⟩
  · refine run_convert_bytes_arg w _ _ Try.underlying37 Try.underlying5 q off m c (bs.take m) (by rw [List.length_take]; omega) (fun i hi => ?_) _ Try.underlying9
    refine hx i _ ?_
    have hil : i < bs.length := by omega
    simp [List.getD_eq_getElem?_getD, List.getElem?_take, hi, hil]
  · rw [cut_l _ _ _ _ hm W]
    congr 2
    by_cases e : c = m
    · rw [if_pos e, if_pos e]
    · rw [if_neg e, if_neg e]
      simp only [Option.map_some, Addr.add]
      by_cases e0 : m = 0
      · subst e0; rfl
      · rw [if_neg e0]
  · rw [blk_set hb, List.length_drop]; rfl
  · rw [List.length_drop]; omega
  · have hx' := (hx.drop m).move (w' := w.setCell ⟨g, 0, none⟩ (.slice (some ⟨q, if c = m then off else off + m, none⟩) (bs.length - m) (c - m))) (Below.heap_setCell _ _ _ _ (Ne.symm hg))
    by_cases e : c = m
    · intro j x hj
      have := (List.getElem?_eq_some_iff.1 hj).1
      rw [List.length_drop] at this
      omega
    · rw [if_neg e] at hx' ⊢
      exact hx'

set_option maxHeartbeats 1000000 in
theorem rText_c (most : Int) (g q : Nat) (bs : List Int) (bad : Bool) (w : World) (h : RdAt w g q bs bad) (hb : ∀ x ∈ bs, IsB x) :
    Calls Try.prog 111 #[.pointer (some ⟨g, 0, none⟩), .int .i64 most] w (ResS g q (rtext most bs bad) w) := by
  have C := Aside0.mk (number_c g q bs bad w h hb)
  have hn := rnum_nonneg bs bad
  clear hb
  have hT := Aside0.mk (show rtext most bs bad = if (rnum bs bad).2.2 = true ∨ (rnum bs bad).1 > most ∨ (rnum bs bad).1 > ((rnum bs bad).2.1.length : Int) then ([], (rnum bs bad).2.1, true) else ((rnum bs bad).2.1.take (rnum bs bad).1.toNat, (rnum bs bad).2.1.drop (rnum bs bad).1.toNat, false) from rfl)
  generalize rtext most bs bad = R at *
  generalize rnum bs bad = R1 at *
  obtain ⟨n, bs1, bad1⟩ := R1
  simp only at hT hn
  obtain ⟨m, rfl⟩ := Int.eq_ofNat_of_zero_le hn
  clear hn
  have empty : (⟨#[]⟩ : ByteArray) = strOfNums [] := rfl
  have E := Aside0.mk empty
  clear empty
  cases bad1
  · by_cases h1 : most < (m : Int)
    · have h6 := Aside0.mk (show R = ([], bs1, true) by rw [hT.out, if_pos (.inr (.inl h1))])
      have h1' : decide (most < (m : Int)) = true := decide_eq_true h1
      go_enter Try.func111, Try.ntmps111
      go_wp2_with (refine C.out.mono ?_; rintro e w' ⟨rfl, hR1, hO1⟩; have c1 := hR1.flag; have f1 := hR1.frozen1)
      go_ret
      exact ResS.mk h6.out E.out (hR1.spoil true) (hO1.set (.inr rfl) _)
    · have h1' : decide (most < (m : Int)) = false := decide_eq_false h1
      by_cases h2 : bs1.length < m
      · have h6 := Aside0.mk (show R = ([], bs1, true) by rw [hT.out, if_pos (.inr (.inr (by omega)))])
        have h2' : decide (bs1.length < m) = true := decide_eq_true h2
        go_enter Try.func111, Try.ntmps111
        go_wp2_with (refine C.out.mono ?_; rintro e w' ⟨rfl, hR1, hO1⟩; have c1 := hR1.flag; have f1 := hR1.frozen1; obtain ⟨off, c, hc, hm, c0, _⟩ := hR1.cut 0 (by omega))
        go_ret
        exact ResS.mk h6.out E.out (hR1.spoil true) (hO1.set (.inr rfl) _)
      · have h6 := Aside0.mk (show R = (bs1.take m, bs1.drop m, false) by rw [hT.out, if_neg (by simp; omega)]; rfl)
        have h2' : decide (bs1.length < m) = false := decide_eq_false h2
        have h2n : m ≤ bs1.length := by omega
        go_enter Try.func111, Try.ntmps111
        go_wp2_with (refine C.out.mono ?_; rintro e w' ⟨rfl, hR1, hO1⟩; have c1 := hR1.flag; have f0 := hR1.frozen0; obtain ⟨off, c, hc, hm, c0, k1, k2, A, k3, hR2⟩ := hR1.cut m h2n)
        go_ret
        exact ResS.mk h6.out rfl hR2 (hO1.set (.inr rfl) _)
  · have h6 := Aside0.mk (show R = ([], bs1, true) by rw [hT.out, if_pos (.inl rfl)])
    go_enter Try.func111, Try.ntmps111
    go_wp2_with (refine C.out.mono ?_; rintro e w' ⟨rfl, hR1, hO1⟩; have c1 := hR1.flag; have f1 := hR1.frozen1)
    go_ret
    exact ResS.mk h6.out E.out (hR1.spoil true) (hO1.set (.inr rfl) _)

/-- A new reader of the bytes xs. -/
def IsRead (xs : List Int) (w : World) (e : Ending) (w' : World) : Prop :=
  ∃ g q, e = .returned (.pointer (some ⟨g, 0, none⟩)) ∧ RdAt w' g q xs false ∧ w.heap.size ≤ g ∧ w.heap.size ≤ q ∧ g < w'.heap.size ∧ Below w.heap.size w w'
theorem row_some {w : World} {base : Nat} {v v0 : Value} {n : Nat} {e : TypeId} {xs : List Value} (h : w.ownsRow base e 1 v n xs) {b0 B : Nat} (hv : v0.ownBlock = some b0) (hat : v.ownBlock = v0.ownBlock ∨ ∃ b, v.ownBlock = some b ∧ B ≤ b) :
    ∃ g cap, v = .slice (some ⟨g, 0, none⟩) n cap ∧ base ≤ g ∧ g < w.heap.size ∧ n ≤ cap ∧ cap ≤ 9223372036854775807 ∧ ∀ j u, xs[j]? = some u → w.cell? ⟨g, j, none⟩ = some u := by
  rcases h.2 with ⟨rfl, _⟩ | ⟨g, cap, cur, rfl, hb, hh, h1, h2, h3, h4⟩
  · rw [hv] at hat
    simp [Value.ownBlock] at hat
  · refine ⟨g, cap, rfl, hb, (Array.getElem?_eq_some_iff.1 hh).1, h1, h2, fun j u hj => ?_⟩
    have := h.cells (g := g) rfl j u hj
    rwa [add_plain] at this
set_option maxHeartbeats 1000000 in
theorem read_c (A : Option Addr) (n c : Nat) (xs : List Int) (w : World) (hr : ReadsInt w .u8 A n xs) (hn : n ≤ 140737488355328) :
    Calls Try.prog 58 #[.slice A n c] w (IsRead xs w) := by
  have HL := Aside0.mk hr.1
  have HR := Aside0.mk hr
  have HO := Aside0.mk (own_lit w w.heap.size 5 .u8 [] (Nat.le_refl _) (by simp))
  clear hr
  go_enter Try.func58, Try.ntmps58
  go_wp2_with (at_builtin; refine print_append_row (w0 := w) w.heap.size rfl (.tmp 3) (.tmp 4) 37 5 .u8 1 rfl Try.underlying37 info_u8 (by decide) (.slice (some ⟨w.heap.size, 0, none⟩) 0 0) [] xs A n c rfl rfl HO.out (HR.out.allocS _) (below_alloc (Below.refl _ _) _) (by simp) (by simpa using hn) ?_; intro v1 w1 hO hB hg hat; obtain ⟨g1, cap, rfl, k1, k2, k3, k4, k5⟩ := row_some hO (b0 := w.heap.size) rfl hat; have K3 := Aside0.mk k3; have K5 := Aside0.mk k5; have HB := Aside0.mk hB; clear hO hg hat k3 k5 hB)
  go_ret
  refine ⟨_, g1, rfl, ⟨0, cap, heap_alloc_new _ _, ?_, k4, by omega, by simp; omega, ?_⟩, HB.out.size, k1, by simp, below_alloc HB.out _⟩
  · simpa using K3.out
  · intro j x hj
    rw [World.cell?_alloc_lt _ _ _ k2, Nat.zero_add]
    exact K5.out j _ (by simp [nums, hj])
end Go.Proofs.Ytcbehfbfaonanaa.Pk
end

/- The packer's writer: what add and Num come to. -/
section
namespace Go.Proofs.Ytcbehfbfaonanaa.Pk
open Go.RowKit Go.Proofs.YtcbehfbfaonanaaW.PrintWords Go.Proofs.YtcbehfbfaonanaaW.PrintLast Go.Proofs.YtcbehfbfaonanaaW.PrintMore
set_option linter.unusedVariables false
set_option linter.unusedSimpArgs false

/-- What a call on the writer at g leaves. -/
def IsWr (g T : Nat) (r : List Value) (v : Value) (xs : List Int) (bad : Bool) (w : World) (e : Ending) (w' : World) : Prop :=
  ∃ v', e = .returned (.tuple #[]) ∧ WrAt w' g T r v' xs bad ∧ NewRow w v v' ∧ Only (WS g v) w w'

section
variable {w : World} {g T : Nat} {r : List Value} {v : Value} {xs : List Int} {bad : Bool}
theorem WrAt.cell0 (h : WrAt w g T r v xs bad) : w.cell? ⟨g, 0, none⟩ = some v := by rw [blk_cell h.1]; rfl
theorem WrAt.cell1 (h : WrAt w g T r v xs bad) : w.cell? ⟨g, 1, none⟩ = some (.bool bad) := by rw [blk_cell h.1]; rfl
theorem WrAt.frozen (h : WrAt w g T r v xs bad) (i : Nat) : w.frozen? ⟨g, i, none⟩ = false := blk_frozen h.1 i
theorem WrAt.spoil (h : WrAt w g T r v xs bad) (b : Bool) : WrAt (w.setCell ⟨g, 1, none⟩ (.bool b)) g T r v xs b :=
  ⟨by rw [blk_set h.1]; simp, own_setCell h.2.1 (p := ⟨g, 1, none⟩) (Ne.symm h.2.2) _, h.2.2⟩
theorem WrAt.alloc (h : WrAt w g T r v xs bad) (o : Obj) : WrAt (w.alloc o) g T r v xs bad := h.move fun k hk => by
  refine Below.heap_alloc _ _ _ ?_
  rcases hk with rfl | hk
  · exact blk_lt h.1
  · exact own_lt h.2.1 k hk
theorem WrAt.drewN (h : WrAt w g T r v xs bad) (n : Nat) : WrAt (w.drewN n) g T r v xs bad := h
theorem reads_box (w : World) (x : Int) : ReadsInt (w.alloc (.cells #[.int .u8 x] 5)) .u8 (some ⟨w.heap.size, 0, none⟩) 1 [x] := by
  refine ⟨rfl, by decide, fun _ => ⟨_, rfl, fun j hj => ?_⟩⟩
  obtain rfl : j = 0 := by omega
  rw [add_plain, World.cell?_alloc_new]
  rfl
end

theorem NewRow.of_alloc {w : World} {o : Obj} {v v' : Value} (h : NewRow (w.alloc o) v v') : NewRow w v v' := by
  rcases h with h | ⟨b, h, hb⟩
  · exact .inl h
  · exact .inr ⟨b, h, by rw [World.size_alloc] at hb; omega⟩
set_option maxHeartbeats 1000000 in
theorem add_c (g T : Nat) (r : List Value) (v : Value) (xs : List Int) (bad : Bool) (A : Option Addr) (n c : Nat) (ys : List Int) (w : World) (h : WrAt w g T r v xs bad) (hr : ReadsInt w .u8 A n ys) (hn : xs.length + n ≤ 140737488355328) :
    Calls Try.prog 77 #[.pointer (some ⟨g, 0, none⟩), .slice A n c] w (IsWr g T r v (xs ++ ys) bad w) := by
  have h0 := h.cell0
  have H := Aside0.mk h
  have HR := Aside0.mk hr
  have hg : g < w.heap.size := blk_lt h.1
  clear h hr
  go_enter Try.func77, Try.ntmps77
  go_wp2_with (at_builtin; refine print_append_row (w0 := w) 0 rfl (.tmp 8) (.tmp 9) 37 5 .u8 1 rfl Try.underlying37 info_u8 (by decide) v xs ys A n c rfl rfl H.out.2.1 HR.out (Below.refl _ _) (Nat.zero_le _) (by simpa using hn) ?_; intro v1 w1 hO hB hg hat; obtain ⟨A1, c1, rfl⟩ := own_slice hO; have hb := blk_grown H.out.1 hg (Ne.symm H.out.2.2); have c0 : w1.cell? ⟨g, 0, none⟩ = some v := by { rw [blk_cell hb]; rfl }; have f0 := blk_frozen hb 0; have HB := Aside0.mk hb; have HO := Aside0.mk hO; have HG := Aside0.mk hg; have HT := Aside0.mk hat; clear hO hg hat hB hb)
  go_end0
  have hne : (Value.slice A1 (xs ++ ys).length c1).ownBlock ≠ some g := by
    rcases HT.out with e | ⟨b, e, hb⟩
    · rw [e]; exact H.out.2.2
    · rw [e]; intro e'; injection e' with e'; omega
  exact ⟨_, rfl, ⟨by rw [blk_set HB.out]; simp, own_setCell HO.out (p := ⟨g, 0, none⟩) (Ne.symm hne) _, hne⟩, HT.out, ((Only.refl _ _).grown HG.out (fun k hk => .inr (.inr hk))).set (.inr (.inl rfl)) _⟩

def enc (n : Nat) : List Int := if h : n < 128 then [(n : Int)] else ((n : Int) % 128 + 128) :: enc (n / 128)
theorem enc_lt {n : Nat} (h : n < 128) : enc n = [(n : Int)] := by unfold enc; rw [dif_pos h]
theorem enc_ge {n : Nat} (h : ¬ n < 128) : enc n = ((n : Int) % 128 + 128) :: enc (n / 128) := by rw [enc, dif_neg h]
theorem enc_pos (n : Nat) : 0 < (enc n).length := by
  by_cases h : n < 128
  · rw [enc_lt h]; simp
  · rw [enc_ge h]; simp
theorem enc_len : ∀ (k n : Nat), n < 128 ^ (k + 1) → (enc n).length ≤ k + 1 := by
  intro k
  induction k with
  | zero => intro n h; rw [enc_lt (by simpa using h)]; simp
  | succ k ih =>
    intro n h
    by_cases hn : n < 128
    · rw [enc_lt hn]; simp
    · rw [enc_ge hn]
      have := ih (n / 128) (by rw [Nat.pow_succ] at h; omega)
      simp; omega
theorem enc_len8 {n : Nat} (h : n ≤ 9007199254740992) : (enc n).length ≤ 8 := enc_len 7 n (by omega)
def wnum (n : Int) (xs : List Int) (bad : Bool) : List Int × Bool := if n < 0 ∨ n > 9007199254740992 then (xs, true) else if bad = true then (xs, true) else (xs ++ enc n.toNat, false)

theorem IsWr.mk {g T : Nat} {r : List Value} {v v' : Value} {xs : List Int} {bad : Bool} {w w' : World} {R : List Int × Bool} (h : R = (xs, bad)) (h1 : WrAt w' g T r v' xs bad) (h2 : NewRow w v v') (h3 : Only (WS g v) w w') : IsWr g T r v R.1 R.2 w (.returned (.tuple #[])) w' := by
  subst h
  exact ⟨v', rfl, h1, h2, h3⟩
theorem wnum_cases (n : Int) (xs : List Int) (bad : Bool) : (n < 0 ∧ wnum n xs bad = (xs, true)) ∨ (0 ≤ n ∧ 9007199254740992 < n ∧ wnum n xs bad = (xs, true)) ∨ (0 ≤ n ∧ n ≤ 9007199254740992 ∧ bad = true ∧ wnum n xs bad = (xs, true)) ∨ (0 ≤ n ∧ n ≤ 9007199254740992 ∧ bad = false ∧ wnum n xs bad = (xs ++ enc n.toNat, false)) := by
  unfold wnum
  by_cases h1 : n < 0
  · exact .inl ⟨h1, if_pos (.inl h1)⟩
  by_cases h2 : 9007199254740992 < n
  · exact .inr (.inl ⟨by omega, h2, if_pos (.inr h2)⟩)
  rw [if_neg (by omega)]
  cases bad
  · exact .inr (.inr (.inr ⟨by omega, by omega, rfl, rfl⟩))
  · exact .inr (.inr (.inl ⟨by omega, by omega, rfl, rfl⟩))
set_option maxRecDepth 100000 in
set_option maxHeartbeats 2000000 in
theorem wNum_c (n : Int) (g T : Nat) (r : List Value) (v : Value) (xs : List Int) (bad : Bool) (w : World) (h : WrAt w g T r v xs bad) (hn : xs.length ≤ 140737488350000) :
    Calls Try.prog 62 #[.pointer (some ⟨g, 0, none⟩), .int .i64 n] w (IsWr g T r v (wnum n xs bad).1 (wnum n xs bad).2 w) := by
  have c1 := h.cell1
  have f1 := h.frozen 1
  have HO := Aside0.mk (Only.refl (WS g v) w)
  have H := Aside0.mk h
  have e := wnum_cases n xs bad
  generalize wnum n xs bad = R at *
  clear h
  rcases e with ⟨h1, e⟩ | ⟨h1, h2, e⟩ | ⟨h1, h2, rfl, e⟩ | ⟨h1, h2, rfl, e⟩
  · have E := Aside0.mk e
    have h1' : decide (n < 0) = true := decide_eq_true h1
    clear e
    go_enter Try.func62, Try.ntmps62
    go_wp2
    refine bodyPost_ret (results_none rfl _ _ _) rfl ?_
    exact IsWr.mk E.out (H.out.spoil true) (NewRow.refl _ _) (HO.out.set (.inr (.inl rfl)) _)
  · have E := Aside0.mk e
    have h1' : decide (n < 0) = false := decide_eq_false (by omega)
    have h2' : decide (9007199254740992 < n) = true := decide_eq_true h2
    clear e
    go_enter Try.func62, Try.ntmps62
    go_wp2
    refine bodyPost_ret (results_none rfl _ _ _) rfl ?_
    exact IsWr.mk E.out (H.out.spoil true) (NewRow.refl _ _) (HO.out.set (.inr (.inl rfl)) _)
  · have E := Aside0.mk e
    have h1' : decide (n < 0) = false := decide_eq_false (by omega)
    have h2' : decide (9007199254740992 < n) = false := decide_eq_false (by omega)
    clear e
    go_enter Try.func62, Try.ntmps62
    go_wp2
    refine bodyPost_ret (results_none rfl _ _ _) rfl ?_
    exact IsWr.mk E.out H.out (NewRow.refl _ _) HO.out
  · have h1' : decide (n < 0) = false := decide_eq_false (by omega)
    have h2' : decide (9007199254740992 < n) = false := decide_eq_false (by omega)
    obtain ⟨n, rfl⟩ := Int.eq_ofNat_of_zero_le h1
    rw [Int.toNat_natCast] at e
    have E := Aside0.mk e
    have hl := Aside0.mk (enc_len8 (n := n) (by omega))
    have HN0 := Aside0.mk (show n ≤ 9007199254740992 by omega)
    have HXS := Aside0.mk hn
    have HS := Aside0.mk (show xs ++ enc n = xs ++ enc n from rfl)
    clear e h1 h2 hn
    go_enter Try.func62, Try.ntmps62
    go_wp2
    go_loopw [1] (fun nv wr => ∃ (m : Nat) (acc : List Int) (v' : Value), nv = .int .i64 m ∧ Aside0 (m ≤ 9007199254740992) ∧ Aside0 (acc ++ enc m = xs ++ enc n) ∧ Aside0 (WrAt wr g T r v' acc false) ∧ Aside0 (NewRow w v v') ∧ Aside0 (Only (WS g v) w wr)) (fun nv _ => (intOf nv).toNat)
    case atStart => exact ⟨n, xs, v, rfl, HN0, ⟨rfl⟩, H, ⟨NewRow.refl _ _⟩, HO⟩
    case round =>
      clear h1' h2'
      obtain ⟨m, acc, v', rfl, hm, HA, HW, HN, HO1⟩ := hrel
      have hla := Aside0.mk (show acc.length + 1 ≤ 140737488355328 by
        have := congrArg List.length HA.out
        rw [List.length_append, List.length_append] at this
        have := enc_pos m
        have := HXS.out
        have := hl.out
        omega)
      by_cases hlt : 128 ≤ m
      · have e2 := enc_ge (n := m) (by omega)
        have HE := Aside0.mk e2
        clear e2
        have E3 := Aside0.mk (show wrap64 ((m : Int) / 128) = ((m / 128 : Nat) : Int) by have := hm.out; unfold wrap64; omega)
        have b0 : 0 ≤ (m : Int) % 128 := by omega
        have b1 : (m : Int) % 128 < 128 := by omega
        go_wp2_with (refine (add_c g T r v' acc false _ 1 1 [(m : Int) % 128 + 128] _ (HW.out.alloc _) (reads_box _ _) hla.out).mono ?_; rintro e w' ⟨v2, rfl, hW2, hN2, hO2⟩; have HW2 := Aside0.mk hW2; have HN2 := Aside0.mk hN2; have HO2 := Aside0.mk hO2; clear hW2 hN2 hO2)
        go_roundw
        case rel => exact ⟨m / 128, acc ++ [(m : Int) % 128 + 128], v2, congrArg (Value.int .i64) E3.out, ⟨by have := hm.out; omega⟩, ⟨by rw [List.append_assoc, ← HA.out, HE.out]; rfl⟩, HW2, ⟨HN.out.trans (NewRow.of_alloc HN2.out) HO1.out.size⟩, ⟨HO1.out.trans ((Only.refl _ _).alloc _ |>.then_ HO2.out) (fun i hi s => WS.step HN.out hi s)⟩⟩
        case measure => rw [E3.out]; simp [intOf]; omega
      · have hlt' : decide (128 ≤ m) = false := decide_eq_false hlt
        have HE := Aside0.mk (enc_lt (n := m) (by omega))
        go_wp2_with (refine (add_c g T r v' acc false _ 1 1 [(m : Int)] _ (HW.out.alloc _) (reads_box _ _) hla.out).mono ?_; rintro e w' ⟨v2, rfl, hW2, hN2, hO2⟩; have HW2 := Aside0.mk hW2; have HN2 := Aside0.mk hN2; have HO2 := Aside0.mk hO2; clear hW2 hN2 hO2)
        go_end0
        exact IsWr.mk (by rw [E.out, ← HA.out, HE.out]) HW2.out (HN.out.trans (NewRow.of_alloc HN2.out) HO1.out.size) (HO1.out.trans ((Only.refl _ _).alloc _ |>.then_ HO2.out) (fun i hi s => WS.step HN.out hi s))
end Go.Proofs.Ytcbehfbfaonanaa.Pk
end

/- The packer's writer: what Flag, Text and Bytes come to; and what is answered where there is no writer. -/
section
namespace Go.Proofs.Ytcbehfbfaonanaa.Pk
open Go.RowKit Go.Proofs.YtcbehfbfaonanaaW.PrintWords Go.Proofs.YtcbehfbfaonanaaW.PrintLast Go.Proofs.YtcbehfbfaonanaaW.PrintMore
set_option linter.unusedVariables false
set_option linter.unusedSimpArgs false

def wflag (on : Bool) (xs : List Int) (bad : Bool) : List Int × Bool := wnum (if on = true then 1 else 0) xs bad
def wtext (s : ByteArray) (xs : List Int) (bad : Bool) : List Int × Bool := if (wnum (s.size : Int) xs bad).2 = true then ((wnum (s.size : Int) xs bad).1, true) else ((wnum (s.size : Int) xs bad).1 ++ bytesOf s, false)
theorem wnum_le (n : Int) (xs : List Int) (bad : Bool) : (wnum n xs bad).1.length ≤ xs.length + 8 := by
  rcases wnum_cases n xs bad with ⟨_, e⟩ | ⟨_, _, e⟩ | ⟨_, _, _, e⟩ | ⟨h0, h1, _, e⟩
  · rw [e]; simp
  · rw [e]; simp
  · rw [e]; simp
  · rw [e]
    have := enc_len8 (n := n.toNat) (by omega)
    simp; omega

theorem WrAt.bytes {w : World} {g T : Nat} {r : List Value} {v : Value} {xs : List Int} {bad : Bool} (h : WrAt w g T r v xs bad) (e : TypeId) (s : ByteArray) : WrAt (Lib.bytesWorld w e s) g T r v xs bad := h.move fun k hk => by
  refine Lib.bytesWorld_at_old w e s k ?_
  rcases hk with rfl | hk
  · exact blk_lt h.1
  · exact own_lt h.2.1 k hk
theorem bytes_size (w : World) (e : TypeId) (s : ByteArray) : w.heap.size ≤ (Lib.bytesWorld w e s).heap.size := (bytes_below (Below.refl w.heap.size w) (Nat.le_refl _) e s).size
set_option maxHeartbeats 1000000 in
theorem wFlag_c (on : Bool) (g T : Nat) (r : List Value) (v : Value) (xs : List Int) (bad : Bool) (w : World) (h : WrAt w g T r v xs bad) (hn : xs.length ≤ 140737488350000) :
    Calls Try.prog 101 #[.pointer (some ⟨g, 0, none⟩), .bool on] w (IsWr g T r v (wflag on xs bad).1 (wflag on xs bad).2 w) := by
  cases on
  · have C := Aside0.mk (show Calls Try.prog _ _ w (IsWr g T r v (wflag false xs bad).1 (wflag false xs bad).2 w) from wNum_c 0 g T r v xs bad w h hn)
    generalize wflag false xs bad = R at *
    clear h
    go_enter Try.func101, Try.ntmps101
    go_wp2_with (refine C.out.mono ?_; rintro e w' ⟨v2, rfl, hW2, hN2, hO2⟩; have H := Aside0.mk (show IsWr g T r v R.1 R.2 w (.returned (.tuple #[])) w' from ⟨v2, rfl, hW2, hN2, hO2⟩); clear hW2 hN2 hO2)
    go_end0
    exact H.out
  · have C := Aside0.mk (show Calls Try.prog _ _ w (IsWr g T r v (wflag true xs bad).1 (wflag true xs bad).2 w) from wNum_c 1 g T r v xs bad w h hn)
    generalize wflag true xs bad = R at *
    clear h
    go_enter Try.func101, Try.ntmps101
    go_wp2_with (refine C.out.mono ?_; rintro e w' ⟨v2, rfl, hW2, hN2, hO2⟩; have H := Aside0.mk (show IsWr g T r v R.1 R.2 w (.returned (.tuple #[])) w' from ⟨v2, rfl, hW2, hN2, hO2⟩); clear hW2 hN2 hO2)
    go_end0
    exact H.out

set_option maxRecDepth 100000 in
set_option maxHeartbeats 1000000 in
theorem wText_c (s : ByteArray) (g T : Nat) (r : List Value) (v : Value) (xs : List Int) (bad : Bool) (w : World) (h : WrAt w g T r v xs bad) (hn : xs.length + s.size ≤ 140737488350000) :
    Calls Try.prog 105 #[.pointer (some ⟨g, 0, none⟩), .string s] w (IsWr g T r v (wtext s xs bad).1 (wtext s xs bad).2 w) := by
  have C := Aside0.mk (wNum_c (s.size : Int) g T r v xs bad w h (by omega))
  have HL := Aside0.mk (wnum_le (s.size : Int) xs bad)
  have HS := Aside0.mk (show s.size ≤ 9223372036854775807 by omega)
  have HD := Aside0.mk (show wtext s xs bad = if (wnum (s.size : Int) xs bad).2 = true then ((wnum (s.size : Int) xs bad).1, true) else ((wnum (s.size : Int) xs bad).1 ++ bytesOf s, false) from rfl)
  generalize wtext s xs bad = R at *
  generalize wnum (s.size : Int) xs bad = R1 at *
  obtain ⟨xs1, bad1⟩ := R1
  simp only at C HL HD
  have HN := Aside0.mk (show xs1.length + s.size ≤ 140737488355328 by have := HL.out; omega)
  clear hn h
  cases bad1
  · have E := Aside0.mk (show R = (xs1 ++ bytesOf s, false) from HD.out)
    clear HD
    have kb := fun W => print_bytes (P := Try.prog) 9 37 5 Try.underlying9 Try.underlying37 Try.underlying5 s W
    go_enter Try.func105, Try.ntmps105
    go_wp2_with (first
      | (go_at_call 62; (with_reducible refine C.out.mono ?_); rintro e w' ⟨v2, rfl, hW2, hN2, hO2⟩; have c1 := hW2.cell1; have HW2 := Aside0.mk hW2; have HN2 := Aside0.mk hN2; have HO2 := Aside0.mk hO2; clear hW2 hN2 hO2)
      | (go_at_call 77; refine (add_c g T r _ xs1 false _ s.size _ (bytesOf s) _ (HW2.out.bytes _ _) (bytes_reads _ _ _ HS.out) HN.out).mono ?_; rintro e w' ⟨v3, rfl, hW3, hN3, hO3⟩; have HW3 := Aside0.mk hW3; have HN3 := Aside0.mk hN3; have HO3 := Aside0.mk hO3; clear hW3 hN3 hO3))
    go_end0
    refine IsWr.mk E.out HW3.out (HN2.out.trans ?_ HO2.out.size) (HO2.out.trans ((Only.of_below (bytes_below (Below.refl _ _) (Nat.le_refl _) _ _) _).then_ HO3.out) (fun i hi s => WS.step HN2.out hi s))
    rcases HN3.out with e | ⟨b, e, hb⟩
    · exact .inl e
    · exact .inr ⟨b, e, Nat.le_trans (bytes_size _ _ _) hb⟩
  · have E := Aside0.mk (show R = (xs1, true) from HD.out)
    clear HD
    go_enter Try.func105, Try.ntmps105
    go_wp2_with (refine C.out.mono ?_; rintro e w' ⟨v2, rfl, hW2, hN2, hO2⟩; have c1 := hW2.cell1; have HW2 := Aside0.mk hW2; have HN2 := Aside0.mk hN2; have HO2 := Aside0.mk hO2; clear hW2 hN2 hO2)
    go_end0
    exact IsWr.mk E.out HW2.out HN2.out HO2.out

theorem wBytes_bad (g T : Nat) (r : List Value) (v : Value) (xs : List Int) (w : World) (h : WrAt w g T r v xs true) :
    Calls Try.prog 42 #[.pointer (some ⟨g, 0, none⟩)] w fun e w' => e = .returned (.tuple #[.slice none 0 0, .int .i64 1]) ∧ w = w' := by
  have c1 := h.cell1
  clear h
  go_enter Try.func42, Try.ntmps42
  go_wp2
  go_ret2
  exact ⟨rfl, rfl⟩
/-- Bytes of a writer that isn't spoilt: a new row. -/
def IsBytes (xs : List Int) (w : World) (e : Ending) (w' : World) : Prop :=
  ∃ q c, e = .returned (.tuple #[.slice (some ⟨q, 0, none⟩) xs.length c, .int .i64 0]) ∧ w'.ownsRow w.heap.size 5 1 (.slice (some ⟨q, 0, none⟩) xs.length c) xs.length (nums .u8 xs) ∧ xs.length ≤ c ∧ c ≤ 9223372036854775807 ∧ w.heap.size ≤ q ∧ Below w.heap.size w w'
set_option maxHeartbeats 1000000 in
theorem wBytes_c (g T : Nat) (r : List Value) (v : Value) (xs : List Int) (w : World) (h : WrAt w g T r v xs false) (hn : xs.length ≤ 140737488355328) :
    Calls Try.prog 42 #[.pointer (some ⟨g, 0, none⟩)] w (IsBytes xs w) := by
  have c1 := h.cell1
  obtain ⟨A, c, rfl⟩ := own_slice h.2.1
  have HL := Aside0.mk (show (w.alloc (.cells #[] 5)).cell? ⟨g, 0, none⟩ = some (.slice A xs.length c) from (h.alloc _).cell0)
  have h0 := HL.out
  have HR := Aside0.mk (own_reads' h.2.1)
  have HO := Aside0.mk (own_lit w w.heap.size 5 .u8 [] (Nat.le_refl _) (by simp))
  clear h
  have hx : xs.length = xs.length := rfl
  go_enter Try.func42, Try.ntmps42
  go_wp2_with (at_builtin; refine print_append_row (w0 := w) w.heap.size rfl (.tmp 13) (.tmp 18) 37 5 .u8 1 rfl Try.underlying37 info_u8 (by decide) (.slice (some ⟨w.heap.size, 0, none⟩) 0 0) [] xs A xs.length c rfl rfl HO.out (HR.out.allocS _) (below_alloc (Below.refl _ _) _) (by simp) (by simpa using hn) ?_; intro v1 w1 hO hB hg hat; obtain ⟨g1, cap, rfl, k1, k2, k3, k4, k5⟩ := row_some hO (b0 := w.heap.size) rfl hat; have K3 := Aside0.mk k3; have HB := Aside0.mk hB; have HO1 := Aside0.mk hO; clear hO hg hat k3 k5 hB)
  go_ret2
  exact ⟨g1, cap, rfl, HO1.out, K3.out, k4, k1, HB.out⟩
end Go.Proofs.Ytcbehfbfaonanaa.Pk
end

/- The form that writes: what its four methods come to. -/
section
namespace Go.Proofs.Ytcbehfbfaonanaa.Wr
open Go.RowKit Go.Proofs.YtcbehfbfaonanaaW.PrintWords Go.Proofs.YtcbehfbfaonanaaW.PrintLast Go.Proofs.YtcbehfbfaonanaaW.PrintMore Go.Proofs.Ytcbehfbfaonanaa.Pk
set_option linter.unusedVariables false
set_option linter.unusedSimpArgs false

/-- The writer's state oas it is seen: its bytes, whether the packer is spoilt, whether a bound was broken. -/
abbrev OSt := List Int × Bool × Bool
def OInv (g : Nat) (s : OSt) (w : World) : Prop := ∃ v, WrAt w g 83 [.bool s.2.2] v s.1 s.2.1
def OOwn (g : Nat) (h : Array Obj) (k : Nat) : Prop := k = g ∨ ∃ cs T, h[g]? = some (.cells cs T (0, 0)) ∧ ∃ v, cs[0]? = some v ∧ v.ownBlock = some k
theorem OOwn.of {g : Nat} {w : World} {T : TypeId} {r : List Value} {v : Value} {xs : List Int} {bad : Bool} (h : WrAt w g T r v xs bad) (k : Nat) : OOwn g w.heap k ↔ WS g v k := by
  have e : ([v, .bool bad] ++ r).toArray[0]? = some v := by simp
  constructor
  · rintro (e' | ⟨cs, T', hb, v', hv, hk⟩)
    · exact .inl e'
    · rw [h.1] at hb
      injection hb with hb
      injection hb with hb
      subst hb
      rw [e] at hv
      injection hv with hv
      subst hv
      exact .inr hk
  · rintro (e' | hk)
    · exact .inl e'
    · exact .inr ⟨_, _, h.1, v, e, hk⟩
theorem WrAt.third {w : World} {g T : Nat} {o : Bool} {v : Value} {xs : List Int} {bad : Bool} (h : WrAt w g T [.bool o] v xs bad) (o' : Bool) : WrAt (w.setCell ⟨g, 2, none⟩ (.bool o')) g T [.bool o'] v xs bad :=
  ⟨by rw [blk_set h.1]; simp, own_setCell h.2.1 (p := ⟨g, 2, none⟩) (Ne.symm h.2.2) _, h.2.2⟩
theorem WrAt.cell2 {w : World} {g T : Nat} {o : Bool} {v : Value} {xs : List Int} {bad : Bool} (h : WrAt w g T [.bool o] v xs bad) : w.cell? ⟨g, 2, none⟩ = some (.bool o) := by rw [blk_cell h.1]; rfl

/-- What the writer's methods come to. -/
def onum (s : OSt) (n lo hi : Int) : OSt := ((wnum n s.1 s.2.1).1, (wnum n s.1 s.2.1).2, s.2.2 || decide (n < lo) || decide (hi < n))
def oflag (s : OSt) (x : Bool) : OSt := ((wflag x s.1 s.2.1).1, (wflag x s.1 s.2.1).2, s.2.2)
def otext (s : OSt) (x : ByteArray) (most : Int) : OSt := ((wtext x s.1 s.2.1).1, (wtext x s.1 s.2.1).2, s.2.2 || decide (most < (x.size : Int)))
def ocount (s : OSt) (n most : Int) : OSt := ((wnum n s.1 s.2.1).1, (wnum n s.1 s.2.1).2, s.2.2 || decide (most < n))
def oForm (g : Nat) : Form where
  ty := 77
  v := .pointer (some ⟨g, 0, none⟩)
  k := fun n => if n = 0 then 39 else if n = 1 then 103 else if n = 2 then 104 else 102
  σ := OSt
  Inv := OInv g
  own := OOwn g
  room := fun s => s.1.length
  num := fun s n lo hi => (onum s n lo hi, n)
  flag := fun s x => (oflag s x, x)
  text := fun s x most => (otext s x most, x)
  count := fun s n most => (ocount s n most, n)

/-- A writer's call that leaves the cell oas it was, seen oas a step. -/
theorem OStep {g b i : Nat} {s s' : OSt} {cs : Array Value} {T : TypeId} {u : Value} {w w' : World} {d : Nat} {v v' : Value} (h : WrAt w g 83 [.bool s.2.2] v s.1 s.2.1) (hb : w.heap[b]? = some (.cells cs T (0, 0))) (hc : cs[i]? = some u) (ho : ¬ OOwn g w.heap b)
    (h' : WrAt w' g 83 [.bool s'.2.2] v' s'.1 s'.2.1) (hN : NewRow w v v') (hO : Only (WS g v) w w') (hr : s'.1.length ≤ s.1.length + d) : Stepped (oForm g) s s' [(⟨b, i, none⟩, u)] d w w' := by
  refine ⟨⟨v', h'⟩, fun k hk ho' => (OOwn.of h k).2 (WS.step hN hk ((OOwn.of h' k).1 ho')), ?_, hr⟩
  refine ⟨hO.os, hO.tape, hO.output, hO.size, fun k hk hn => ?_⟩
  rw [hO.block k hk (fun hs => hn ((OOwn.of h k).2 hs))]
  exact (setCell_self hb hc k).symm
theorem OStep0 {g : Nat} {s s' : OSt} {w w' : World} {d : Nat} {v v' : Value} (h : WrAt w g 83 [.bool s.2.2] v s.1 s.2.1)
    (h' : WrAt w' g 83 [.bool s'.2.2] v' s'.1 s'.2.1) (hN : NewRow w v v') (hO : Only (WS g v) w w') (hr : s'.1.length ≤ s.1.length + d) : Stepped (oForm g) s s' [] d w w' :=
  ⟨⟨v', h'⟩, fun k hk ho' => (OOwn.of h k).2 (WS.step hN hk ((OOwn.of h' k).1 ho')), ⟨hO.os, hO.tape, hO.output, hO.size, fun k hk hn => hO.block k hk (fun hs => hn ((OOwn.of h k).2 hs))⟩, hr⟩

theorem OStep.of {g b i : Nat} {s s' : OSt} {cs : Array Value} {T : TypeId} {u : Value} {w w' : World} {d : Nat} {v : Value} {e : Ending} (h : WrAt w g 83 [.bool s.2.2] v s.1 s.2.1) (hb : w.heap[b]? = some (.cells cs T (0, 0))) (hc : cs[i]? = some u) (ho : ¬ OOwn g w.heap b)
    (h' : IsWr g 83 [.bool s'.2.2] v s'.1 s'.2.1 w e w') (hr : s'.1.length ≤ s.1.length + d) : Did (oForm g) s s' [(⟨b, i, none⟩, u)] d w e w' := by
  obtain ⟨v', rfl, h1, h2, h3⟩ := h'
  exact ⟨rfl, OStep h hb hc ho h1 h2 h3 hr⟩
theorem IsWr.undrew {g T : Nat} {r : List Value} {v : Value} {xs : List Int} {bad : Bool} {w w' : World} {e : Ending} (h : IsWr g T r v xs bad w.drew e w') : IsWr g T r v xs bad w e w' := by
  obtain ⟨v', rfl, h1, h2, h3⟩ := h
  exact ⟨v', rfl, h1, h2, h3.os, h3.tape, h3.output, h3.size, h3.block⟩
theorem keepCell {g b i T0 : Nat} {r : List Value} {bad : Bool} {xs : List Int} {cs : Array Value} {T : TypeId} {u : Value} {w : World} {v : Value} (h : WrAt w g T0 r v xs bad) (hb : w.heap[b]? = some (.cells cs T (0, 0))) (hc : cs[i]? = some u) (ho : ¬ OOwn g w.heap b) :
    ∀ w' : World, Only (WS g v) w w' → w'.cell? ⟨b, i, none⟩ = some u := fun w' hO => hO.cell ((blk_cell hb i).trans hc) (fun hs => ho ((OOwn.of h b).2 hs))
theorem wtext_le (x : ByteArray) (xs : List Int) (bad : Bool) : (wtext x xs bad).1.length ≤ xs.length + (8 + x.size) := by
  have h := wnum_le (x.size : Int) xs bad
  unfold wtext
  split
  · dsimp only; omega
  · rw [List.length_append, show (bytesOf x).length = x.size by simp [bytesOf]]; omega
set_option maxRecDepth 100000 in
set_option maxHeartbeats 2000000 in
theorem oflag_c (g b i : Nat) (s : OSt) (w : World) (cs : Array Value) (T : TypeId) (x : Bool) (hI : OInv g s w) (ho : ¬ OOwn g w.heap b) (hr : s.1.length + 8 ≤ cap) (hb : w.heap[b]? = some (.cells cs T (0, 0))) (hc : cs[i]? = some (.bool x)) :
    Calls Try.prog 103 #[.pointer (some ⟨g, 0, none⟩), .pointer (some ⟨b, i, none⟩)] w (Did (oForm g) s (oflag s x) [(⟨b, i, none⟩, .bool x)] 8 w) := by
  obtain ⟨v, hW⟩ := hI
  suffices hs : Calls Try.prog 103 #[.pointer (some ⟨g, 0, none⟩), .pointer (some ⟨b, i, none⟩)] w (IsWr g 83 [.bool s.2.2] v (wflag x s.1 s.2.1).1 (wflag x s.1 s.2.1).2 w) from hs.mono fun e w' h' => OStep.of (s' := oflag s x) hW hb hc ho h' (wnum_le _ _ _)
  have C := Aside0.mk (wFlag_c x g 83 [.bool s.2.2] v s.1 s.2.1 w.drew hW (by unfold cap at hr; omega))
  have HK := Aside0.mk (keepCell hW hb hc ho)
  have c0 : w.cell? ⟨b, i, none⟩ = some (.bool x) := (blk_cell hb i).trans hc
  generalize wflag x s.1 s.2.1 = R at *
  clear hW hb hc ho hr
  go_enter Try.func103, Try.ntmps103
  go_region_held3 (fun W => W.cell? ⟨b, i, none⟩ = some (.bool x)) (go_keep) ((go_at_call 101; (with_reducible refine C.out.mono ?_); rintro e w' ⟨v2, rfl, hW2, hN2, hO2⟩; have H := Aside0.mk (show IsWr g 83 [.bool s.2.2] v R.1 R.2 w.drew (.returned (.tuple #[])) w' from ⟨v2, rfl, hW2, hN2, hO2⟩); have cc := HK.out w' ⟨hO2.os, hO2.tape, hO2.output, hO2.size, hO2.block⟩; clear hW2 hN2 hO2))
  go_wp2
  go_end0
  exact IsWr.undrew H.out
theorem IsWr.unset {g : Nat} {o o' : Bool} {v : Value} {xs ys : List Int} {bad bad' : Bool} {w w' : World} {e : Ending} (h0 : WrAt w g 83 [.bool o] v ys bad') (h : IsWr g 83 [.bool o'] v xs bad (w.setCell ⟨g, 2, none⟩ (.bool o')).drew e w') : IsWr g 83 [.bool o'] v xs bad w e w' := by
  obtain ⟨v', rfl, h1, h2, h3⟩ := IsWr.undrew h
  refine ⟨v', rfl, h1, ?_, ((Only.refl (WS g v) w).set (.inr (.inl rfl)) _).then_ h3⟩
  rcases h2 with h2 | ⟨b, h2, h4⟩
  · exact .inl h2
  · exact .inr ⟨b, h2, by rwa [World.size_setCell] at h4⟩
theorem OOwn.set {g b : Nat} {w : World} {T : TypeId} {o : Bool} {v : Value} {xs : List Int} {bad : Bool} (h : WrAt w g T [.bool o] v xs bad) (ho : ¬ OOwn g w.heap b) (o' : Bool) : ¬ OOwn g (w.setCell ⟨g, 2, none⟩ (.bool o')).heap b :=
  fun h' => ho ((OOwn.of h b).2 ((OOwn.of (WrAt.third h o') b).1 h'))
set_option maxRecDepth 100000 in
set_option maxHeartbeats 2000000 in
theorem onum_c (g b i : Nat) (s : OSt) (w : World) (cs : Array Value) (T : TypeId) (n lo hi : Int) (hI : OInv g s w) (ho : ¬ OOwn g w.heap b) (hr : s.1.length + 8 ≤ cap) (hb : w.heap[b]? = some (.cells cs T (0, 0))) (hc : cs[i]? = some (.int .i64 n)) :
    Calls Try.prog 39 #[.pointer (some ⟨g, 0, none⟩), .pointer (some ⟨b, i, none⟩), .int .i64 lo, .int .i64 hi] w (Did (oForm g) s (onum s n lo hi) [(⟨b, i, none⟩, .int .i64 n)] 8 w) := by
  obtain ⟨v, hW⟩ := hI
  obtain ⟨xs, bad, o⟩ := s
  dsimp only at hW hr
  obtain ⟨o', ho'⟩ : ∃ o', o' = (o || decide (n < lo) || decide (hi < n)) := ⟨_, rfl⟩
  suffices hs : Calls Try.prog 39 #[.pointer (some ⟨g, 0, none⟩), .pointer (some ⟨b, i, none⟩), .int .i64 lo, .int .i64 hi] w (IsWr g 83 [.bool o'] v (wnum n xs bad).1 (wnum n xs bad).2 w) from hs.mono fun e w' h' => OStep.of (s := (xs, bad, o)) (s' := onum (xs, bad, o) n lo hi) hW hb hc ho (by rw [ho'] at h'; exact h') (wnum_le _ _ _)
  have C := Aside0.mk (fun o' => wNum_c n g 83 [.bool o'] v xs bad (w.setCell ⟨g, 2, none⟩ (.bool o')).drew (WrAt.third hW o') (by unfold cap at hr; omega))
  have hgb : b ≠ g := fun e => ho (.inl e)
  have hb' : ∀ o', (w.setCell ⟨g, 2, none⟩ (.bool o')).heap[b]? = some (.cells cs T (0, 0)) := fun o' => (Below.heap_setCell _ _ _ _ hgb).trans hb
  have HK := Aside0.mk (fun o' => keepCell (WrAt.third hW o') (hb' o') hc (OOwn.set hW ho o'))
  have c0 : w.cell? ⟨b, i, none⟩ = some (.int .i64 n) := (blk_cell hb i).trans hc
  have HC1 := Aside0.mk (fun o' => (blk_cell (hb' o') i).trans hc)
  have cg2 := WrAt.cell2 hW
  have fg2 := hW.frozen 2
  have HW := Aside0.mk hW
  generalize wnum n xs bad = R at *
  clear hW hb hb' hc ho hr
  cases o
  · by_cases h1 : n < lo
    · skip
      obtain rfl : o' = true := by rw [ho']; simp [h1]
      clear ho'
      have C' := Aside0.mk (C.out true)
      have HK' := Aside0.mk (HK.out true)
      have c1 := HC1.out true
      go_enter Try.func39, Try.ntmps39
      go_wp2
      go_region_held3 (fun W => W.cell? ⟨b, i, none⟩ = some (.int .i64 n)) (go_keep) ((go_at_call 62; (with_reducible refine C'.out.mono ?_); rintro e w' ⟨v2, rfl, hW2, hN2, hO2⟩; have H := Aside0.mk (show IsWr g 83 [.bool true] v R.1 R.2 (w.setCell ⟨g, 2, none⟩ (.bool true)).drew (.returned (.tuple #[])) w' from ⟨v2, rfl, hW2, hN2, hO2⟩); have cc := HK'.out w' ⟨hO2.os, hO2.tape, hO2.output, hO2.size, hO2.block⟩; clear hW2 hN2 hO2))
      go_wp2
      go_end0
      exact IsWr.unset HW.out H.out
    · by_cases h2 : hi < n
      · skip
        obtain rfl : o' = true := by rw [ho']; simp [h2]
        clear ho'
        have C' := Aside0.mk (C.out true)
        have HK' := Aside0.mk (HK.out true)
        have c1 := HC1.out true
        go_enter Try.func39, Try.ntmps39
        go_wp2
        go_region_held3 (fun W => W.cell? ⟨b, i, none⟩ = some (.int .i64 n)) (go_keep) ((go_at_call 62; (with_reducible refine C'.out.mono ?_); rintro e w' ⟨v2, rfl, hW2, hN2, hO2⟩; have H := Aside0.mk (show IsWr g 83 [.bool true] v R.1 R.2 (w.setCell ⟨g, 2, none⟩ (.bool true)).drew (.returned (.tuple #[])) w' from ⟨v2, rfl, hW2, hN2, hO2⟩); have cc := HK'.out w' ⟨hO2.os, hO2.tape, hO2.output, hO2.size, hO2.block⟩; clear hW2 hN2 hO2))
        go_wp2
        go_end0
        exact IsWr.unset HW.out H.out
      · skip
        obtain rfl : o' = false := by rw [ho']; simp [Int.not_lt.1 h1, Int.not_lt.1 h2]
        clear ho'
        have C' := Aside0.mk (C.out false)
        have HK' := Aside0.mk (HK.out false)
        have c1 := HC1.out false
        go_enter Try.func39, Try.ntmps39
        go_wp2
        go_region_held3 (fun W => W.cell? ⟨b, i, none⟩ = some (.int .i64 n)) (go_keep) ((go_at_call 62; (with_reducible refine C'.out.mono ?_); rintro e w' ⟨v2, rfl, hW2, hN2, hO2⟩; have H := Aside0.mk (show IsWr g 83 [.bool false] v R.1 R.2 (w.setCell ⟨g, 2, none⟩ (.bool false)).drew (.returned (.tuple #[])) w' from ⟨v2, rfl, hW2, hN2, hO2⟩); have cc := HK'.out w' ⟨hO2.os, hO2.tape, hO2.output, hO2.size, hO2.block⟩; clear hW2 hN2 hO2))
        go_wp2
        go_end0
        exact IsWr.unset HW.out H.out
  · skip
    obtain rfl : o' = true := by rw [ho']; simp []
    clear ho'
    have C' := Aside0.mk (C.out true)
    have HK' := Aside0.mk (HK.out true)
    have c1 := HC1.out true
    go_enter Try.func39, Try.ntmps39
    go_wp2
    go_region_held3 (fun W => W.cell? ⟨b, i, none⟩ = some (.int .i64 n)) (go_keep) ((go_at_call 62; (with_reducible refine C'.out.mono ?_); rintro e w' ⟨v2, rfl, hW2, hN2, hO2⟩; have H := Aside0.mk (show IsWr g 83 [.bool true] v R.1 R.2 (w.setCell ⟨g, 2, none⟩ (.bool true)).drew (.returned (.tuple #[])) w' from ⟨v2, rfl, hW2, hN2, hO2⟩); have cc := HK'.out w' ⟨hO2.os, hO2.tape, hO2.output, hO2.size, hO2.block⟩; clear hW2 hN2 hO2))
    go_wp2
    go_end0
    exact IsWr.unset HW.out H.out

set_option maxRecDepth 100000 in
set_option maxHeartbeats 2000000 in
theorem ocount_c (g : Nat) (s : OSt) (w : World) (n hi : Int) (hI : OInv g s w) (hr : s.1.length + 8 ≤ cap) :
    Calls Try.prog 102 #[.pointer (some ⟨g, 0, none⟩), .int .i64 n, .int .i64 hi] w (fun e w' => e = .returned (.int .i64 n) ∧ Stepped (oForm g) s (ocount s n hi) [] 8 w w') := by
  obtain ⟨v, hW⟩ := hI
  obtain ⟨xs, bad, o⟩ := s
  dsimp only at hW hr
  obtain ⟨o', ho'⟩ : ∃ o', o' = (o || decide (hi < n)) := ⟨_, rfl⟩
  suffices hs : Calls Try.prog 102 #[.pointer (some ⟨g, 0, none⟩), .int .i64 n, .int .i64 hi] w (fun e w' => e = .returned (.int .i64 n) ∧ IsWr g 83 [.bool o'] v (wnum n xs bad).1 (wnum n xs bad).2 w (.returned (.tuple #[])) w') from hs.mono fun e w' h' => by
    obtain ⟨he, v', _, h1, h2, h3⟩ := h'
    refine ⟨he, OStep0 (s' := ocount (xs, bad, o) n hi) hW (by rw [ho'] at h1; exact h1) h2 h3 (wnum_le _ _ _)⟩
  have C := Aside0.mk (fun o' => wNum_c n g 83 [.bool o'] v xs bad (w.setCell ⟨g, 2, none⟩ (.bool o')) (WrAt.third hW o') (by unfold cap at hr; omega))
  have cg2 := WrAt.cell2 hW
  have fg2 := hW.frozen 2
  have HW := Aside0.mk hW
  generalize wnum n xs bad = R at *
  clear hW hr
  cases o
  · by_cases h2 : hi < n
    · skip
      obtain rfl : o' = true := by rw [ho']; simp [h2]
      clear ho'
      have C' := Aside0.mk (C.out true)
      go_enter Try.func102, Try.ntmps102
      go_wp2_with (go_at_call 62; (with_reducible refine C'.out.mono ?_); rintro e w' ⟨v2, rfl, hW2, hN2, hO2⟩; have H := Aside0.mk (show IsWr g 83 [.bool true] v R.1 R.2 (w.setCell ⟨g, 2, none⟩ (.bool true)).drew (.returned (.tuple #[])) w' from ⟨v2, rfl, hW2, hN2.imp id id, hO2.os, hO2.tape, hO2.output, hO2.size, hO2.block⟩); clear hW2 hN2 hO2)
      go_ret
      exact ⟨rfl, IsWr.unset HW.out H.out⟩
    · skip
      obtain rfl : o' = false := by rw [ho']; simp [Int.not_lt.1 h2]
      clear ho'
      have C' := Aside0.mk (C.out false)
      go_enter Try.func102, Try.ntmps102
      go_wp2_with (go_at_call 62; (with_reducible refine C'.out.mono ?_); rintro e w' ⟨v2, rfl, hW2, hN2, hO2⟩; have H := Aside0.mk (show IsWr g 83 [.bool false] v R.1 R.2 (w.setCell ⟨g, 2, none⟩ (.bool false)).drew (.returned (.tuple #[])) w' from ⟨v2, rfl, hW2, hN2.imp id id, hO2.os, hO2.tape, hO2.output, hO2.size, hO2.block⟩); clear hW2 hN2 hO2)
      go_ret
      exact ⟨rfl, IsWr.unset HW.out H.out⟩
  · skip
    obtain rfl : o' = true := by rw [ho']; simp []
    clear ho'
    have C' := Aside0.mk (C.out true)
    go_enter Try.func102, Try.ntmps102
    go_wp2_with (go_at_call 62; (with_reducible refine C'.out.mono ?_); rintro e w' ⟨v2, rfl, hW2, hN2, hO2⟩; have H := Aside0.mk (show IsWr g 83 [.bool true] v R.1 R.2 (w.setCell ⟨g, 2, none⟩ (.bool true)).drew (.returned (.tuple #[])) w' from ⟨v2, rfl, hW2, hN2.imp id id, hO2.os, hO2.tape, hO2.output, hO2.size, hO2.block⟩); clear hW2 hN2 hO2)
    go_ret
    exact ⟨rfl, IsWr.unset HW.out H.out⟩

set_option maxRecDepth 100000 in
set_option maxHeartbeats 2000000 in
theorem otext_c (g b i : Nat) (s : OSt) (w : World) (cs : Array Value) (T : TypeId) (x : ByteArray) (hi : Int) (hI : OInv g s w) (ho : ¬ OOwn g w.heap b) (hr : s.1.length + 8 + x.size ≤ cap) (hb : w.heap[b]? = some (.cells cs T (0, 0))) (hc : cs[i]? = some (.string x)) :
    Calls Try.prog 104 #[.pointer (some ⟨g, 0, none⟩), .pointer (some ⟨b, i, none⟩), .int .i64 hi] w (Did (oForm g) s (otext s x hi) [(⟨b, i, none⟩, .string x)] (8 + x.size) w) := by
  obtain ⟨v, hW⟩ := hI
  obtain ⟨xs, bad, o⟩ := s
  dsimp only at hW hr
  obtain ⟨o', ho'⟩ : ∃ o', o' = (o || decide (hi < (x.size : Int))) := ⟨_, rfl⟩
  suffices hs : Calls Try.prog 104 #[.pointer (some ⟨g, 0, none⟩), .pointer (some ⟨b, i, none⟩), .int .i64 hi] w (IsWr g 83 [.bool o'] v (wtext x xs bad).1 (wtext x xs bad).2 w) from hs.mono fun e w' h' => OStep.of (s := (xs, bad, o)) (s' := otext (xs, bad, o) x hi) hW hb hc ho (by rw [ho'] at h'; exact h') (wtext_le _ _ _)
  have C := Aside0.mk (fun o' => wText_c x g 83 [.bool o'] v xs bad (w.setCell ⟨g, 2, none⟩ (.bool o')).drew (WrAt.third hW o') (by unfold cap at hr; omega))
  have hgb : b ≠ g := fun e => ho (.inl e)
  have hb' : ∀ o', (w.setCell ⟨g, 2, none⟩ (.bool o')).heap[b]? = some (.cells cs T (0, 0)) := fun o' => (Below.heap_setCell _ _ _ _ hgb).trans hb
  have HK := Aside0.mk (fun o' => keepCell (WrAt.third hW o') (hb' o') hc (OOwn.set hW ho o'))
  have c0 : w.cell? ⟨b, i, none⟩ = some (.string x) := (blk_cell hb i).trans hc
  have HC1 := Aside0.mk (fun o' => (blk_cell (hb' o') i).trans hc)
  have cg2 := WrAt.cell2 hW
  have fg2 := hW.frozen 2
  have HW := Aside0.mk hW
  have hx : (x.size : Int) ≤ 9223372036854775807 := by unfold cap at hr; omega
  generalize wtext x xs bad = R at *
  clear hW hb hb' hc ho hr
  cases o
  · by_cases h2 : hi < (x.size : Int)
    · skip
      obtain rfl : o' = true := by rw [ho']; simp [h2]
      clear ho'
      have C' := Aside0.mk (C.out true)
      have HK' := Aside0.mk (HK.out true)
      have c1 := HC1.out true
      go_enter Try.func104, Try.ntmps104
      go_wp2
      go_region_held3 (fun W => W.cell? ⟨b, i, none⟩ = some (.string x)) (go_keep) ((go_at_call 105; (with_reducible refine C'.out.mono ?_); rintro e w' ⟨v2, rfl, hW2, hN2, hO2⟩; have H := Aside0.mk (show IsWr g 83 [.bool true] v R.1 R.2 (w.setCell ⟨g, 2, none⟩ (.bool true)).drew (.returned (.tuple #[])) w' from ⟨v2, rfl, hW2, hN2, hO2⟩); have cc := HK'.out w' ⟨hO2.os, hO2.tape, hO2.output, hO2.size, hO2.block⟩; clear hW2 hN2 hO2))
      go_wp2
      go_end0
      exact IsWr.unset HW.out H.out
    · skip
      obtain rfl : o' = false := by rw [ho']; simp [Int.not_lt.1 h2]
      clear ho'
      have C' := Aside0.mk (C.out false)
      have HK' := Aside0.mk (HK.out false)
      have c1 := HC1.out false
      go_enter Try.func104, Try.ntmps104
      go_wp2
      go_region_held3 (fun W => W.cell? ⟨b, i, none⟩ = some (.string x)) (go_keep) ((go_at_call 105; (with_reducible refine C'.out.mono ?_); rintro e w' ⟨v2, rfl, hW2, hN2, hO2⟩; have H := Aside0.mk (show IsWr g 83 [.bool false] v R.1 R.2 (w.setCell ⟨g, 2, none⟩ (.bool false)).drew (.returned (.tuple #[])) w' from ⟨v2, rfl, hW2, hN2, hO2⟩); have cc := HK'.out w' ⟨hO2.os, hO2.tape, hO2.output, hO2.size, hO2.block⟩; clear hW2 hN2 hO2))
      go_wp2
      go_end0
      exact IsWr.unset HW.out H.out
  · skip
    obtain rfl : o' = true := by rw [ho']; simp []
    clear ho'
    have C' := Aside0.mk (C.out true)
    have HK' := Aside0.mk (HK.out true)
    have c1 := HC1.out true
    go_enter Try.func104, Try.ntmps104
    go_wp2
    go_region_held3 (fun W => W.cell? ⟨b, i, none⟩ = some (.string x)) (go_keep) ((go_at_call 105; (with_reducible refine C'.out.mono ?_); rintro e w' ⟨v2, rfl, hW2, hN2, hO2⟩; have H := Aside0.mk (show IsWr g 83 [.bool true] v R.1 R.2 (w.setCell ⟨g, 2, none⟩ (.bool true)).drew (.returned (.tuple #[])) w' from ⟨v2, rfl, hW2, hN2, hO2⟩); have cc := HK'.out w' ⟨hO2.os, hO2.tape, hO2.output, hO2.size, hO2.block⟩; clear hW2 hN2 hO2))
    go_wp2
    go_end0
    exact IsWr.unset HW.out H.out

set_option maxRecDepth 100000 in
theorem oGood (g : Nat) : (oForm g).Good where
  lt := fun {s w k} hI ho => by
    obtain ⟨v, hW⟩ := hI
    rcases (OOwn.of hW k).1 ho with rfl | hk
    · exact blk_lt hW.1
    · exact own_lt hW.2.1 k hk
  move := fun {s w w'} hI hm _ => by
    obtain ⟨v, hW⟩ := hI
    exact ⟨v, hW.move fun k hk => hm k ((OOwn.of hW k).2 hk)⟩
  own_move := fun {s w w'} hI hm k hk => by
    obtain ⟨v, hW⟩ := hI
    exact (OOwn.of hW k).2 ((OOwn.of (hW.move fun k hk => hm k ((OOwn.of hW k).2 hk)) k).1 hk)
  ahead := fun n m hn hm w => by
    obtain rfl | rfl | rfl | rfl : n = 0 ∨ n = 1 ∨ n = 2 ∨ n = 3 := by omega
    all_goals subst hm; rfl
  method := fun n m hn hm w => by
    obtain rfl | rfl | rfl | rfl : n = 0 ∨ n = 1 ∨ n = 2 ∨ n = 3 := by omega
    all_goals subst hm; rfl
  enter := fun n hn args w => by
    obtain rfl | rfl | rfl | rfl : n = 0 ∨ n = 1 ∨ n = 2 ∨ n = 3 := by omega
    all_goals rfl
  num_c := fun s w b i cs T n lo hi hI ho hr hb hc => onum_c g b i s w cs T n lo hi hI ho hr hb hc
  flag_c := fun s w b i cs T x hI ho hr hb hc => oflag_c g b i s w cs T x hI ho hr hb hc
  text_c := fun s w b i cs T x most hI ho hr hb hc => otext_c g b i s w cs T x most hI ho hr hb hc
  count_c := fun s w n most hI hr _ _ => ocount_c g s w n most hI hr
  count_lim := fun s n most hn _ => ⟨hn, .inl rfl⟩
end Go.Proofs.Ytcbehfbfaonanaa.Wr
end

/- The form that reads: what its four methods come to. -/
section
namespace Go.Proofs.Ytcbehfbfaonanaa.Wr
open Go.RowKit Go.Proofs.YtcbehfbfaonanaaW.PrintWords Go.Proofs.YtcbehfbfaonanaaW.PrintLast Go.Proofs.YtcbehfbfaonanaaW.PrintMore Go.Proofs.Ytcbehfbfaonanaa.Pk
set_option linter.unusedVariables false
set_option linter.unusedSimpArgs false

/-- The reader's state oas it is seen: the bytes that are left, whether the packer is spoilt, whether a bound was broken. -/
abbrev ISt := List Int × Bool × Bool
/-- The reader at block g, its packer at block r, the bytes in block q. -/
structure IInv (g r q : Nat) (s : ISt) (w : World) : Prop where
  blk : w.heap[g]? = some (.cells #[.pointer (some ⟨r, 0, none⟩), .bool s.2.2] 110 (0, 0))
  rd : RdAt w r q s.1 s.2.1
  bytes : ∀ x ∈ s.1, IsB x
  ner : g ≠ r
  neq : g ≠ q
def IOwn (g r q : Nat) (_ : Array Obj) (k : Nat) : Prop := k = g ∨ k = r ∨ k = q
variable {g r q b i : Nat} {s : ISt} {w w' : World} {cs : Array Value} {T : TypeId} {u v : Value} {bs : List Int} {bad o : Bool}
theorem IInv.lt (h : IInv g r q s w) {k : Nat} (hk : IOwn g r q w.heap k) : k < w.heap.size := by
  rcases hk with rfl | rfl | rfl
  · exact blk_lt h.blk
  · obtain ⟨off, c, hb, _⟩ := h.rd; exact blk_lt hb
  · obtain ⟨off, c, hb, _, _, _, hq, _⟩ := h.rd; exact hq
theorem IInv.move (h : IInv g r q s w) (hm : ∀ k, IOwn g r q w.heap k → w'.heap[k]? = w.heap[k]?) : IInv g r q s w' :=
  ⟨(hm g (.inl rfl)).trans h.blk, h.rd.move fun k hk => hm k (.inr hk), h.bytes, h.ner, h.neq⟩
/-- What the reader's methods come to. -/
def inum (s : ISt) (lo hi : Int) : ISt := ((rnum s.1 s.2.1).2.1, (rnum s.1 s.2.1).2.2, s.2.2 || decide ((rnum s.1 s.2.1).1 < lo) || decide (hi < (rnum s.1 s.2.1).1))
def iflag (s : ISt) : ISt := ((rflag s.1 s.2.1).2.1, (rflag s.1 s.2.1).2.2, s.2.2)
def itext (s : ISt) (most : Int) : ISt := ((rtext most s.1 s.2.1).2.1, (rtext most s.1 s.2.1).2.2, s.2.2)
def icount (s : ISt) (most : Int) : ISt := ((rcount most s.1 s.2.1).2.1, (rcount most s.1 s.2.1).2.2, s.2.2)
def iForm (g r q : Nat) : Form where
  ty := 106
  v := .pointer (some ⟨g, 0, none⟩)
  k := fun n => if n = 0 then 59 else if n = 1 then 108 else if n = 2 then 109 else 107
  σ := ISt
  Inv := IInv g r q
  own := IOwn g r q
  room := fun _ => 0
  num := fun s _ lo hi => (inum s lo hi, (rnum s.1 s.2.1).1)
  flag := fun s _ => (iflag s, (rflag s.1 s.2.1).1)
  text := fun s _ most => (itext s most, strOfNums (rtext most s.1 s.2.1).1)
  count := fun s _ most => (icount s most, (rcount most s.1 s.2.1).1)
theorem drop_mem {bs : List Int} {p : Int → Prop} (h : ∀ x ∈ bs, p x) (m : Nat) : ∀ x ∈ bs.drop m, p x := fun x hx => h x (List.mem_of_mem_drop hx)
theorem rflag_mem {bs : List Int} {bad : Bool} {p : Int → Prop} (h : ∀ x ∈ bs, p x) : ∀ x ∈ (rflag bs bad).2.1, p x := by
  unfold rflag
  split
  · exact h
  · split
    · intro x hx; nomatch hx
    · rename_i c t
      split
      · exact fun x hx => h x (.tail _ hx)
      · exact fun x hx => h x (.tail _ hx)
theorem rtext_mem {most : Int} {bs : List Int} {bad : Bool} {p : Int → Prop} (h : ∀ x ∈ bs, p x) : ∀ x ∈ (rtext most bs bad).2.1, p x := by
  unfold rtext
  split
  · exact rnum_mem h
  · exact drop_mem (rnum_mem h) _
theorem rcount_mem {most : Int} {bs : List Int} {bad : Bool} {p : Int → Prop} (h : ∀ x ∈ bs, p x) : ∀ x ∈ (rcount most bs bad).2.1, p x := by
  unfold rcount
  split
  · exact rnum_mem h
  · exact rnum_mem h

/-- A reader's call and the storing of what came, seen oas a step. -/
theorem IStep (h : IInv g r q s w) (hb : w.heap[b]? = some (.cells cs T (0, 0))) (ho : ¬ IOwn g r q w.heap b) (hR : RdAt w' r q bs bad) (hB : ∀ x ∈ bs, IsB x) (hO : Only (· = r) w w') (u : Value) :
    Stepped (iForm g r q) s (bs, bad, s.2.2) [(⟨b, i, none⟩, u)] 8 w (w'.setCell ⟨b, i, none⟩ u) := by
  have hg : w'.heap[g]? = w.heap[g]? := hO.block g (blk_lt h.blk) h.ner
  have hbg : g ≠ b := fun e => ho (.inl e.symm)
  refine ⟨⟨(Below.heap_setCell _ _ _ _ hbg).trans (hg.trans h.blk), hR.move fun k hk => Below.heap_setCell _ _ _ _ (fun e => ho (.inr (by have e' : k = b := e; rw [← e']; exact hk))), hB, h.ner, h.neq⟩, fun k _ hk => hk, ⟨hO.os, hO.tape, hO.output, by rw [World.size_setCell]; exact hO.size, fun k hk hn => setCell_congr (hO.block k hk (fun e => hn (.inr (.inl e)))) _ _⟩, Nat.zero_le _⟩
theorem IStep2 (h : IInv g r q s w) (hb : w.heap[b]? = some (.cells cs T (0, 0))) (ho : ¬ IOwn g r q w.heap b) (hR : RdAt w' r q bs bad) (hB : ∀ x ∈ bs, IsB x) (hO : Only (· = r) w w') (u : Value) (o : Bool) :
    Stepped (iForm g r q) s (bs, bad, o) [(⟨b, i, none⟩, u)] 8 w ((w'.setCell ⟨b, i, none⟩ u).setCell ⟨g, 1, none⟩ (.bool o)) := by
  have K := IStep (i := i) h hb ho hR hB hO u
  refine ⟨⟨by rw [blk_set K.inv.blk]; rfl, K.inv.rd.move fun k hk => Below.heap_setCell _ _ _ _ (fun e => ?_), hB, h.ner, h.neq⟩, fun k _ hk => hk, ⟨K.wrote.os, K.wrote.tape, K.wrote.output, by rw [World.size_setCell]; exact K.wrote.size, fun k hk hn => (Below.heap_setCell _ _ _ _ (fun e => hn (.inl e))).trans (K.wrote.block k hk hn)⟩, Nat.zero_le _⟩
  have e' : k = g := e
  rcases hk with hk | hk
  · exact h.ner (e'.symm.trans hk)
  · exact h.neq (e'.symm.trans hk)
theorem IStep0 (h : IInv g r q s w) (hR : RdAt w' r q bs bad) (hB : ∀ x ∈ bs, IsB x) (hO : Only (· = r) w w') : Stepped (iForm g r q) s (bs, bad, s.2.2) [] 8 w w' :=
  ⟨⟨(hO.block g (blk_lt h.blk) h.ner).trans h.blk, hR, hB, h.ner, h.neq⟩, fun k _ hk => hk, ⟨hO.os, hO.tape, hO.output, hO.size, fun k hk hn => hO.block k hk (fun e => hn (.inr (.inl e)))⟩, Nat.zero_le _⟩
/-- What a reader's call leaves oas it was. -/
theorem IKeep (h : IInv g r q s w) (hb : w.heap[b]? = some (.cells cs T (0, 0))) (hc : cs[i]? = some v) (ho : ¬ IOwn g r q w.heap b) :
    ∀ w' : World, Only (· = r) w w' → w'.cell? ⟨b, i, none⟩ = some v ∧ w'.frozen? ⟨b, i, none⟩ = false ∧ w'.cell? ⟨g, 1, none⟩ = some (.bool s.2.2) ∧ w'.frozen? ⟨g, 1, none⟩ = false := fun w' hO => by
  have h1 := hO.blk hb (fun e => ho (.inr (.inl e)))
  have h2 := hO.blk h.blk h.ner
  exact ⟨(blk_cell h1 i).trans hc, blk_frozen h1 i, (blk_cell h2 1).trans rfl, blk_frozen h2 1⟩

set_option maxRecDepth 100000 in
set_option maxHeartbeats 2000000 in
theorem iflag_c (g r q b i : Nat) (s : ISt) (w : World) (cs : Array Value) (T : TypeId) (x : Bool) (hI : IInv g r q s w) (ho : ¬ IOwn g r q w.heap b) (hb : w.heap[b]? = some (.cells cs T (0, 0))) (hc : cs[i]? = some (.bool x)) :
    Calls Try.prog 108 #[.pointer (some ⟨g, 0, none⟩), .pointer (some ⟨b, i, none⟩)] w (Did (iForm g r q) s (iflag s) [(⟨b, i, none⟩, .bool (rflag s.1 s.2.1).1)] 8 w) := by
  have C := Aside0.mk (rFlag_c r q s.1 s.2.1 w hI.rd hI.bytes)
  have HK := Aside0.mk (IKeep hI hb hc ho)
  have HS := Aside0.mk (fun (w' : World) (bs : List Int) (bad : Bool) (hR : RdAt w' r q bs bad) (hB : ∀ x ∈ bs, IsB x) (hO : Only (· = r) w w') (u : Value) => IStep (i := i) hI hb ho hR hB hO u)
  have HM := Aside0.mk (rflag_mem (bad := s.2.1) hI.bytes)
  have cg : w.cell? ⟨g, 0, none⟩ = some (.pointer (some ⟨r, 0, none⟩)) := (blk_cell hI.blk 0).trans rfl
  have e : iflag s = ((rflag s.1 s.2.1).2.1, (rflag s.1 s.2.1).2.2, s.2.2) := rfl
  rw [e]
  clear e
  generalize rflag s.1 s.2.1 = R at *
  clear hI hb hc ho
  go_enter Try.func108, Try.ntmps108
  go_wp2_with (go_at_call 106; (with_reducible refine C.out.mono ?_); rintro e w' ⟨rfl, hR, hO⟩; obtain ⟨k1, k2, k3, k4⟩ := HK.out w' hO; have HR := Aside0.mk hR; have HO := Aside0.mk hO; clear hR hO)
  go_end0
  exact ⟨rfl, HS.out _ _ _ HR.out HM.out HO.out _⟩
set_option maxRecDepth 100000 in
set_option maxHeartbeats 2000000 in
theorem itext_c (g r q b i : Nat) (s : ISt) (w : World) (cs : Array Value) (T : TypeId) (x : ByteArray) (most : Int) (hI : IInv g r q s w) (ho : ¬ IOwn g r q w.heap b) (hb : w.heap[b]? = some (.cells cs T (0, 0))) (hc : cs[i]? = some (.string x)) :
    Calls Try.prog 109 #[.pointer (some ⟨g, 0, none⟩), .pointer (some ⟨b, i, none⟩), .int .i64 most] w (Did (iForm g r q) s (itext s most) [(⟨b, i, none⟩, .string (strOfNums (rtext most s.1 s.2.1).1))] 8 w) := by
  have C := Aside0.mk (rText_c most r q s.1 s.2.1 w hI.rd hI.bytes)
  have HK := Aside0.mk (IKeep hI hb hc ho)
  have HS := Aside0.mk (fun (w' : World) (bs : List Int) (bad : Bool) (hR : RdAt w' r q bs bad) (hB : ∀ x ∈ bs, IsB x) (hO : Only (· = r) w w') (u : Value) => IStep (i := i) hI hb ho hR hB hO u)
  have HM := Aside0.mk (rtext_mem (most := most) (bad := s.2.1) hI.bytes)
  have cg : w.cell? ⟨g, 0, none⟩ = some (.pointer (some ⟨r, 0, none⟩)) := (blk_cell hI.blk 0).trans rfl
  have e : itext s most = ((rtext most s.1 s.2.1).2.1, (rtext most s.1 s.2.1).2.2, s.2.2) := rfl
  rw [e]
  clear e
  generalize rtext most s.1 s.2.1 = R at *
  clear hI hb hc ho
  go_enter Try.func109, Try.ntmps109
  go_wp2_with (go_at_call 111; (with_reducible refine C.out.mono ?_); rintro e w' ⟨rfl, hR, hO⟩; obtain ⟨k1, k2, k3, k4⟩ := HK.out w' hO; have HR := Aside0.mk hR; have HO := Aside0.mk hO; clear hR hO)
  go_end0
  exact ⟨rfl, HS.out _ _ _ HR.out HM.out HO.out _⟩
set_option maxRecDepth 100000 in
set_option maxHeartbeats 2000000 in
theorem icount_c (g r q : Nat) (s : ISt) (w : World) (n most : Int) (hI : IInv g r q s w) :
    Calls Try.prog 107 #[.pointer (some ⟨g, 0, none⟩), .int .i64 n, .int .i64 most] w (fun e w' => e = .returned (.int .i64 (rcount most s.1 s.2.1).1) ∧ Stepped (iForm g r q) s (icount s most) [] 8 w w') := by
  have C := Aside0.mk (rCount_c most r q s.1 s.2.1 w hI.rd hI.bytes)
  have HS := Aside0.mk (fun (w' : World) (bs : List Int) (bad : Bool) (hR : RdAt w' r q bs bad) (hB : ∀ x ∈ bs, IsB x) (hO : Only (· = r) w w') => IStep0 hI hR hB hO)
  have HM := Aside0.mk (rcount_mem (most := most) (bad := s.2.1) hI.bytes)
  have cg : w.cell? ⟨g, 0, none⟩ = some (.pointer (some ⟨r, 0, none⟩)) := (blk_cell hI.blk 0).trans rfl
  have e : icount s most = ((rcount most s.1 s.2.1).2.1, (rcount most s.1 s.2.1).2.2, s.2.2) := rfl
  rw [e]
  clear e
  generalize rcount most s.1 s.2.1 = R at *
  clear hI
  go_enter Try.func107, Try.ntmps107
  go_wp2_with (go_at_call 110; (with_reducible refine C.out.mono ?_); rintro e w' ⟨rfl, hR, hO⟩; have HR := Aside0.mk hR; have HO := Aside0.mk hO; clear hR hO)
  go_ret
  exact ⟨rfl, HS.out _ _ _ HR.out HM.out HO.out⟩
set_option maxRecDepth 100000 in
set_option maxHeartbeats 2000000 in
theorem inum_c (g r q b i : Nat) (s : ISt) (w : World) (cs : Array Value) (T : TypeId) (n lo hi : Int) (hI : IInv g r q s w) (ho : ¬ IOwn g r q w.heap b) (hb : w.heap[b]? = some (.cells cs T (0, 0))) (hc : cs[i]? = some (.int .i64 n)) :
    Calls Try.prog 59 #[.pointer (some ⟨g, 0, none⟩), .pointer (some ⟨b, i, none⟩), .int .i64 lo, .int .i64 hi] w (Did (iForm g r q) s (inum s lo hi) [(⟨b, i, none⟩, .int .i64 (rnum s.1 s.2.1).1)] 8 w) := by
  have C := Aside0.mk (rNum_c r q s.1 s.2.1 w hI.rd hI.bytes)
  have HK := Aside0.mk (IKeep hI hb hc ho)
  have HS := Aside0.mk (fun (w' : World) (bs : List Int) (bad : Bool) (hR : RdAt w' r q bs bad) (hB : ∀ x ∈ bs, IsB x) (hO : Only (· = r) w w') (u : Value) (o : Bool) => IStep2 (i := i) hI hb ho hR hB hO u o)
  have HM := Aside0.mk (rnum_mem (bad := s.2.1) hI.bytes)
  have cg : w.cell? ⟨g, 0, none⟩ = some (.pointer (some ⟨r, 0, none⟩)) := (blk_cell hI.blk 0).trans rfl
  have hbg : b ≠ g := fun e => ho (.inl e)
  have e : inum s lo hi = ((rnum s.1 s.2.1).2.1, (rnum s.1 s.2.1).2.2, s.2.2 || decide ((rnum s.1 s.2.1).1 < lo) || decide (hi < (rnum s.1 s.2.1).1)) := rfl
  rw [e]
  clear e
  generalize rnum s.1 s.2.1 = R at *
  clear hI hb hc ho
  obtain ⟨bs, bad, o⟩ := s
  dsimp only at *
  obtain ⟨n', R2⟩ := R
  dsimp only at *
  obtain ⟨o', ho'⟩ : ∃ o', (o || decide (n' < lo) || decide (hi < n')) = o' := ⟨_, rfl⟩
  rw [ho']
  cases o
  · by_cases h1 : n' < lo
    · skip
      obtain rfl : o' = true := by rw [← ho']; simp [h1]
      clear ho'
      go_enter Try.func59, Try.ntmps59
      go_wp2_with (go_at_call 75; (with_reducible refine C.out.mono ?_); rintro e w' ⟨rfl, hR, hO⟩; obtain ⟨k1, k2, k3, k4⟩ := HK.out w' hO; have k5 := k3; have HR := Aside0.mk hR; have HO := Aside0.mk hO; clear hR hO)
      go_end0
      exact ⟨rfl, HS.out _ _ _ HR.out HM.out HO.out _ _⟩
    · by_cases h2 : hi < n'
      · skip
        obtain rfl : o' = true := by rw [← ho']; simp [h2]
        clear ho'
        go_enter Try.func59, Try.ntmps59
        go_wp2_with (go_at_call 75; (with_reducible refine C.out.mono ?_); rintro e w' ⟨rfl, hR, hO⟩; obtain ⟨k1, k2, k3, k4⟩ := HK.out w' hO; have k5 := k3; have HR := Aside0.mk hR; have HO := Aside0.mk hO; clear hR hO)
        go_end0
        exact ⟨rfl, HS.out _ _ _ HR.out HM.out HO.out _ _⟩
      · skip
        obtain rfl : o' = false := by rw [← ho']; simp [Int.not_lt.1 h1, Int.not_lt.1 h2]
        clear ho'
        have d1 : decide (n' < lo) = false := decide_eq_false h1
        have d2 : decide (hi < n') = false := decide_eq_false h2
        go_enter Try.func59, Try.ntmps59
        go_wp2_with (go_at_call 75; (with_reducible refine C.out.mono ?_); rintro e w' ⟨rfl, hR, hO⟩; obtain ⟨k1, k2, k3, k4⟩ := HK.out w' hO; have k5 := k3; have HR := Aside0.mk hR; have HO := Aside0.mk hO; clear hR hO)
        go_end0
        exact ⟨rfl, HS.out _ _ _ HR.out HM.out HO.out _ _⟩
  · skip
    obtain rfl : o' = true := by rw [← ho']; simp []
    clear ho'
    go_enter Try.func59, Try.ntmps59
    go_wp2_with (go_at_call 75; (with_reducible refine C.out.mono ?_); rintro e w' ⟨rfl, hR, hO⟩; obtain ⟨k1, k2, k3, k4⟩ := HK.out w' hO; have k5 := k3; have HR := Aside0.mk hR; have HO := Aside0.mk hO; clear hR hO)
    go_end0
    exact ⟨rfl, HS.out _ _ _ HR.out HM.out HO.out _ _⟩

theorem rcount_lim (bs : List Int) (bad : Bool) (most : Int) (hm : 0 ≤ most) : 0 ≤ (rcount most bs bad).1 ∧ (rcount most bs bad).1 ≤ most := by
  have h0 := rnum_nonneg bs bad
  unfold rcount
  split
  · exact ⟨Int.le_refl _, hm⟩
  · exact ⟨h0, by omega⟩
set_option maxRecDepth 100000 in
theorem iGood (g r q : Nat) : (iForm g r q).Good where
  lt := fun {s w k} hI ho => IInv.lt hI ho
  move := fun {s w w'} hI hm _ => IInv.move hI hm
  own_move := fun {s w w'} hI hm k hk => hk
  ahead := fun n m hn hm w => by
    obtain rfl | rfl | rfl | rfl : n = 0 ∨ n = 1 ∨ n = 2 ∨ n = 3 := by omega
    all_goals subst hm; rfl
  method := fun n m hn hm w => by
    obtain rfl | rfl | rfl | rfl : n = 0 ∨ n = 1 ∨ n = 2 ∨ n = 3 := by omega
    all_goals subst hm; rfl
  enter := fun n hn args w => by
    obtain rfl | rfl | rfl | rfl : n = 0 ∨ n = 1 ∨ n = 2 ∨ n = 3 := by omega
    all_goals rfl
  num_c := fun s w b i cs T n lo hi hI ho _ hb hc => inum_c g r q b i s w cs T n lo hi hI ho hb hc
  flag_c := fun s w b i cs T x hI ho _ hb hc => iflag_c g r q b i s w cs T x hI ho hb hc
  text_c := fun s w b i cs T x most hI ho _ hb hc => (itext_c g r q b i s w cs T x most hI ho hb hc).mono fun e w' h => ⟨h.1, h.2.inv, h.2.own, h.2.wrote, Nat.zero_le _⟩
  count_c := fun s w n most hI _ _ _ => icount_c g r q s w n most hI
  count_lim := fun s n most hn hm => ⟨(rcount_lim s.1 s.2.1 most hm).1, .inr (rcount_lim s.1 s.2.1 most hm).2⟩
end Go.Proofs.Ytcbehfbfaonanaa.Wr
end

/- What a script costs, and what it leaves as it was. -/
section
namespace Go.Proofs.Ytcbehfbfaonanaa.Wr
open Go.RowKit Go.Proofs.YtcbehfbfaonanaaW.PrintWords Go.Proofs.YtcbehfbfaonanaaW.PrintLast Go.Proofs.YtcbehfbfaonanaaW.PrintMore Go.Proofs.Ytcbehfbfaonanaa.Pk
set_option linter.unusedVariables false
set_option linter.unusedSimpArgs false

/-- A form under which texts don't grow past N. -/
structure Form.Tame (F : Form) (J : F.σ → Prop) (N : Nat) : Prop where
  num : ∀ {s n lo hi}, J s → J (F.num s n lo hi).1
  flag : ∀ {s x}, J s → J (F.flag s x).1
  text : ∀ {s x most}, J s → x.size ≤ N → J (F.text s x most).1 ∧ (F.text s x most).2.size ≤ N
  count : ∀ {s n most}, J s → J (F.count s n most).1
def Lite (N : Nat) (v : Value) : Prop := ∀ x, v = .string x → x.size ≤ N
def Lites (N : Nat) (vs : List Value) : Prop := ∀ v, v ∈ vs → Lite N v
def LiteM (N : Nat) (m : M) : Prop := (∀ i, Lite N (m.c i)) ∧ ∀ j r, r ∈ m.L j → Lites N r
theorem Lite.cost {N : Nat} {v : Value} (h : Lite N v) : costV v ≤ 8 + N := by
  unfold costV
  split
  · have := h _ rfl; omega
  · omega
theorem Lites.cost {N : Nat} : ∀ {vs : List Value}, Lites N vs → cost vs ≤ vs.length * (8 + N)
  | [], _ => by simp [Wr.cost]
  | v :: vs, h => by
    have h1 := (h v (.head _)).cost
    have h2 := Lites.cost (vs := vs) (fun u hu => h u (.tail _ hu))
    simp only [Wr.cost, List.length_cons, Nat.add_mul]
    omega
variable {F : Form} {J : F.σ → Prop} {N : Nat}
theorem Form.Tame.fld (hT : F.Tame J N) {s : F.σ} {f : Fld} {v : Value} (hs : J s) (hv : Lite N v) : J (F.fld s f v).1 ∧ Lite N (F.fld s f v).2 := by
  unfold Form.fld
  split
  · exact ⟨hT.num hs, fun x hx => by simp at hx⟩
  · exact ⟨hT.flag hs, fun x hx => by simp at hx⟩
  · refine ⟨(hT.text hs (hv _ rfl)).1, fun x hx => ?_⟩
    injection hx with hx
    exact hx ▸ (hT.text hs (hv _ rfl)).2
  · exact ⟨hs, hv⟩
theorem Form.Tame.row (hT : F.Tame J N) : ∀ {fs : List Fld} {vs : List Value} {s : F.σ}, J s → Lites N vs → J (F.row s fs vs).1 ∧ Lites N (F.row s fs vs).2
  | [], vs, s, hs, hv => by cases vs <;> exact ⟨hs, hv⟩
  | f :: fs, [], s, hs, hv => ⟨hs, hv⟩
  | f :: fs, v :: vs, s, hs, hv => by
    have h1 := hT.fld (f := f) hs (hv v (.head _))
    have h2 := hT.row (fs := fs) (vs := vs) h1.1 (fun u hu => hv u (.tail _ hu))
    refine ⟨h2.1, fun u hu => ?_⟩
    simp only [Form.row] at hu
    rcases List.mem_cons.1 hu with rfl | hu
    · exact h1.2
    · exact h2.2 u hu
theorem Form.Tame.rows (hT : F.Tame J N) {fs : List Fld} : ∀ {rs : List (List Value)} {s : F.σ}, J s → (∀ r, r ∈ rs → Lites N r) → J (F.rows fs s rs).1 ∧ ∀ r, r ∈ (F.rows fs s rs).2 → Lites N r
  | [], s, hs, hv => ⟨hs, fun r hr => nomatch hr⟩
  | r :: rs, s, hs, hv => by
    have h1 := hT.row (fs := fs) hs (hv r (.head _))
    have h2 := hT.rows (fs := fs) (rs := rs) h1.1 (fun u hu => hv u (.tail _ hu))
    refine ⟨h2.1, fun u hu => ?_⟩
    simp only [Form.rows] at hu
    rcases List.mem_cons.1 hu with rfl | hu
    · exact h1.2
    · exact h2.2 u hu
theorem lites_zero (fs : List Fld) : Lites N (zeroRow fs) := fun v hv x hx => by
  obtain ⟨f, _, rfl⟩ := List.mem_map.1 hv
  cases f <;> simp [Fld.zero] at hx
  subst hx
  exact Nat.zero_le _
theorem lite_listR {fs : List Fld} {s : F.σ} {most : Nat} {rows : List (List Value)} (h : ∀ r, r ∈ rows → Lites N r) : ∀ r, r ∈ F.listR fs s most rows → Lites N r := fun r hr => by
  unfold Form.listR at hr
  split at hr
  · rw [(List.mem_replicate.1 hr).2]; exact lites_zero fs
  · exact h r hr
theorem Form.Tame.list (hT : F.Tame J N) {fs : List Fld} {most : Nat} {rows : List (List Value)} {s : F.σ} (hs : J s) (h : ∀ r, r ∈ rows → Lites N r) : J (F.list fs s most rows).1 ∧ ∀ r, r ∈ (F.list fs s most rows).2 → Lites N r := by
  have hR := lite_listR (F := F) (fs := fs) (s := s) (most := most) h
  have h1 := hT.rows (fs := fs) (rs := (F.listR fs s most rows).take (F.listM s most rows.length)) (hT.count (n := rows.length) (most := most) hs) (fun r hr => hR r (List.mem_of_mem_take hr))
  refine ⟨h1.1, fun r hr => ?_⟩
  unfold Form.list at hr
  rcases List.mem_append.1 hr with hr | hr
  · exact h1.2 r hr
  · exact hR r (List.mem_of_mem_drop hr)
theorem lites_vals {c : Nat → Value} (h : ∀ i, Lite N (c i)) : ∀ (n i : Nat), Lites N (valsAt c i n)
  | 0, i => fun v hv => nomatch hv
  | n + 1, i => fun v hv => by
    simp only [valsAt] at hv
    rcases List.mem_cons.1 hv with rfl | hv
    · exact h i
    · exact lites_vals h n (i + 1) v hv
theorem Form.Tame.rowM (hT : F.Tame J N) {s : F.σ} {m : M} {i : Nat} {fs : List Fld} (hs : J s) (hm : LiteM N m) : J (F.rowM s m i fs).1 ∧ LiteM N (F.rowM s m i fs).2 := by
  have h1 := hT.row (fs := fs) hs (lites_vals hm.1 fs.length i)
  refine ⟨h1.1, fun k => ?_, hm.2⟩
  simp only [Form.rowM, putAt]
  split
  · cases hv : (F.row s fs (valsAt m.c i fs.length)).2[k - i]? with
    | none => exact hm.1 k
    | some v => exact h1.2 v (List.mem_of_getElem? hv)
  · exact hm.1 k
theorem Form.Tame.step (hT : F.Tame J N) {s : F.σ} {m : M} {t : Step} (hs : J s) (hm : LiteM N m) : J (F.step s m t).1 ∧ LiteM N (F.step s m t).2 := by
  cases t with
  | row i fs => exact hT.rowM hs hm
  | most => exact hT.rowM hs hm
  | lst j fs n =>
    have h1 := hT.list (fs := fs) (most := n) hs (hm.2 j)
    refine ⟨h1.1, hm.1, fun k r hr => ?_⟩
    simp only [Form.step, Form.lstM, upL] at hr
    split at hr
    · exact h1.2 r hr
    · exact hm.2 k r hr
def Step.few : Step → Bool
  | .row _ fs => decide (fs.length ≤ 8)
  | .most => true
  | .lst _ fs n => decide (fs.length ≤ 8) && decide (n ≤ 64)
theorem rowsCost_le : ∀ {rs : List (List Value)} {b : Nat}, (∀ r, r ∈ rs → cost r ≤ b) → rowsCost rs ≤ rs.length * b
  | [], b, _ => by simp [rowsCost]
  | r :: rs, b, h => by
    have h1 := h r (.head _)
    have h2 := rowsCost_le (rs := rs) (b := b) (fun q hq => h q (.tail _ hq))
    simp only [rowsCost, List.length_cons, Nat.add_mul]
    omega
/-- What one step costs at most. -/
def most1 (N : Nat) : Nat := 8 + 512 * (8 + N)
theorem stepCost_le {s : F.σ} {m : M} {t : Step} (hm : LiteM N m) (ht : t.few = true) (hl : ∀ j r, r ∈ m.L j → r.length ≤ 8) : F.stepCost s m t ≤ most1 N := by
  unfold most1
  cases t with
  | row i fs =>
    simp only [Step.few, decide_eq_true_eq] at ht
    have h1 := (lites_vals hm.1 fs.length i).cost
    rw [valsAt_length] at h1
    have := Nat.mul_le_mul_right (8 + N) ht
    simp only [Form.stepCost]
    omega
  | most => simp only [Form.stepCost]; omega
  | lst j fs n =>
    simp only [Step.few, Bool.and_eq_true, decide_eq_true_eq] at ht
    simp only [Form.stepCost, Form.lstCost]
    have hR := lite_listR (F := F) (fs := fs) (s := s) (most := n) (hm.2 j)
    have h1 : rowsCost ((F.listR fs s n (m.L j)).take (F.listM s n (m.L j).length)) ≤ ((F.listR fs s n (m.L j)).take (F.listM s n (m.L j).length)).length * (8 * (8 + N)) := by
      refine rowsCost_le fun r hr => ?_
      have hr' := List.mem_of_mem_take hr
      refine Nat.le_trans (hR r hr').cost (Nat.mul_le_mul_right _ ?_)
      unfold Form.listR at hr'
      split at hr'
      · rw [(List.mem_replicate.1 hr').2]; simpa [zeroRow] using ht.1
      · exact hl j r hr'
    have h2 : ((F.listR fs s n (m.L j)).take (F.listM s n (m.L j).length)).length ≤ 64 := by
      rw [List.length_take]; unfold Form.listM; omega
    have h3 := Nat.mul_le_mul_right (8 * (8 + N)) h2
    omega
/-- Rows keep their width. -/
def Wide (m : M) : Prop := ∀ j r, r ∈ m.L j → r.length ≤ 8
theorem Wide.step {s : F.σ} {m : M} {t : Step} (hm : Wide m) (ht : t.few = true) : Wide (F.step s m t).2 := by
  cases t with
  | row i fs => exact hm
  | most => exact hm
  | lst j fs n =>
    simp only [Step.few, Bool.and_eq_true, decide_eq_true_eq] at ht
    intro k r hr
    simp only [Form.step, Form.lstM, upL] at hr
    split at hr
    · have hR : ∀ r, r ∈ F.listR fs s n (m.L j) → r.length ≤ 8 := fun r hr' => by
        unfold Form.listR at hr'
        split at hr'
        · rw [(List.mem_replicate.1 hr').2]; simpa [zeroRow] using ht.1
        · exact hm j r hr'
      have key : ∀ (rs : List (List Value)) (s : F.σ), (∀ r, r ∈ rs → r.length ≤ 8) → ∀ r, r ∈ (F.rows fs s rs).2 → r.length ≤ 8 := by
        intro rs
        induction rs with
        | nil => intro s _ r hr; nomatch hr
        | cons q rs ih =>
          intro s h r hr
          simp only [Form.rows] at hr
          rcases List.mem_cons.1 hr with rfl | hr
          · rw [row_length]; exact h q (.head _)
          · exact ih _ (fun r hr => h r (.tail _ hr)) r hr
      unfold Form.list at hr
      rcases List.mem_append.1 hr with hr | hr
      · exact key _ _ (fun r hr => hR r (List.mem_of_mem_take hr)) r hr
      · exact hR r (List.mem_of_mem_drop hr)
    · exact hm k r hr
theorem runCost_le (hT : F.Tame J N) : ∀ {ts : List Step} {s : F.σ} {m : M}, J s → LiteM N m → Wide m → ts.all Step.few = true → F.runCost s m ts ≤ ts.length * most1 N
  | [], s, m, _, _, _, _ => by simp [Form.runCost]
  | t :: ts, s, m, hs, hm, hw, h => by
    simp only [List.all_cons, Bool.and_eq_true] at h
    have h1 := stepCost_le (F := F) (s := s) hm h.1 hw
    have h2 := hT.step (t := t) hs hm
    have h3 := runCost_le hT (ts := ts) h2.1 h2.2 (hw.step h.1) h.2
    simp only [Form.runCost, List.length_cons, Nat.add_mul]
    omega
theorem runLite (hT : F.Tame J N) : ∀ {ts : List Step} {s : F.σ} {m : M}, J s → LiteM N m → J (F.run s m ts).1 ∧ LiteM N (F.run s m ts).2
  | [], s, m, hs, hm => ⟨hs, hm⟩
  | t :: ts, s, m, hs, hm => runLite hT (ts := ts) (hT.step hs hm).1 (hT.step hs hm).2
theorem oTame (g N : Nat) : (oForm g).Tame (fun _ => True) N := ⟨fun _ => trivial, fun _ => trivial, fun _ h => ⟨trivial, h⟩, fun _ => trivial⟩
theorem rnum_le (bs : List Int) (bad : Bool) : (rnum bs bad).2.1.length ≤ bs.length := by
  obtain ⟨m, e⟩ := rnum_suffix bs bad
  rw [e, List.length_drop]; omega
theorem strOf_size (xs : List Int) : (strOfNums xs).size = xs.length := strOfNums_size xs
theorem iTame (g r q N : Nat) : (iForm g r q).Tame (fun s => s.1.length ≤ N) N := by
  refine ⟨fun {s n lo hi} h => Nat.le_trans (rnum_le _ _) h, fun {s x} h => ?_, fun {s x most} h _ => ?_, fun {s n most} h => ?_⟩
  · refine Nat.le_trans ?_ h
    show (rflag s.1 s.2.1).2.1.length ≤ _
    unfold rflag
    split
    · exact Nat.le_refl _
    · split
      · exact Nat.zero_le _
      · rename_i c t e
        rw [e]; split <;> simp
  · have h1 := rnum_le s.1 s.2.1
    constructor
    · refine Nat.le_trans ?_ h
      show (rtext most s.1 s.2.1).2.1.length ≤ _
      unfold rtext
      split
      · exact h1
      · simp only [List.length_drop]; omega
    · show (strOfNums (rtext most s.1 s.2.1).1).size ≤ N
      rw [strOf_size]
      unfold rtext
      split
      · exact Nat.zero_le _
      · simp only [List.length_take]; omega
  · refine Nat.le_trans ?_ h
    show (rcount most s.1 s.2.1).2.1.length ≤ _
    unfold rcount
    split <;> exact rnum_le _ _

/-! The writing form leaves what it writes oas it was. -/
theorem oFld (g : Nat) (s : (oForm g).σ) (f : Fld) (v : Value) : ((oForm g).fld s f v).2 = v := by
  cases f <;> cases v <;> first | rfl | (rename_i k x; cases k <;> rfl)
theorem oRow (g : Nat) : ∀ (fs : List Fld) (vs : List Value) (s : (oForm g).σ), ((oForm g).row s fs vs).2 = vs
  | [], vs, s => by cases vs <;> rfl
  | f :: fs, [], s => rfl
  | f :: fs, v :: vs, s => by
    simp only [Form.row]
    rw [oFld, oRow g fs vs]
theorem oRows (g : Nat) (fs : List Fld) : ∀ (rs : List (List Value)) (s : (oForm g).σ), ((oForm g).rows fs s rs).2 = rs
  | [], s => rfl
  | r :: rs, s => by
    simp only [Form.rows]
    rw [oRow, oRows g fs rs]
theorem oListR (g : Nat) (fs : List Fld) (s : (oForm g).σ) (most : Nat) (rows : List (List Value)) : (oForm g).listR fs s most rows = rows := by
  unfold Form.listR
  rw [if_neg]
  show ¬ rows.length < (rows.length : Int).toNat
  omega
theorem oList (g : Nat) (fs : List Fld) (s : (oForm g).σ) (most : Nat) (rows : List (List Value)) : ((oForm g).list fs s most rows).2 = rows := by
  unfold Form.list
  simp only [oListR, oRows, List.take_append_drop]
theorem putAt_vals (c : Nat → Value) (i : Nat) : ∀ n, putAt c i (valsAt c i n) = c := fun n => by
  funext k
  unfold putAt
  split
  · cases hv : (valsAt c i n)[k - i]? with
    | none => rfl
    | some v =>
      rw [Option.getD_some, valsAt_get c n i (k - i) v hv, show i + (k - i) = k by omega]
  · rfl
theorem upL_self (L : Nat → List (List Value)) (j : Nat) : upL L j (L j) = L := by
  funext k
  unfold upL
  split
  · rename_i e; rw [e]
  · rfl
theorem oRowM (g : Nat) (s : (oForm g).σ) (m : M) (i : Nat) (fs : List Fld) : ((oForm g).rowM s m i fs).2 = m := by
  unfold Form.rowM
  simp only [oRow, putAt_vals]
theorem oStep (g : Nat) (s : (oForm g).σ) (m : M) (t : Step) : ((oForm g).step s m t).2 = m := by
  cases t with
  | row i fs => exact oRowM g s m i fs
  | most => exact oRowM g s m 7 _
  | lst j fs n =>
    simp only [Form.step, Form.lstM, oList, upL_self]
theorem oRun_m (g : Nat) : ∀ (ts : List Step) (s : (oForm g).σ) (m : M), ((oForm g).run s m ts).2 = m
  | [], s, m => rfl
  | t :: ts, s, m => by
    simp only [Form.run]
    rw [oRun_m g ts, oStep]
/-! What it writes does not hang on where it lies. -/
theorem oRow_g (g h : Nat) : ∀ (fs : List Fld) (vs : List Value) (s : OSt), ((oForm g).row s fs vs).1 = ((oForm h).row s fs vs).1
  | [], vs, s => by cases vs <;> rfl
  | f :: fs, [], s => rfl
  | f :: fs, v :: vs, s => oRow_g g h fs vs ((oForm g).fld s f v).1
theorem oRows_g (g h : Nat) (fs : List Fld) : ∀ (rs : List (List Value)) (s : OSt), ((oForm g).rows fs s rs).1 = ((oForm h).rows fs s rs).1
  | [], s => rfl
  | r :: rs, s => (oRows_g g h fs rs ((oForm g).row s fs r).1).trans (congrArg (fun s' : OSt => ((oForm h).rows fs s' rs).1) (oRow_g g h fs r s))
theorem oList_g (g h : Nat) (fs : List Fld) (s : OSt) (most : Nat) (rows : List (List Value)) : ((oForm g).list fs s most rows).1 = ((oForm h).list fs s most rows).1 := oRows_g g h fs _ _
theorem oStep_g (g h : Nat) (s : OSt) (m : M) (t : Step) : ((oForm g).step s m t).1 = ((oForm h).step s m t).1 := by
  cases t with
  | row i fs => exact oRow_g g h fs _ s
  | most => exact oRow_g g h _ _ s
  | lst j fs n => exact oList_g g h fs s n _
theorem oRun_g (g h : Nat) : ∀ (ts : List Step) (s : OSt) (m : M), ((oForm g).run s m ts).1 = ((oForm h).run s m ts).1
  | [], s, m => rfl
  | t :: ts, s, m => by
    have e1 := oStep g s m t
    have e2 := oStep h s m t
    have e3 := oStep_g g h s m t
    show ((oForm g).run ((oForm g).step s m t).1 ((oForm g).step s m t).2 ts).1 = ((oForm h).run ((oForm h).step s m t).1 ((oForm h).step s m t).2 ts).1
    rw [e1, e2]
    exact (oRun_g g h ts _ m).trans (congrArg (fun s' : OSt => ((oForm h).run s' m ts).1) e3)
end Go.Proofs.Ytcbehfbfaonanaa.Wr
end

/- A message as a value: how it lies in a box, what is read of it. -/
section
namespace Go.Proofs.Ytcbehfbfaonanaa.Wr
open Go.RowKit Go.Proofs.YtcbehfbfaonanaaW.PrintWords Go.Proofs.YtcbehfbfaonanaaW.PrintLast Go.Proofs.YtcbehfbfaonanaaW.PrintMore Go.Proofs.Ytcbehfbfaonanaa.Pk
set_option linter.unusedVariables false
set_option linter.unusedSimpArgs false

/-- A message's cells, oas a value too. -/
def msgC (c sv : Nat → Value) : Array Value := #[c 0, c 1, c 2, sv 3, c 4, c 5, c 6, c 7, sv 8, sv 9, sv 10, c 11, c 12, c 13, c 14, c 15, c 16, c 17, c 18, c 19, c 20, c 21, c 22, c 23, c 24, c 25]
def msgV (c sv : Nat → Value) : Value := .agg (msgC c sv)
def Typed (m : M) : Prop := ∀ i, scalar i = true → (kindOf i).fits (m.c i)
def Fit (m : M) : Prop := ∀ j fs, (j, fs) ∈ lists → ∀ r, r ∈ m.L j → fits fs r
/-- The message m is read of the value v. -/
structure MsgRd (w : World) (v : Value) (m : M) (sv : Nat → Value) : Prop where
  eq : v = msgV m.c sv
  typed : Typed m
  fit : Fit m
  rd : ∀ j fs, (j, fs) ∈ lists → ListRd w (sv j) fs.length (m.L j)
theorem fitl {fs : List Fld} {j : Nat} {m : M} (h : Fit m) (hj : (j, fs) ∈ lists) : ∀ r, r ∈ m.L j → r.length = fs.length := fun r hr => fits_length (h j fs hj r hr)
theorem lists_pos {fs : List Fld} {j : Nat} (h : (j, fs) ∈ lists) : 0 < fs.length := by
  simp only [lists, List.mem_cons, Prod.mk.injEq, List.not_mem_nil, or_false] at h
  rcases h with ⟨_, rfl⟩ | ⟨_, rfl⟩ | ⟨_, rfl⟩ | ⟨_, rfl⟩ <;> simp [entryF, pairF, seenF, epochF]
theorem MsgRd.below {w w' : World} {v : Value} {m : M} {sv : Nat → Value} (h : MsgRd w v m sv) (hB : Below w.heap.size w w') : MsgRd w' v m sv :=
  ⟨h.eq, h.typed, h.fit, fun j fs hj => (h.rd j fs hj).below (lists_pos hj) (fitl h.fit hj) hB⟩
/-- A message of a size that is looked at. -/
structure Small (m : M) : Prop where
  lite : LiteM 1048576 m
  few : ∀ j, (m.L j).length ≤ 1048576
  wide : Wide m
theorem Fit.wide {m : M} (h : Fit m) (hn : ∀ j, (∀ fs, (j, fs) ∉ lists) → m.L j = []) : Wide m := fun j r hr => by
  by_cases hj : ∃ fs, (j, fs) ∈ lists
  · obtain ⟨fs, hj⟩ := hj
    rw [fitl h hj r hr]
    simp only [lists, List.mem_cons, Prod.mk.injEq, List.not_mem_nil, or_false] at hj
    rcases hj with ⟨_, rfl⟩ | ⟨_, rfl⟩ | ⟨_, rfl⟩ | ⟨_, rfl⟩ <;> simp [entryF, pairF, seenF, epochF]
  · rw [hn j (fun fs h => hj ⟨fs, h⟩)] at hr
    nomatch hr

theorem below_only {B : Nat} {S : Nat → Prop} {a w w' : World} (h : Below B a w) (ho : Only S w w') (hB : B ≤ w.heap.size) (hs : ∀ k, S k → B ≤ k) : Below B a w' :=
  ⟨ho.os.trans h.os, ho.tape.trans h.tape, ho.output.trans h.output, Nat.le_trans h.size ho.size, fun k hk => (ho.block k (by omega) (fun s => by have := hs k s; omega)).trans (h.block k hk)⟩
/-! ### A whole row of cells in a block of its own: boxed, allocated, stored, loaded -/
theorem heap_setCells (g : Nat) : ∀ (vs : List Value) (o : Nat) (w : World) (k : Nat), k ≠ g → (w.setCells g o vs).heap[k]? = w.heap[k]?
  | [], o, w, k, _ => rfl
  | v :: vs, o, w, k, hk => (heap_setCells g vs (o + 1) _ k hk).trans (Below.heap_setCell w ⟨g, o, none⟩ v k hk)
theorem size_setCells (g : Nat) : ∀ (vs : List Value) (o : Nat) (w : World), (w.setCells g o vs).heap.size = w.heap.size
  | [], o, w => rfl
  | v :: vs, o, w => (size_setCells g vs (o + 1) _).trans (World.size_setCell _ _ _)
theorem only_setCells (g : Nat) (vs : List Value) (o : Nat) (W : World) : Only (· = g) W (W.setCells g o vs) := by
  have key : ∀ (vs : List Value) (o : Nat) (w : World), (w.setCells g o vs).os = w.os ∧ (w.setCells g o vs).tape = w.tape ∧ (w.setCells g o vs).output = w.output := by
    intro vs
    induction vs with
    | nil => intro o w; exact ⟨rfl, rfl, rfl⟩
    | cons v vs ih => intro o w; exact ih (o + 1) _
  exact ⟨(key _ _ _).1, (key _ _ _).2.1, (key _ _ _).2.2, by rw [size_setCells]; exact Nat.le_refl _, fun k _ hk => heap_setCells g vs o W k hk⟩
def overL (cs : Array Value) : Nat → List Value → Array Value
  | _, [] => cs
  | o, v :: vs => overL (cs.setIfInBounds o v) (o + 1) vs
theorem overL_get (vs : List Value) : ∀ (cs : Array Value) (o j : Nat), o + vs.length ≤ cs.size → (overL cs o vs)[j]? = if o ≤ j ∧ j < o + vs.length then vs[j - o]? else cs[j]? := by
  induction vs with
  | nil => intro cs o j _; rw [if_neg (by simp)]; rfl
  | cons v vs ih =>
    intro cs o j h
    simp only [List.length_cons] at h ⊢
    simp only [overL]
    rw [ih _ _ _ (by simp; omega)]
    by_cases h1 : o = j
    · subst h1
      rw [if_neg (by omega), if_pos (by omega), Nat.sub_self, List.getElem?_cons_zero, Array.getElem?_setIfInBounds_self_of_lt (by omega)]
    · by_cases h2 : o + 1 ≤ j ∧ j < o + 1 + vs.length
      · rw [if_pos h2, if_pos (by omega), show j - o = (j - (o + 1)) + 1 by omega, List.getElem?_cons_succ]
      · rw [if_neg h2, if_neg (by omega), Array.getElem?_setIfInBounds_ne h1]
theorem overL_all {cs : Array Value} {vs : List Value} (h : vs.length = cs.size) : overL cs 0 vs = vs.toArray := by
  apply Array.ext_getElem?
  intro j
  rw [overL_get vs cs 0 j (by omega)]
  split
  · rw [Nat.sub_zero]; simp
  · rw [Array.getElem?_eq_none (by omega)]; simp; omega
theorem blk_setCells {g : Nat} {T : TypeId} : ∀ (vs : List Value) (o : Nat) (w : World) (cs : Array Value), w.heap[g]? = some (.cells cs T (0, 0)) → (w.setCells g o vs).heap[g]? = some (.cells (overL cs o vs) T (0, 0))
  | [], o, w, cs, h => h
  | v :: vs, o, w, cs, h => blk_setCells vs (o + 1) _ _ (blk_set h o v)
def OneAll (cells : Array Value) : Prop := cells.toList.all (·.oneCell') = true
section
variable {P : Program} {ops : Array Oper} {rest : List Oper} {o : Oper} {a : Act} {Q : Exit → Act → World → Prop} {W : World}
theorem box_row (hgd : o.guard = none) (T : TypeId) (x : Operand) (ho : o.op = .box T x) (cells : Array Value) (hx : a.eval x = .agg cells)
    (h : ∀ g w1, g = W.heap.size → w1.heap[g]? = some (.cells cells T (0, 0)) → Below W.heap.size W w1 → wpList P ops Q rest (a.put o.dst (.pointer (some ⟨g, 0, none⟩))) w1) : wpList P ops Q (o :: rest) a W := by
  refine Kd.event_run hgd (v := .pointer (some ⟨W.heap.size, 0, none⟩)) (w1 := W.alloc (.cells cells T (0, 0))) ?_ (h _ _ rfl (blk_new W _) (below_alloc (Below.refl _ _) _))
  unfold execOp
  simp only [ho, hx]
  rfl
theorem alloc_row (hgd : o.guard = none) (T : TypeId) (ho : o.op = .alloc T) (zs : Array Value) (hz : (zeroValue T).run P W = .ok (.agg zs) W)
    (h : ∀ g w1, g = W.heap.size → w1.heap[g]? = some (.cells zs T (0, 0)) → Below W.heap.size W w1 → wpList P ops Q rest (a.put o.dst (.pointer (some ⟨g, 0, none⟩))) w1) : wpList P ops Q (o :: rest) a W := by
  refine Kd.event_run hgd (v := .pointer (some ⟨W.heap.size, 0, none⟩)) (w1 := W.alloc (.cells zs T (0, 0))) ?_ (h _ _ rfl (blk_new W _) (below_alloc (Below.refl _ _) _))
  unfold execOp
  simp only [ho, Instr.alloc, Sem.run_bind, hz, Result.andThen_ok]
  rfl
theorem load_row (hgd : o.guard = none) (T : TypeId) (x : Operand) (ho : o.op = .load T x) (g : Nat) (hx : a.eval x = .pointer (some ⟨g, 0, none⟩)) (cells : Array Value) (T' : TypeId) (hb : W.heap[g]? = some (.cells cells T' (0, 0)))
    (d : TypeDesc) (hu : P.underlying T = some d) (hd : d.isRow = true) (hi : (P.info? T).map (·.size) = some cells.size) (h : wpList P ops Q rest (a.put o.dst (.agg cells)) W) : wpList P ops Q (o :: rest) a W := by
  refine wpList_load_mid hgd T x ho g 0 hx cells.toList d (fun j v hj => ?_) hu hd (by simpa using hi) (by simpa using h)
  rw [Nat.zero_add]
  exact (blk_cell hb j).trans (by simpa using hj)
theorem store_row (hgd : o.guard = none) (T : TypeId) (x y : Operand) (ho : o.op = .store T x y) (g : Nat) (hx : a.eval x = .pointer (some ⟨g, 0, none⟩)) (cells cs : Array Value) (hy : a.eval y = .agg cells) (T' : TypeId) (hb : W.heap[g]? = some (.cells cs T' (0, 0)))
    (hs : cells.size = cs.size) (hi : (P.info? T).map (·.size) = some cells.size) (h1 : OneAll cells)
    (h : ∀ w1, w1.heap[g]? = some (.cells cells T' (0, 0)) → Only (· = g) W w1 → wpList P ops Q rest (a.put o.dst undef) w1) : wpList P ops Q (o :: rest) a W := by
  refine wpList_store_mid hgd T x y ho g 0 cells hx hy (fun j hj => ?_) hi (by unfold OneAll at h1; rw [← Array.all_toList]; exact h1) (h _ ?_ ?_)
  · rw [Nat.zero_add]
    refine ⟨?_, blk_frozen hb j⟩
    rw [blk_cell hb j, Array.getElem?_eq_getElem (by omega)]
    rfl
  · have := blk_setCells cells.toList 0 W cs hb
    rw [overL_all (by simpa using hs)] at this
    simpa using this
  · have ho' : (W.setCells g 0 cells.toList).os = W.os ∧ (W.setCells g 0 cells.toList).tape = W.tape ∧ (W.setCells g 0 cells.toList).output = W.output := by
      have key : ∀ (vs : List Value) (o : Nat) (w : World), (w.setCells g o vs).os = w.os ∧ (w.setCells g o vs).tape = w.tape ∧ (w.setCells g o vs).output = w.output := by
        intro vs
        induction vs with
        | nil => intro o w; exact ⟨rfl, rfl, rfl⟩
        | cons v vs ih => intro o w; exact ih (o + 1) _
      exact key _ _ _
    exact ⟨ho'.1, ho'.2.1, ho'.2.2, by rw [size_setCells]; exact Nat.le_refl _, fun k _ hk => heap_setCells g _ 0 W k hk⟩
end
end Go.Proofs.Ytcbehfbfaonanaa.Wr
end

/- A message's walks: fields, kind by kind (printed by genfields.py). -/
section
namespace Go.Proofs.Ytcbehfbfaonanaa.Wr
open Go.RowKit Go.Proofs.YtcbehfbfaonanaaW.PrintWords Go.Proofs.YtcbehfbfaonanaaW.PrintLast Go.Proofs.YtcbehfbfaonanaaW.PrintMore Go.Proofs.Ytcbehfbfaonanaa.Pk
set_option linter.unusedVariables false
set_option linter.unusedSimpArgs false

set_option maxRecDepth 100000 in
set_option maxHeartbeats 8000000 in
theorem fields3_c : WholeC 41 (fieldsS 3) (fun v => v = .int .i64 3) := by
  intro F hF s w b A m hAl h hK hr
  have hmf : ∀ (fn : Fn) (first cap : Array Value) (w : World), (Instr.makeFunc fn first cap).run Try.prog w = .ok (.func fn first cap) w := fun _ _ _ _ => rfl
  obtain ⟨cs0, hb0⟩ : ∃ cs0, w.heap[b]? = some (.cells cs0 35 (0, 0)) := let ⟨cs, _, h2, _⟩ := h.blk; ⟨cs, h2⟩
  have HGb := Aside0.mk (show w.heap.size ≠ b from fun e => by have := blk_lt hb0; omega)
  have HGA := Aside0.mk (show ¬ A w.heap.size from fun e => by have := hAl _ e; omega)
  have HGo := Aside0.mk (show ¬ F.own (w.alloc (.cells #[.iface F.ty F.v] 114)).heap w.heap.size from fun e => by have := hF.lt h.inv (alloc_own hF h.inv _ _ e); omega)
  have cg0 : (w.alloc (.cells #[.iface F.ty F.v] 114)).cell? ⟨w.heap.size, 0, none⟩ = some (.iface F.ty F.v) := by rw [World.cell?_alloc_at _ _ _ _ rfl]; rfl
  have S0 := Aside0.mk (Stand.start (h.alloc hF (.cells #[.iface F.ty F.v] 114)) (fieldsS 3))
  rw [hK] at S0
  have HCg := Aside0.mk cg0
  have HR := Aside0.mk hr
  have HG := Aside0.mk hF
  have ck0 := S0.out.kind
  have HBl := Aside0.mk (blk_lt hb0)
  have ck00 : w.cell? ⟨b, 0, none⟩ = some (.int .i64 3) := ((World.cell?_alloc_past _ _ _ HBl.out).symm.trans ck0)
  suffices hsuf : Calls Try.prog 41 #[.iface F.ty F.v, .pointer (some ⟨b, 0, none⟩)] w (MOn F s (w.alloc (.cells #[.iface F.ty F.v] 114)) b A (F.run s m (fieldsS 3)).1 (F.runCost s m (fieldsS 3)) (F.run s m (fieldsS 3)).2) from hsuf.mono (fun e w' H => H.unalloc hF h.inv)
  generalize (F.run s m (fieldsS 3)).1 = sF at *
  generalize (F.run s m (fieldsS 3)).2 = mF at *
  generalize F.runCost s m (fieldsS 3) = C at *
  clear h hr hF hAl hb0 cs0 hK
  have S0 := Aside0.mk (show Stand F s (w.alloc (.cells #[.iface F.ty F.v] 114)) b A (.int .i64 3) C sF mF (partS ++ []) (w.alloc (.cells #[.iface F.ty F.v] 114)) from S0.out)
  go_enter Try.func41, Try.ntmps41
  have C0 := Aside0.mk (Stand.whole' part_c S0.out HG.out HR.out trivial rfl)
  go_wp2_with (go_at_call 67; (with_reducible refine C0.out.mono ?_); rintro e w1 ⟨rfl, H⟩; have cg1 := H.cell HGo.out HGb.out HGA.out HCg.out; have ck1 := H.kind; have S1 := Aside0.mk H; clear H)
  go_end0
  exact S1.out.done

set_option maxRecDepth 100000 in
set_option maxHeartbeats 8000000 in
theorem fields4_c : WholeC 41 (fieldsS 4) (fun v => v = .int .i64 4) := by
  intro F hF s w b A m hAl h hK hr
  have hmf : ∀ (fn : Fn) (first cap : Array Value) (w : World), (Instr.makeFunc fn first cap).run Try.prog w = .ok (.func fn first cap) w := fun _ _ _ _ => rfl
  obtain ⟨cs0, hb0⟩ : ∃ cs0, w.heap[b]? = some (.cells cs0 35 (0, 0)) := let ⟨cs, _, h2, _⟩ := h.blk; ⟨cs, h2⟩
  have HGb := Aside0.mk (show w.heap.size ≠ b from fun e => by have := blk_lt hb0; omega)
  have HGA := Aside0.mk (show ¬ A w.heap.size from fun e => by have := hAl _ e; omega)
  have HGo := Aside0.mk (show ¬ F.own (w.alloc (.cells #[.iface F.ty F.v] 114)).heap w.heap.size from fun e => by have := hF.lt h.inv (alloc_own hF h.inv _ _ e); omega)
  have cg0 : (w.alloc (.cells #[.iface F.ty F.v] 114)).cell? ⟨w.heap.size, 0, none⟩ = some (.iface F.ty F.v) := by rw [World.cell?_alloc_at _ _ _ _ rfl]; rfl
  have S0 := Aside0.mk (Stand.start (h.alloc hF (.cells #[.iface F.ty F.v] 114)) (fieldsS 4))
  rw [hK] at S0
  have HCg := Aside0.mk cg0
  have HR := Aside0.mk hr
  have HG := Aside0.mk hF
  have ck0 := S0.out.kind
  have HBl := Aside0.mk (blk_lt hb0)
  have ck00 : w.cell? ⟨b, 0, none⟩ = some (.int .i64 4) := ((World.cell?_alloc_past _ _ _ HBl.out).symm.trans ck0)
  suffices hsuf : Calls Try.prog 41 #[.iface F.ty F.v, .pointer (some ⟨b, 0, none⟩)] w (MOn F s (w.alloc (.cells #[.iface F.ty F.v] 114)) b A (F.run s m (fieldsS 4)).1 (F.runCost s m (fieldsS 4)) (F.run s m (fieldsS 4)).2) from hsuf.mono (fun e w' H => H.unalloc hF h.inv)
  generalize (F.run s m (fieldsS 4)).1 = sF at *
  generalize (F.run s m (fieldsS 4)).2 = mF at *
  generalize F.runCost s m (fieldsS 4) = C at *
  clear h hr hF hAl hb0 cs0 hK
  have S0 := Aside0.mk (show Stand F s (w.alloc (.cells #[.iface F.ty F.v] 114)) b A (.int .i64 4) C sF mF [.lst 10 epochF 64] (w.alloc (.cells #[.iface F.ty F.v] 114)) from S0.out)
  go_enter Try.func41, Try.ntmps41
  have C0 := Aside0.mk (S0.out.lst HG.out HR.out listT_c (by omega) (by simp [lists]) HGo.out HGb.out HGA.out HCg.out)
  go_wp2
  go_region_held3 (fun W => W.cell? ⟨w.heap.size, 0, none⟩ = some (.iface F.ty F.v)) (go_keep) (((with_reducible refine C0.out.mono ?_); rintro e w1 ⟨rfl, H⟩; have cg1 := H.cell HGo.out HGb.out HGA.out HCg.out; have ck1 := H.kind; have S1 := Aside0.mk H; clear H))
  go_wp2
  go_end0
  exact S1.out.done

set_option maxRecDepth 100000 in
set_option maxHeartbeats 8000000 in
theorem fields5_c : WholeC 41 (fieldsS 5) (fun v => v = .int .i64 5) := by
  intro F hF s w b A m hAl h hK hr
  have hmf : ∀ (fn : Fn) (first cap : Array Value) (w : World), (Instr.makeFunc fn first cap).run Try.prog w = .ok (.func fn first cap) w := fun _ _ _ _ => rfl
  have HA1 := hF.ahead 1 "meridian/wire.flag" (by decide) rfl
  have HM1 := hF.method 1 "meridian/wire.flag" (by decide) rfl
  have HE1 := hF.enter 1 (by decide)
  obtain ⟨cs0, hb0⟩ : ∃ cs0, w.heap[b]? = some (.cells cs0 35 (0, 0)) := let ⟨cs, _, h2, _⟩ := h.blk; ⟨cs, h2⟩
  have HGb := Aside0.mk (show w.heap.size ≠ b from fun e => by have := blk_lt hb0; omega)
  have HGA := Aside0.mk (show ¬ A w.heap.size from fun e => by have := hAl _ e; omega)
  have HGo := Aside0.mk (show ¬ F.own (w.alloc (.cells #[.iface F.ty F.v] 114)).heap w.heap.size from fun e => by have := hF.lt h.inv (alloc_own hF h.inv _ _ e); omega)
  have cg0 : (w.alloc (.cells #[.iface F.ty F.v] 114)).cell? ⟨w.heap.size, 0, none⟩ = some (.iface F.ty F.v) := by rw [World.cell?_alloc_at _ _ _ _ rfl]; rfl
  have S0 := Aside0.mk (Stand.start (h.alloc hF (.cells #[.iface F.ty F.v] 114)) (fieldsS 5))
  rw [hK] at S0
  have HCg := Aside0.mk cg0
  have HR := Aside0.mk hr
  have HG := Aside0.mk hF
  have ck0 := S0.out.kind
  have HBl := Aside0.mk (blk_lt hb0)
  have ck00 : w.cell? ⟨b, 0, none⟩ = some (.int .i64 5) := ((World.cell?_alloc_past _ _ _ HBl.out).symm.trans ck0)
  suffices hsuf : Calls Try.prog 41 #[.iface F.ty F.v, .pointer (some ⟨b, 0, none⟩)] w (MOn F s (w.alloc (.cells #[.iface F.ty F.v] 114)) b A (F.run s m (fieldsS 5)).1 (F.runCost s m (fieldsS 5)) (F.run s m (fieldsS 5)).2) from hsuf.mono (fun e w' H => H.unalloc hF h.inv)
  generalize (F.run s m (fieldsS 5)).1 = sF at *
  generalize (F.run s m (fieldsS 5)).2 = mF at *
  generalize F.runCost s m (fieldsS 5) = C at *
  clear h hr hF hAl hb0 cs0 hK
  have S0 := Aside0.mk (show Stand F s (w.alloc (.cells #[.iface F.ty F.v] 114)) b A (.int .i64 5) C sF mF [.row 11 posF, .row 13 [.flag]] (w.alloc (.cells #[.iface F.ty F.v] 114)) from S0.out)
  go_enter Try.func41, Try.ntmps41
  have C0 := Aside0.mk (S0.out.rowC HG.out HR.out pos_c rfl (by omega))
  go_wp2
  go_region_held3 (fun W => W.cell? ⟨w.heap.size, 0, none⟩ = some (.iface F.ty F.v)) (go_keep) (((with_reducible refine C0.out.mono ?_); rintro e w1 ⟨rfl, H⟩; have cg1 := H.cell HGo.out HGb.out HGA.out HCg.out; have ck1 := H.kind; have S1 := Aside0.mk H; clear H))
  have C1 := Aside0.mk (S1.out.flag HG.out HR.out rfl (by omega))
  go_wp2
  go_region_held3 (fun W => W.cell? ⟨w.heap.size, 0, none⟩ = some (.iface F.ty F.v)) (go_keep) (((with_reducible refine C1.out.mono ?_); rintro e w2 ⟨rfl, H⟩; have cg2 := H.cell HGo.out HGb.out HGA.out HCg.out; have ck2 := H.kind; have S2 := Aside0.mk H; clear H))
  go_wp2
  go_end0
  exact S2.out.done

end Go.Proofs.Ytcbehfbfaonanaa.Wr
end

/- A message's walks: fields, kind by kind (printed by genfields.py). -/
section
namespace Go.Proofs.Ytcbehfbfaonanaa.Wr
open Go.RowKit Go.Proofs.YtcbehfbfaonanaaW.PrintWords Go.Proofs.YtcbehfbfaonanaaW.PrintLast Go.Proofs.YtcbehfbfaonanaaW.PrintMore Go.Proofs.Ytcbehfbfaonanaa.Pk
set_option linter.unusedVariables false
set_option linter.unusedSimpArgs false

set_option maxRecDepth 100000 in
set_option maxHeartbeats 8000000 in
theorem fields7_c : WholeC 41 (fieldsS 7) (fun v => v = .int .i64 7) := by
  intro F hF s w b A m hAl h hK hr
  have hmf : ∀ (fn : Fn) (first cap : Array Value) (w : World), (Instr.makeFunc fn first cap).run Try.prog w = .ok (.func fn first cap) w := fun _ _ _ _ => rfl
  have HA2 := hF.ahead 2 "meridian/wire.text" (by decide) rfl
  have HM2 := hF.method 2 "meridian/wire.text" (by decide) rfl
  have HE2 := hF.enter 2 (by decide)
  obtain ⟨cs0, hb0⟩ : ∃ cs0, w.heap[b]? = some (.cells cs0 35 (0, 0)) := let ⟨cs, _, h2, _⟩ := h.blk; ⟨cs, h2⟩
  have HGb := Aside0.mk (show w.heap.size ≠ b from fun e => by have := blk_lt hb0; omega)
  have HGA := Aside0.mk (show ¬ A w.heap.size from fun e => by have := hAl _ e; omega)
  have HGo := Aside0.mk (show ¬ F.own (w.alloc (.cells #[.iface F.ty F.v] 114)).heap w.heap.size from fun e => by have := hF.lt h.inv (alloc_own hF h.inv _ _ e); omega)
  have cg0 : (w.alloc (.cells #[.iface F.ty F.v] 114)).cell? ⟨w.heap.size, 0, none⟩ = some (.iface F.ty F.v) := by rw [World.cell?_alloc_at _ _ _ _ rfl]; rfl
  have S0 := Aside0.mk (Stand.start (h.alloc hF (.cells #[.iface F.ty F.v] 114)) (fieldsS 7))
  rw [hK] at S0
  have HCg := Aside0.mk cg0
  have HR := Aside0.mk hr
  have HG := Aside0.mk hF
  have ck0 := S0.out.kind
  have HBl := Aside0.mk (blk_lt hb0)
  have ck00 : w.cell? ⟨b, 0, none⟩ = some (.int .i64 7) := ((World.cell?_alloc_past _ _ _ HBl.out).symm.trans ck0)
  suffices hsuf : Calls Try.prog 41 #[.iface F.ty F.v, .pointer (some ⟨b, 0, none⟩)] w (MOn F s (w.alloc (.cells #[.iface F.ty F.v] 114)) b A (F.run s m (fieldsS 7)).1 (F.runCost s m (fieldsS 7)) (F.run s m (fieldsS 7)).2) from hsuf.mono (fun e w' H => H.unalloc hF h.inv)
  generalize (F.run s m (fieldsS 7)).1 = sF at *
  generalize (F.run s m (fieldsS 7)).2 = mF at *
  generalize F.runCost s m (fieldsS 7) = C at *
  clear h hr hF hAl hb0 cs0 hK
  have S0 := Aside0.mk (show Stand F s (w.alloc (.cells #[.iface F.ty F.v] 114)) b A (.int .i64 7) C sF mF (whoS ++ [.row 16 [.text 64], .row 19 posF]) (w.alloc (.cells #[.iface F.ty F.v] 114)) from S0.out)
  go_enter Try.func41, Try.ntmps41
  have C0 := Aside0.mk (Stand.whole' who_c S0.out HG.out HR.out trivial rfl)
  go_wp2_with (go_at_call 70; (with_reducible refine C0.out.mono ?_); rintro e w1 ⟨rfl, H⟩; have cg1 := H.cell HGo.out HGb.out HGA.out HCg.out; have ck1 := H.kind; have S1 := Aside0.mk H; clear H)
  have C1 := Aside0.mk (S1.out.text HG.out HR.out rfl (by omega))
  go_region_held3 (fun W => W.cell? ⟨w.heap.size, 0, none⟩ = some (.iface F.ty F.v)) (go_keep) (((with_reducible refine C1.out.mono ?_); rintro e w2 ⟨rfl, H⟩; have cg2 := H.cell HGo.out HGb.out HGA.out HCg.out; have ck2 := H.kind; have S2 := Aside0.mk H; clear H))
  have C2 := Aside0.mk (S2.out.rowC HG.out HR.out pos_c rfl (by omega))
  go_wp2
  go_region_held3 (fun W => W.cell? ⟨w.heap.size, 0, none⟩ = some (.iface F.ty F.v)) (go_keep) (((with_reducible refine C2.out.mono ?_); rintro e w3 ⟨rfl, H⟩; have cg3 := H.cell HGo.out HGb.out HGA.out HCg.out; have ck3 := H.kind; have S3 := Aside0.mk H; clear H))
  go_wp2
  go_end0
  exact S3.out.done

set_option maxRecDepth 100000 in
set_option maxHeartbeats 8000000 in
theorem fields8_c : WholeC 41 (fieldsS 8) (fun v => v = .int .i64 8) := by
  intro F hF s w b A m hAl h hK hr
  have hmf : ∀ (fn : Fn) (first cap : Array Value) (w : World), (Instr.makeFunc fn first cap).run Try.prog w = .ok (.func fn first cap) w := fun _ _ _ _ => rfl
  have HA1 := hF.ahead 1 "meridian/wire.flag" (by decide) rfl
  have HM1 := hF.method 1 "meridian/wire.flag" (by decide) rfl
  have HE1 := hF.enter 1 (by decide)
  have HA2 := hF.ahead 2 "meridian/wire.text" (by decide) rfl
  have HM2 := hF.method 2 "meridian/wire.text" (by decide) rfl
  have HE2 := hF.enter 2 (by decide)
  obtain ⟨cs0, hb0⟩ : ∃ cs0, w.heap[b]? = some (.cells cs0 35 (0, 0)) := let ⟨cs, _, h2, _⟩ := h.blk; ⟨cs, h2⟩
  have HGb := Aside0.mk (show w.heap.size ≠ b from fun e => by have := blk_lt hb0; omega)
  have HGA := Aside0.mk (show ¬ A w.heap.size from fun e => by have := hAl _ e; omega)
  have HGo := Aside0.mk (show ¬ F.own (w.alloc (.cells #[.iface F.ty F.v] 114)).heap w.heap.size from fun e => by have := hF.lt h.inv (alloc_own hF h.inv _ _ e); omega)
  have cg0 : (w.alloc (.cells #[.iface F.ty F.v] 114)).cell? ⟨w.heap.size, 0, none⟩ = some (.iface F.ty F.v) := by rw [World.cell?_alloc_at _ _ _ _ rfl]; rfl
  have S0 := Aside0.mk (Stand.start (h.alloc hF (.cells #[.iface F.ty F.v] 114)) (fieldsS 8))
  rw [hK] at S0
  have HCg := Aside0.mk cg0
  have HR := Aside0.mk hr
  have HG := Aside0.mk hF
  have ck0 := S0.out.kind
  have HBl := Aside0.mk (blk_lt hb0)
  have ck00 : w.cell? ⟨b, 0, none⟩ = some (.int .i64 8) := ((World.cell?_alloc_past _ _ _ HBl.out).symm.trans ck0)
  suffices hsuf : Calls Try.prog 41 #[.iface F.ty F.v, .pointer (some ⟨b, 0, none⟩)] w (MOn F s (w.alloc (.cells #[.iface F.ty F.v] 114)) b A (F.run s m (fieldsS 8)).1 (F.runCost s m (fieldsS 8)) (F.run s m (fieldsS 8)).2) from hsuf.mono (fun e w' H => H.unalloc hF h.inv)
  generalize (F.run s m (fieldsS 8)).1 = sF at *
  generalize (F.run s m (fieldsS 8)).2 = mF at *
  generalize F.runCost s m (fieldsS 8) = C at *
  clear h hr hF hAl hb0 cs0 hK
  have S0 := Aside0.mk (show Stand F s (w.alloc (.cells #[.iface F.ty F.v] 114)) b A (.int .i64 8) C sF mF (whoS ++ [.row 16 [.text 64], .row 17 [.flag], .row 18 [.text 1024], .row 19 posF]) (w.alloc (.cells #[.iface F.ty F.v] 114)) from S0.out)
  go_enter Try.func41, Try.ntmps41
  have C0 := Aside0.mk (Stand.whole' who_c S0.out HG.out HR.out trivial rfl)
  go_wp2_with (go_at_call 70; (with_reducible refine C0.out.mono ?_); rintro e w1 ⟨rfl, H⟩; have cg1 := H.cell HGo.out HGb.out HGA.out HCg.out; have ck1 := H.kind; have S1 := Aside0.mk H; clear H)
  have C1 := Aside0.mk (S1.out.text HG.out HR.out rfl (by omega))
  go_region_held3 (fun W => W.cell? ⟨w.heap.size, 0, none⟩ = some (.iface F.ty F.v)) (go_keep) (((with_reducible refine C1.out.mono ?_); rintro e w2 ⟨rfl, H⟩; have cg2 := H.cell HGo.out HGb.out HGA.out HCg.out; have ck2 := H.kind; have S2 := Aside0.mk H; clear H))
  have C2 := Aside0.mk (S2.out.flag HG.out HR.out rfl (by omega))
  go_wp2
  go_region_held3 (fun W => W.cell? ⟨w.heap.size, 0, none⟩ = some (.iface F.ty F.v)) (go_keep) (((with_reducible refine C2.out.mono ?_); rintro e w3 ⟨rfl, H⟩; have cg3 := H.cell HGo.out HGb.out HGA.out HCg.out; have ck3 := H.kind; have S3 := Aside0.mk H; clear H))
  have C3 := Aside0.mk (S3.out.text HG.out HR.out rfl (by omega))
  go_wp2
  go_region_held3 (fun W => W.cell? ⟨w.heap.size, 0, none⟩ = some (.iface F.ty F.v)) (go_keep) (((with_reducible refine C3.out.mono ?_); rintro e w4 ⟨rfl, H⟩; have cg4 := H.cell HGo.out HGb.out HGA.out HCg.out; have ck4 := H.kind; have S4 := Aside0.mk H; clear H))
  have C4 := Aside0.mk (S4.out.rowC HG.out HR.out pos_c rfl (by omega))
  go_wp2
  go_region_held3 (fun W => W.cell? ⟨w.heap.size, 0, none⟩ = some (.iface F.ty F.v)) (go_keep) (((with_reducible refine C4.out.mono ?_); rintro e w5 ⟨rfl, H⟩; have cg5 := H.cell HGo.out HGb.out HGA.out HCg.out; have ck5 := H.kind; have S5 := Aside0.mk H; clear H))
  go_wp2
  go_end0
  exact S5.out.done

end Go.Proofs.Ytcbehfbfaonanaa.Wr
end

/- A message handed to a form whole: its kind, its head, its fields. -/
section
namespace Go.Proofs.Ytcbehfbfaonanaa.Wr
open Go.RowKit Go.Proofs.YtcbehfbfaonanaaW.PrintWords Go.Proofs.YtcbehfbfaonanaaW.PrintLast Go.Proofs.YtcbehfbfaonanaaW.PrintMore Go.Proofs.Ytcbehfbfaonanaa.Pk
set_option linter.unusedVariables false
set_option linter.unusedSimpArgs false

theorem fields_c (n : Int) : WholeC 41 (fieldsS n) (fun v => v = .int .i64 n) := by
  by_cases h : n < 1 ∨ n = 6 ∨ 10 < n
  · exact fieldsO_c n h
  · have : n = 1 ∨ n = 2 ∨ n = 3 ∨ n = 4 ∨ n = 5 ∨ n = 7 ∨ n = 8 ∨ n = 9 ∨ n = 10 := by omega
    rcases this with rfl | rfl | rfl | rfl | rfl | rfl | rfl | rfl | rfl
    · exact fields1_c
    · exact fields2_c
    · exact fields3_c
    · exact fields4_c
    · exact fields5_c
    · exact fields7_c
    · exact fields8_c
    · exact fields9_c
    · exact fields10_c
def script (n : Int) : List Step := headS n ++ (fieldsS n ++ [])
theorem head_pos (n : Int) : (headS n).all Step.pos = true := by
  unfold headS
  split
  · rfl
  · split <;> rfl
theorem fields_pos (n : Int) : (fieldsS n).all Step.pos = true := by
  unfold fieldsS
  repeat' split
  all_goals rfl
theorem script_few (n : Int) : (script n).all Step.few = true := by
  unfold script headS fieldsS
  simp only [List.all_append, Bool.and_eq_true]
  refine ⟨?_, ?_, rfl⟩
  · repeat' split
    all_goals rfl
  · repeat' split
    all_goals rfl
theorem script_len (n : Int) : (script n).length ≤ 16 := by
  unfold script headS fieldsS
  simp only [List.length_append]
  repeat' split
  all_goals simp [partS, whoS, faultS]
def kindM (m : M) : Int := match m.c 0 with | .int .i64 n => n | _ => 0
/-- The whole message handed to the form. -/
def Form.all (F : Form) (s : F.σ) (m : M) : F.σ × M := F.run (F.rowM s m 0 [.num 1 10]).1 (F.rowM s m 0 [.num 1 10]).2 (script (kindM (F.rowM s m 0 [.num 1 10]).2))
def Form.allCost (F : Form) (s : F.σ) (m : M) : Nat := 8 + F.runCost (F.rowM s m 0 [.num 1 10]).1 (F.rowM s m 0 [.num 1 10]).2 (script (kindM (F.rowM s m 0 [.num 1 10]).2))
theorem allCost_le {F : Form} {J : F.σ → Prop} {N : Nat} (hT : F.Tame J N) {s : F.σ} {m : M} (hs : J s) (hm : LiteM N m) (hw : Wide m) : F.allCost s m ≤ 8 + 16 * most1 N := by
  have h1 := hT.rowM (i := 0) (fs := [.num 1 10]) hs hm
  have h2 := runCost_le hT (ts := script (kindM (F.rowM s m 0 [.num 1 10]).2)) h1.1 h1.2 (show Wide (F.rowM s m 0 [.num 1 10]).2 from hw) (script_few _)
  have h3 := Nat.mul_le_mul_right (most1 N) (script_len (kindM (F.rowM s m 0 [.num 1 10]).2))
  unfold Form.allCost
  omega
variable {F : Form} {s : F.σ} {w : World} {b : Nat} {A : Nat → Prop} {m : M}
/-- The kind is handed over: the rest stands. -/
theorem kind_c (hF : F.Good) (h : MAt F s w b A s 0 m w) (hr : F.room s + F.allCost s m ≤ cap) :
    Calls Try.prog (F.k 0) #[F.v, .pointer (some ⟨b, 0, none⟩), .int .i64 1, .int .i64 10] w (StandOn F s w b A (.int .i64 (kindM (F.rowM s m 0 [.num 1 10]).2)) (F.allCost s m) (F.all s m).1 (F.all s m).2 (script (kindM (F.rowM s m 0 [.num 1 10]).2))) := by
  obtain ⟨x, hx⟩ : ∃ x, m.c 0 = .int .i64 x := h.typed 0 rfl
  obtain ⟨cs, h1, h2, h3, h4⟩ := h.blk
  refine (hF.num_c s w b 0 cs _ x 1 10 h.inv h.no (by unfold Form.allCost at hr; omega) h2 ((h3 0 rfl).trans (by rw [hx]))).mono ?_
  rintro e w' ⟨rfl, hS⟩
  have hR := h.rowDid (i := 0) (fs := [.num 1 10]) rfl (d := 8) (w1 := w') (by simpa [valsAt, hx, Form.row, Form.fld, cellsAt] using hS)
  refine ⟨rfl, _, _, _, hR, ?_, ?_, rfl⟩
  · obtain ⟨y, hy⟩ : ∃ y, (F.rowM s m 0 [.num 1 10]).2.c 0 = .int .i64 y := hR.typed 0 rfl
    unfold kindM
    rw [hy]
  · unfold Form.allCost; omega
end Go.Proofs.Ytcbehfbfaonanaa.Wr
end

/- A message made: where its walk begins; what payload comes to. -/
section
namespace Go.Proofs.Ytcbehfbfaonanaa.Wr
open Go.RowKit Go.Proofs.YtcbehfbfaonanaaW.PrintWords Go.Proofs.YtcbehfbfaonanaaW.PrintLast Go.Proofs.YtcbehfbfaonanaaW.PrintMore Go.Proofs.Ytcbehfbfaonanaa.Pk
set_option linter.unusedVariables false
set_option linter.unusedSimpArgs false

def nils : Nat → Value := fun _ => .slice none 0 0
def zeroC : Nat → Value := fun i => match kindOf i with | .num _ _ => .int .i64 0 | .flag => .bool false | .text _ => .string ⟨#[]⟩
theorem zero_msg (W : World) : (zeroValue 35).run Try.prog W = .ok (.agg (msgC zeroC nils)) W := (zero_of_info (n := 26) (by kernel_rfl)).1 W
theorem info_msg : (Try.prog.info? 35).map (·.size) = some 26 := by kernel_rfl
theorem msgC_scalar (c sv : Nat → Value) : ∀ i, scalar i = true → (msgC c sv)[i]? = some (c i) := fun i hi => by
  have h : i < 26 := by unfold scalar at hi; simp only [Bool.and_eq_true, decide_eq_true_eq] at hi; exact hi.1
  have h3 : i ≠ 3 := fun e => by subst e; cases hi
  have h8 : i ≠ 8 := fun e => by subst e; cases hi
  have h9 : i ≠ 9 := fun e => by subst e; cases hi
  have h10 : i ≠ 10 := fun e => by subst e; cases hi
  have : i = 0 ∨ i = 1 ∨ i = 2 ∨ i = 4 ∨ i = 5 ∨ i = 6 ∨ i = 7 ∨ i = 11 ∨ i = 12 ∨ i = 13 ∨ i = 14 ∨ i = 15 ∨ i = 16 ∨ i = 17 ∨ i = 18 ∨ i = 19 ∨ i = 20 ∨ i = 21 ∨ i = 22 ∨ i = 23 ∨ i = 24 ∨ i = 25 := by omega
  rcases this with rfl | rfl | rfl | rfl | rfl | rfl | rfl | rfl | rfl | rfl | rfl | rfl | rfl | rfl | rfl | rfl | rfl | rfl | rfl | rfl | rfl | rfl <;> rfl
theorem msgC_list (c sv : Nat → Value) {j : Nat} {fs : List Fld} (h : (j, fs) ∈ lists) : (msgC c sv)[j]? = some (sv j) := by
  simp only [lists, List.mem_cons, Prod.mk.injEq, List.not_mem_nil, or_false] at h
  rcases h with ⟨rfl, _⟩ | ⟨rfl, _⟩ | ⟨rfl, _⟩ | ⟨rfl, _⟩ <;> rfl
theorem msgC_size (c sv : Nat → Value) : (msgC c sv).size = 26 := rfl
/-- A message that lies in a block of its own, its lists in arrays apart: a walk may begin. -/
theorem MAt.made {F : Form} {s : F.σ} {w : World} {b : Nat} {m : M} {sv : Nat → Value} {A : Nat → Prop} (hI : F.Inv s w) (hno : ¬ F.own w.heap b) (hb : w.heap[b]? = some (.cells (msgC m.c sv) 35 (0, 0)))
    (ht : Typed m) (hf : Fit m) (hn : ∀ j, (m.L j).length ≤ 1048576) (hl : ∀ j fs, (j, fs) ∈ lists → ListAt w (sv j) fs.length (m.L j))
    (hr : ∀ j fs, (j, fs) ∈ lists → ∀ k, arr (sv j) = some k → m.L j ≠ [] → k ≠ b ∧ ¬ F.own w.heap k ∧ A k)
    (hd : ∀ j fs j' fs', (j, fs) ∈ lists → (j', fs') ∈ lists → j' ≠ j → ∀ k, arr (sv j) = some k → m.L j ≠ [] → m.L j' ≠ [] → arr (sv j') ≠ some k) : MAt F s w b A s 0 m w := by
  refine ⟨hI, fun _ _ h => h, Nat.le_refl _, hno, Only.refl _ _, ht, _, msgC_size _ _, hb, msgC_scalar _ _, fun j fs hj => ⟨⟨hf j fs hj, Nat.le_trans (hn j) (by omega)⟩, sv j, msgC_list _ _ hj, hl j fs hj, fun k hk h0 => ⟨(hr j fs hj k hk h0).1, (hr j fs hj k hk h0).2.1, .inl (hr j fs hj k hk h0).2.2, ?_⟩⟩⟩
  intro j' fs' sv' hj' hne hs' h0' ha
  rw [msgC_list _ _ hj'] at hs'
  injection hs' with hs'
  subst hs'
  exact hd j fs j' fs' hj hj' hne k hk h0 h0' ha
theorem ListAt.below {w w' : World} {sv : Value} {st : Nat} {rows : List (List Value)} (h : ListAt w sv st rows) (hB : Below w.heap.size w w') : ListAt w' sv st rows :=
  h.move fun k hk h0 => hB.block k (h.lt hk h0)

theorem oAll_g (g h : Nat) (s : OSt) (m : M) : ((oForm g).all s m).1 = ((oForm h).all s m).1 := by
  unfold Form.all
  have e1 := oRowM g s m 0 [.num 1 10]
  have e2 := oRowM h s m 0 [.num 1 10]
  have e3 : ((oForm g).rowM s m 0 [.num 1 10]).1 = ((oForm h).rowM s m 0 [.num 1 10]).1 := oRow_g g h _ _ s
  rw [e1, e2]
  exact (oRun_g g h _ _ m).trans (congrArg (fun s' : OSt => ((oForm h).run s' m (script (kindM m))).1) e3)
theorem oAll_m (g : Nat) (s : OSt) (m : M) : ((oForm g).all s m).2 = m := (oRun_m g _ _ _).trans (oRowM g s m 0 _)
theorem own_base_le {w : World} {B B' : Nat} {e : TypeId} {st : Nat} {v : Value} {n : Nat} {xs : List Value} (h : w.ownsRow B e st v n xs) (hB : B' ≤ B) : w.ownsRow B' e st v n xs :=
  ⟨h.1, h.2.imp id (fun ⟨g, cap, cur, e1, e2, e3⟩ => ⟨g, cap, cur, e1, Nat.le_trans hB e2, e3⟩)⟩
/-- What a message's payload comes to. -/
def payS (m : M) : OSt := ((oForm 0).all ([], false, false) m).1
def payB (m : M) : List Int := (payS m).1
def payOk (m : M) : Bool := decide (1 ≤ kindM m) && decide (kindM m ≤ 10) && !(payS m).2.1 && !(payS m).2.2
theorem oAll_pay (g : Nat) (m : M) : ((oForm g).all ([], false, false) m).1 = payS m := oAll_g g 0 _ _
def IsPay (m : M) (w : World) (e : Ending) (w' : World) : Prop :=
  Below w.heap.size w w' ∧ ∃ sv ok, e = .returned (.tuple #[sv, .bool ok]) ∧ ok = payOk m ∧ (ok = true → ∃ q c, sv = .slice (some ⟨q, 0, none⟩) (payB m).length c ∧ w'.ownsRow w.heap.size 5 1 sv (payB m).length (nums .u8 (payB m)) ∧ (payB m).length ≤ c ∧ c ≤ 9223372036854775807 ∧ w.heap.size ≤ q ∧ (payB m).length ≤ 9000000000)
theorem oNew {w : World} : OInv w.heap.size ([], false, false) (w.alloc (.cells #[.slice none 0 0, .bool false, .bool false] 83)) :=
  ⟨.slice none 0 0, blk_new w _, ⟨rfl, .inl ⟨rfl, rfl⟩⟩, by simp [Value.ownBlock]⟩
theorem oOwn_new {w : World} {k : Nat} (h : OOwn w.heap.size (w.alloc (.cells #[.slice none 0 0, .bool false, .bool false] 83)).heap k) : k = w.heap.size := by
  obtain ⟨v, hW⟩ := oNew (w := w)
  rcases (OOwn.of hW k).1 h with h | h
  · exact h
  · have e : v = .slice none 0 0 := by
      have := hW.1
      rw [blk_new w _] at this
      injection this with this
      injection this with this
      have := congrArg (fun a : Array Value => a[0]?) this
      simpa using this.symm
    subst e
    simp [Value.ownBlock] at h
def fourS (v3 v8 v9 v10 : Value) : Nat → Value := fun j => if j = 3 then v3 else if j = 8 then v8 else if j = 9 then v9 else if j = 10 then v10 else .slice none 0 0
/-- The walk over payload's copy begins. -/
theorem pay_made {w8 : World} {g4 : Nat} {m : M} {v3 v8 v9 v10 : Value} {B3 B4 B5 B6 B7 : Nat} (hb : w8.heap[g4]? = some (.cells (msgC m.c (fourS v3 v8 v9 v10)) 35 (0, 0)))
    (ht : Typed m) (hf : Fit m) (hn : ∀ j, (m.L j).length ≤ 1048576) (l3 : ListAt w8 v3 7 (m.L 3)) (l8 : ListAt w8 v8 5 (m.L 8)) (l9 : ListAt w8 v9 4 (m.L 9)) (l10 : ListAt w8 v10 3 (m.L 10))
    (r3 : ∀ k, arr v3 = some k → m.L 3 ≠ [] → B3 ≤ k ∧ k < B4) (r8 : ∀ k, arr v8 = some k → m.L 8 ≠ [] → B4 ≤ k ∧ k < B5) (r9 : ∀ k, arr v9 = some k → m.L 9 ≠ [] → B5 ≤ k ∧ k < B6) (r10 : ∀ k, arr v10 = some k → m.L 10 ≠ [] → B6 ≤ k ∧ k < B7)
    (h3 : g4 < B3) (h4 : B3 ≤ B4) (h5 : B4 ≤ B5) (h6 : B5 ≤ B6) (h7 : B6 ≤ B7) (h8 : B7 ≤ w8.heap.size) :
    MAt (oForm w8.heap.size) ([], false, false) (w8.alloc (.cells #[.slice none 0 0, .bool false, .bool false] 83)) g4 (fun k => B3 ≤ k ∧ k < w8.heap.size) ([], false, false) 0 m (w8.alloc (.cells #[.slice none 0 0, .bool false, .bool false] 83)) := by
  have hmv : ∀ k, k < w8.heap.size → (w8.alloc (.cells #[.slice none 0 0, .bool false, .bool false] 83)).heap[k]? = w8.heap[k]? := fun k hk => Below.heap_alloc w8 _ k hk
  have hR : ∀ j fs, (j, fs) ∈ lists → ∀ k, arr (fourS v3 v8 v9 v10 j) = some k → m.L j ≠ [] → B3 ≤ k ∧ k < B7 ∧ (j = 3 → k < B4) ∧ (j = 8 → B4 ≤ k ∧ k < B5) ∧ (j = 9 → B5 ≤ k ∧ k < B6) ∧ (j = 10 → B6 ≤ k) := by
    intro j fs hj k hk h0
    simp only [lists, List.mem_cons, Prod.mk.injEq, List.not_mem_nil, or_false] at hj
    rcases hj with ⟨rfl, _⟩ | ⟨rfl, _⟩ | ⟨rfl, _⟩ | ⟨rfl, _⟩
    · have := r3 k hk h0; omega
    · have := r8 k hk h0; omega
    · have := r9 k hk h0; omega
    · have := r10 k hk h0; omega
  refine MAt.made oNew (fun h => ?_) ((hmv g4 (by omega)).trans hb) ht hf hn ?_ ?_ ?_
  · have := oOwn_new h; omega
  · intro j fs hj
    have hj' := hj
    simp only [lists, List.mem_cons, Prod.mk.injEq, List.not_mem_nil, or_false] at hj
    rcases hj with ⟨rfl, rfl⟩ | ⟨rfl, rfl⟩ | ⟨rfl, rfl⟩ | ⟨rfl, rfl⟩
    · exact l3.below ((Below.refl _ _).alloc (Nat.le_refl _) _)
    · exact l8.below ((Below.refl _ _).alloc (Nat.le_refl _) _)
    · exact l9.below ((Below.refl _ _).alloc (Nat.le_refl _) _)
    · exact l10.below ((Below.refl _ _).alloc (Nat.le_refl _) _)
  · intro j fs hj k hk h0
    have := hR j fs hj k hk h0
    refine ⟨by omega, fun h => ?_, by omega, by omega⟩
    have := oOwn_new h; omega
  · intro j fs j' fs' hj hj' hne k hk h0 h0' hk'
    have a1 := hR j fs hj k hk h0
    have a2 := hR j' fs' hj' k hk' h0'
    simp only [lists, List.mem_cons, Prod.mk.injEq, List.not_mem_nil, or_false] at hj hj'
    rcases hj with ⟨rfl, _⟩ | ⟨rfl, _⟩ | ⟨rfl, _⟩ | ⟨rfl, _⟩ <;> rcases hj' with ⟨rfl, _⟩ | ⟨rfl, _⟩ | ⟨rfl, _⟩ | ⟨rfl, _⟩ <;> first | exact hne rfl | omega
theorem pay_room (g : Nat) {m : M} (hs : Small m) : (oForm g).room ([], false, false) + (oForm g).allCost ([], false, false) m ≤ 9000000000 := by
  have h := allCost_le (oTame g 1048576) (s := ([], false, false)) trivial hs.lite hs.wide
  have e : (oForm g).room ([], false, false) = 0 := rfl
  rw [e]
  unfold most1 at h
  omega
theorem le_cap {n : Nat} (h : n ≤ 9000000000) : n ≤ cap := by unfold cap; omega
/-- Where payload's walk stands. -/
def PayAt (w8 : World) (g4 B : Nat) (m : M) (C : Nat) (n : Int) (ts : List Step) (w : World) : Prop :=
  (oForm w8.heap.size).room ([], false, false) + C ≤ 9000000000 ∧ Stand (oForm w8.heap.size) ([], false, false) (w8.alloc (.cells #[.slice none 0 0, .bool false, .bool false] 83)) g4 (fun k => B ≤ k ∧ k < w8.heap.size) (.int .i64 n) C (payS m) m ts w
theorem pay_kind {w8 : World} {g4 B : Nat} {m : M} (h : MAt (oForm w8.heap.size) ([], false, false) (w8.alloc (.cells #[.slice none 0 0, .bool false, .bool false] 83)) g4 (fun k => B ≤ k ∧ k < w8.heap.size) ([], false, false) 0 m (w8.alloc (.cells #[.slice none 0 0, .bool false, .bool false] 83))) (hs : Small m) :
    ∃ n C, Calls Try.prog 39 #[.pointer (some ⟨w8.heap.size, 0, none⟩), .pointer (some ⟨g4, 0, none⟩), .int .i64 1, .int .i64 10] (w8.alloc (.cells #[.slice none 0 0, .bool false, .bool false] 83))
      (fun e w => e = .returned (.tuple #[]) ∧ PayAt w8 g4 B m C n (script n) w) := by
  have hr := pay_room w8.heap.size hs
  have hC := kind_c (oGood w8.heap.size) h (le_cap hr)
  rw [oAll_pay, oAll_m] at hC
  exact ⟨_, _, hC.mono fun e w H => ⟨H.1, hr, H.2⟩⟩
theorem pay_head {w8 w : World} {g4 B : Nat} {m : M} {C : Nat} {n : Int} (h : PayAt w8 g4 B m C n (script n) w) :
    Calls Try.prog 40 #[.iface 77 (.pointer (some ⟨w8.heap.size, 0, none⟩)), .pointer (some ⟨g4, 0, none⟩)] w (fun e w => e = .returned (.tuple #[]) ∧ PayAt w8 g4 B m C n (fieldsS n ++ []) w) :=
  (Stand.whole' (head_c n) h.2 (oGood w8.heap.size) (le_cap h.1) rfl (head_pos n)).mono fun e w H => ⟨H.1, h.1, H.2⟩
theorem pay_fields {w8 w : World} {g4 B : Nat} {m : M} {C : Nat} {n : Int} (h : PayAt w8 g4 B m C n (fieldsS n ++ []) w) :
    Calls Try.prog 41 #[.iface 77 (.pointer (some ⟨w8.heap.size, 0, none⟩)), .pointer (some ⟨g4, 0, none⟩)] w (fun e w => e = .returned (.tuple #[]) ∧ PayAt w8 g4 B m C n [] w) :=
  (Stand.whole' (fields_c n) h.2 (oGood w8.heap.size) (le_cap h.1) rfl (fields_pos n)).mono fun e w H => ⟨H.1, h.1, H.2⟩
/-- What payload's walk has turned was made by it. -/
theorem pay_end {w w8 w12 : World} {g4 B : Nat} {m : M} {C : Nat} {n : Int} (h0 : Below w.heap.size w w8) (h : PayAt w8 g4 B m C n [] w12) (h4 : g4 < B) (hB : w.heap.size ≤ g4) : Below w.heap.size w w12 ∧ ∃ v, WrAt w12 w8.heap.size 83 [.bool (payS m).2.2] v (payS m).1 (payS m).2.1 ∧ (payS m).1.length ≤ 9000000000 := by
  have h' := h.2.done.2
  have hr : (payS m).1.length ≤ 9000000000 := Nat.le_trans h'.room h.1
  obtain ⟨v, hW⟩ := h'.inv
  refine ⟨below_only (h0.alloc h0.size _) h'.only (by have := h0.size; rw [World.size_alloc]; omega) ?_, v, hW, hr⟩
  rintro k (hk | hk | hk)
  · have := oOwn_new hk; have := h0.size; omega
  · omega
  · omega
end Go.Proofs.Ytcbehfbfaonanaa.Wr
end

/- payload: a message's fields as bytes. -/
section
namespace Go.Proofs.Ytcbehfbfaonanaa.Wr
open Go.RowKit Go.Proofs.YtcbehfbfaonanaaW.PrintWords Go.Proofs.YtcbehfbfaonanaaW.PrintLast Go.Proofs.YtcbehfbfaonanaaW.PrintMore Go.Proofs.Ytcbehfbfaonanaa.Pk
set_option linter.unusedVariables false
set_option linter.unusedSimpArgs false


set_option maxRecDepth 100000 in
set_option maxHeartbeats 4000000 in
theorem payload_c (w : World) (v : Value) (m : M) (sv : Nat → Value) (h : MsgRd w v m sv) (hs : Small m) :
    Calls Try.prog 19 #[v] w (IsPay m w) := by
  obtain ⟨ev, ht, hf, hr⟩ := h
  have HH := Aside0.mk (And.intro ht (And.intro hf hs))
  obtain ⟨x0, e0⟩ := ht 0 rfl
  have E0 := Aside0.mk e0
  obtain ⟨x1, e1⟩ := ht 1 rfl
  have E1 := Aside0.mk e1
  obtain ⟨x2, e2⟩ := ht 2 rfl
  have E2 := Aside0.mk e2
  obtain ⟨x4, e4⟩ := ht 4 rfl
  have E4 := Aside0.mk e4
  obtain ⟨x5, e5⟩ := ht 5 rfl
  have E5 := Aside0.mk e5
  obtain ⟨x6, e6⟩ := ht 6 rfl
  have E6 := Aside0.mk e6
  obtain ⟨x7, e7⟩ := ht 7 rfl
  have E7 := Aside0.mk e7
  obtain ⟨x11, e11⟩ := ht 11 rfl
  have E11 := Aside0.mk e11
  obtain ⟨x12, e12⟩ := ht 12 rfl
  have E12 := Aside0.mk e12
  obtain ⟨x13, e13⟩ := ht 13 rfl
  have E13 := Aside0.mk e13
  obtain ⟨x14, e14⟩ := ht 14 rfl
  have E14 := Aside0.mk e14
  obtain ⟨x15, e15⟩ := ht 15 rfl
  have E15 := Aside0.mk e15
  obtain ⟨x16, e16⟩ := ht 16 rfl
  have E16 := Aside0.mk e16
  obtain ⟨x17, e17⟩ := ht 17 rfl
  have E17 := Aside0.mk e17
  obtain ⟨x18, e18⟩ := ht 18 rfl
  have E18 := Aside0.mk e18
  obtain ⟨x19, e19⟩ := ht 19 rfl
  have E19 := Aside0.mk e19
  obtain ⟨x20, e20⟩ := ht 20 rfl
  have E20 := Aside0.mk e20
  obtain ⟨x21, e21⟩ := ht 21 rfl
  have E21 := Aside0.mk e21
  obtain ⟨x22, e22⟩ := ht 22 rfl
  have E22 := Aside0.mk e22
  obtain ⟨x23, e23⟩ := ht 23 rfl
  have E23 := Aside0.mk e23
  obtain ⟨x24, e24⟩ := ht 24 rfl
  have E24 := Aside0.mk e24
  obtain ⟨x25, e25⟩ := ht 25 rfl
  have E25 := Aside0.mk e25
  have HC := Aside0.mk (fun (W : World) (hB : Below w.heap.size w W) => And.intro (cloneEntry_c W (sv 3) (m.L 3) ((hr 3 entryF (by simp [lists])).below (by simp [entryF]) (fitl hf (by simp [lists])) hB) (hf 3 entryF (by simp [lists])) (hs.few 3)) (And.intro (clonePair_c W (sv 8) (m.L 8) ((hr 8 pairF (by simp [lists])).below (by simp [pairF]) (fitl hf (by simp [lists])) hB) (hf 8 pairF (by simp [lists])) (hs.few 8)) (And.intro (cloneSeen_c W (sv 9) (m.L 9) ((hr 9 seenF (by simp [lists])).below (by simp [seenF]) (fitl hf (by simp [lists])) hB) (hf 9 seenF (by simp [lists])) (hs.few 9)) (cloneEpoch_c W (sv 10) (m.L 10) ((hr 10 epochF (by simp [lists])).below (by simp [epochF]) (fitl hf (by simp [lists])) hB) (hf 10 epochF (by simp [lists])) (hs.few 10)))))
  obtain ⟨A3, c3, s3, R3⟩ := hr 3 entryF (by simp [lists])
  obtain ⟨A8, c8, s8, R8⟩ := hr 8 pairF (by simp [lists])
  obtain ⟨A9, c9, s9, R9⟩ := hr 9 seenF (by simp [lists])
  obtain ⟨A10, c10, s10, R10⟩ := hr 10 epochF (by simp [lists])
  have ev' : v = .agg #[.int .i64 x0, .int .i64 x1, .int .i64 x2, .slice A3 (m.L 3).length c3, .int .i64 x4, .int .i64 x5, .int .i64 x6, .int .i64 x7, .slice A8 (m.L 8).length c8, .slice A9 (m.L 9).length c9, .slice A10 (m.L 10).length c10, .int .i64 x11, .int .i64 x12, .bool x13, .int .i64 x14, .int .i64 x15, .string x16, .bool x17, .string x18, .int .i64 x19, .int .i64 x20, .int .i64 x21, .int .i64 x22, .int .i64 x23, .bool x24, .string x25] := by rw [ev]; simp only [msgV, msgC, e0, e1, e2, e4, e5, e6, e7, e11, e12, e13, e14, e15, e16, e17, e18, e19, e20, e21, e22, e23, e24, e25, s3, s8, s9, s10]
  rw [s3] at HC
  rw [s8] at HC
  rw [s9] at HC
  rw [s10] at HC
  rw [ev']
  clear ev ev' ht hf hr hs e0 e1 e2 e4 e5 e6 e7 e11 e12 e13 e14 e15 e16 e17 e18 e19 e20 e21 e22 e23 e24 e25 s3 R3 s8 R8 s9 R9 s10 R10
  by_cases h1 : x0 < 1
  · have HP := Aside0.mk (show payOk m = false from by unfold payOk kindM; rw [E0.out]; simp only [decide_eq_false (show ¬ 1 ≤ x0 from by omega), Bool.false_and])
    clear HH HC E0 E1 E2 E4 E5 E6 E7 E11 E12 E13 E14 E15 E16 E17 E18 E19 E20 E21 E22 E23 E24 E25
    go_enter Try.func19, Try.ntmps19
    go_wp2_with (first | ((with_reducible refine gate_dst (N := 1) rfl ?_); refine box_row rfl 35 (.tmp 0) rfl #[.int .i64 x0, .int .i64 x1, .int .i64 x2, .slice A3 (m.L 3).length c3, .int .i64 x4, .int .i64 x5, .int .i64 x6, .int .i64 x7, .slice A8 (m.L 8).length c8, .slice A9 (m.L 9).length c9, .slice A10 (m.L 10).length c10, .int .i64 x11, .int .i64 x12, .bool x13, .int .i64 x14, .int .i64 x15, .string x16, .bool x17, .string x18, .int .i64 x19, .int .i64 x20, .int .i64 x21, .int .i64 x22, .int .i64 x23, .bool x24, .string x25] rfl ?_; intro gb w1 hg hbox hb; have HB1 := Aside0.mk hb; clear hb hg; have q0 := blk_cell hbox 0; simp only [List.getElem?_toArray, List.getElem?_cons_zero, List.getElem?_cons_succ] at q0; clear hbox))
    go_ret2
    exact ⟨HB1.out, _, _, rfl, HP.out.symm, fun h => by cases h⟩
  by_cases h2 : 10 < x0
  · have HP := Aside0.mk (show payOk m = false from by unfold payOk kindM; rw [E0.out]; simp only [decide_eq_false (show ¬ x0 ≤ 10 from by omega), Bool.and_false, Bool.false_and])
    clear HH HC E0 E1 E2 E4 E5 E6 E7 E11 E12 E13 E14 E15 E16 E17 E18 E19 E20 E21 E22 E23 E24 E25
    go_enter Try.func19, Try.ntmps19
    go_wp2_with (first | ((with_reducible refine gate_dst (N := 1) rfl ?_); refine box_row rfl 35 (.tmp 0) rfl #[.int .i64 x0, .int .i64 x1, .int .i64 x2, .slice A3 (m.L 3).length c3, .int .i64 x4, .int .i64 x5, .int .i64 x6, .int .i64 x7, .slice A8 (m.L 8).length c8, .slice A9 (m.L 9).length c9, .slice A10 (m.L 10).length c10, .int .i64 x11, .int .i64 x12, .bool x13, .int .i64 x14, .int .i64 x15, .string x16, .bool x17, .string x18, .int .i64 x19, .int .i64 x20, .int .i64 x21, .int .i64 x22, .int .i64 x23, .bool x24, .string x25] rfl ?_; intro gb w1 hg hbox hb; have HB1 := Aside0.mk hb; clear hb hg; have q0 := blk_cell hbox 0; simp only [List.getElem?_toArray, List.getElem?_cons_zero, List.getElem?_cons_succ] at q0; clear hbox))
    go_ret2
    exact ⟨HB1.out, _, _, rfl, HP.out.symm, fun h => by cases h⟩
  have HK := Aside0.mk (show kindM m = x0 from by unfold kindM; rw [E0.out])
  go_enter Try.func19, Try.ntmps19
  go_wp2_with (first | ((with_reducible refine gate_dst (N := 1) rfl ?_); refine box_row rfl 35 (.tmp 0) rfl #[.int .i64 x0, .int .i64 x1, .int .i64 x2, .slice A3 (m.L 3).length c3, .int .i64 x4, .int .i64 x5, .int .i64 x6, .int .i64 x7, .slice A8 (m.L 8).length c8, .slice A9 (m.L 9).length c9, .slice A10 (m.L 10).length c10, .int .i64 x11, .int .i64 x12, .bool x13, .int .i64 x14, .int .i64 x15, .string x16, .bool x17, .string x18, .int .i64 x19, .int .i64 x20, .int .i64 x21, .int .i64 x22, .int .i64 x23, .bool x24, .string x25] rfl ?_; intro gb w1 hg hbox hb; have HB1 := Aside0.mk hb; have HX1 := Aside0.mk hbox; have HG1 := Aside0.mk hg; clear hb hg; have q0 := blk_cell hbox 0; simp only [List.getElem?_toArray, List.getElem?_cons_zero, List.getElem?_cons_succ] at q0; have q1 := blk_cell hbox 1; simp only [List.getElem?_toArray, List.getElem?_cons_zero, List.getElem?_cons_succ] at q1; have q2 := blk_cell hbox 2; simp only [List.getElem?_toArray, List.getElem?_cons_zero, List.getElem?_cons_succ] at q2; have q3 := blk_cell hbox 3; simp only [List.getElem?_toArray, List.getElem?_cons_zero, List.getElem?_cons_succ] at q3; have q4 := blk_cell hbox 4; simp only [List.getElem?_toArray, List.getElem?_cons_zero, List.getElem?_cons_succ] at q4; have q5 := blk_cell hbox 5; simp only [List.getElem?_toArray, List.getElem?_cons_zero, List.getElem?_cons_succ] at q5; have q6 := blk_cell hbox 6; simp only [List.getElem?_toArray, List.getElem?_cons_zero, List.getElem?_cons_succ] at q6; have q7 := blk_cell hbox 7; simp only [List.getElem?_toArray, List.getElem?_cons_zero, List.getElem?_cons_succ] at q7; have q8 := blk_cell hbox 8; simp only [List.getElem?_toArray, List.getElem?_cons_zero, List.getElem?_cons_succ] at q8; have q9 := blk_cell hbox 9; simp only [List.getElem?_toArray, List.getElem?_cons_zero, List.getElem?_cons_succ] at q9; have q10 := blk_cell hbox 10; simp only [List.getElem?_toArray, List.getElem?_cons_zero, List.getElem?_cons_succ] at q10; have q11 := blk_cell hbox 11; simp only [List.getElem?_toArray, List.getElem?_cons_zero, List.getElem?_cons_succ] at q11; have q12 := blk_cell hbox 12; simp only [List.getElem?_toArray, List.getElem?_cons_zero, List.getElem?_cons_succ] at q12; have q13 := blk_cell hbox 13; simp only [List.getElem?_toArray, List.getElem?_cons_zero, List.getElem?_cons_succ] at q13; have q14 := blk_cell hbox 14; simp only [List.getElem?_toArray, List.getElem?_cons_zero, List.getElem?_cons_succ] at q14; have q15 := blk_cell hbox 15; simp only [List.getElem?_toArray, List.getElem?_cons_zero, List.getElem?_cons_succ] at q15; have q16 := blk_cell hbox 16; simp only [List.getElem?_toArray, List.getElem?_cons_zero, List.getElem?_cons_succ] at q16; have q17 := blk_cell hbox 17; simp only [List.getElem?_toArray, List.getElem?_cons_zero, List.getElem?_cons_succ] at q17; have q18 := blk_cell hbox 18; simp only [List.getElem?_toArray, List.getElem?_cons_zero, List.getElem?_cons_succ] at q18; have q19 := blk_cell hbox 19; simp only [List.getElem?_toArray, List.getElem?_cons_zero, List.getElem?_cons_succ] at q19; have q20 := blk_cell hbox 20; simp only [List.getElem?_toArray, List.getElem?_cons_zero, List.getElem?_cons_succ] at q20; have q21 := blk_cell hbox 21; simp only [List.getElem?_toArray, List.getElem?_cons_zero, List.getElem?_cons_succ] at q21; have q22 := blk_cell hbox 22; simp only [List.getElem?_toArray, List.getElem?_cons_zero, List.getElem?_cons_succ] at q22; have q23 := blk_cell hbox 23; simp only [List.getElem?_toArray, List.getElem?_cons_zero, List.getElem?_cons_succ] at q23; have q24 := blk_cell hbox 24; simp only [List.getElem?_toArray, List.getElem?_cons_zero, List.getElem?_cons_succ] at q24; have q25 := blk_cell hbox 25; simp only [List.getElem?_toArray, List.getElem?_cons_zero, List.getElem?_cons_succ] at q25; clear hbox) | ((with_reducible refine gate_dst (N := 4) rfl ?_); refine alloc_row rfl 35 rfl _ (zero_msg _) ?_; intro g4 w2 hg hbox hb; have HB2 := Aside0.mk hb; have HX2 := Aside0.mk hbox; have HG2 := Aside0.mk hg; clear hb hg hbox) | ((with_reducible refine gate_store (t := 35) (p := 4) (v := .tmp 48) rfl ?_); refine store_row rfl 35 (.tmp 4) (.tmp 48) rfl g4 rfl #[.int .i64 x0, .int .i64 x1, .int .i64 x2, .slice none 0 0, .int .i64 x4, .int .i64 x5, .int .i64 x6, .int .i64 x7, .slice none 0 0, .slice none 0 0, .slice none 0 0, .int .i64 x11, .int .i64 x12, .bool x13, .int .i64 x14, .int .i64 x15, .string x16, .bool x17, .string x18, .int .i64 x19, .int .i64 x20, .int .i64 x21, .int .i64 x22, .int .i64 x23, .bool x24, .string x25] _ rfl _ HX2.out rfl info_msg rfl ?_; intro w3 hX hO; have HX3 := Aside0.mk hX; have HO3 := Aside0.mk hO; clear hX hO))
  have hgb := blk_lt HX1.out
  have hg4 := HG2.out
  have hne : gb ≠ g4 := by omega
  have hne' : g4 ≠ gb := by omega
  have HGE := Aside0.mk (show w.heap.size ≤ g4 from by have := HB1.out.size; omega)
  have HXb := Aside0.mk (show w3.heap[gb]? = some (.cells #[.int .i64 x0, .int .i64 x1, .int .i64 x2, .slice A3 (m.L 3).length c3, .int .i64 x4, .int .i64 x5, .int .i64 x6, .int .i64 x7, .slice A8 (m.L 8).length c8, .slice A9 (m.L 9).length c9, .slice A10 (m.L 10).length c10, .int .i64 x11, .int .i64 x12, .bool x13, .int .i64 x14, .int .i64 x15, .string x16, .bool x17, .string x18, .int .i64 x19, .int .i64 x20, .int .i64 x21, .int .i64 x22, .int .i64 x23, .bool x24, .string x25] 35 (0, 0)) from (HO3.out.block gb (by have := HB2.out.size; omega) hne).trans ((HB2.out.block gb hgb).trans HX1.out))
  have HBw := Aside0.mk (below_only (HB1.out.trans (HB2.out.mono HB1.out.size)) HO3.out (by have := HB1.out.size; have := HB2.out.size; omega) (fun k hk => by have := HB1.out.size; have hk' : k = g4 := hk; omega))
  clear q0 q1 q2 q3 q4 q5 q6 q7 q8 q9 q10 q11 q12 q13 q14 q15 q16 q17 q18 q19 q20 q21 q22 q23 q24 q25 HB1 HX1 HG1 HB2 HX2 HG2 HO3 hgb hg4
  have t3 := blk_cell HXb.out 3
  simp only [List.getElem?_toArray, List.getElem?_cons_zero, List.getElem?_cons_succ] at t3
  have t8 := blk_cell HXb.out 8
  simp only [List.getElem?_toArray, List.getElem?_cons_zero, List.getElem?_cons_succ] at t8
  have t9 := blk_cell HXb.out 9
  simp only [List.getElem?_toArray, List.getElem?_cons_zero, List.getElem?_cons_succ] at t9
  have t10 := blk_cell HXb.out 10
  simp only [List.getElem?_toArray, List.getElem?_cons_zero, List.getElem?_cons_succ] at t10
  go_region_held3 (fun W => W.cell? ⟨gb, 3, none⟩ = some (.slice A3 (m.L 3).length c3) ∧ W.cell? ⟨gb, 8, none⟩ = some (.slice A8 (m.L 8).length c8) ∧ W.cell? ⟨gb, 9, none⟩ = some (.slice A9 (m.L 9).length c9) ∧ W.cell? ⟨gb, 10, none⟩ = some (.slice A10 (m.L 10).length c10)) (go_keep) ((first | (go_at_call 35; (with_reducible refine ((HC.out _ HBw.out.drew).1).mono ?_); rintro e w4 ⟨s, rfl, hB, hA, hR, hN⟩; obtain ⟨a3, k3, es, _⟩ := id hA; subst es; have HBw4 := Aside0.mk ((HBw.out.drew).trans (hB.mono (HBw.out.drew).size)); have HXb4 := Aside0.mk ((hB.block gb (blk_lt HXb.out)).trans HXb.out); have HX44 := Aside0.mk ((hB.block g4 (blk_lt HX3.out)).trans HX3.out); have HA3 := Aside0.mk hA; have HN3 := Aside0.mk hN; have HS3 := Aside0.mk hB; clear hA hN hR hB; have t3_4 := blk_cell HXb4.out 3; simp only [List.getElem?_toArray, List.getElem?_cons_zero, List.getElem?_cons_succ] at t3_4; have t8_4 := blk_cell HXb4.out 8; simp only [List.getElem?_toArray, List.getElem?_cons_zero, List.getElem?_cons_succ] at t8_4; have t9_4 := blk_cell HXb4.out 9; simp only [List.getElem?_toArray, List.getElem?_cons_zero, List.getElem?_cons_succ] at t9_4; have t10_4 := blk_cell HXb4.out 10; simp only [List.getElem?_toArray, List.getElem?_cons_zero, List.getElem?_cons_succ] at t10_4) | (go_at_call 36; (with_reducible refine ((HC.out _ HBw4.out).2.1).mono ?_); rintro e w5 ⟨s, rfl, hB, hA, hR, hN⟩; obtain ⟨a8, k8, es, _⟩ := id hA; subst es; have HBw5 := Aside0.mk ((HBw4.out).trans (hB.mono (HBw4.out).size)); have HXb5 := Aside0.mk ((hB.block gb (blk_lt HXb4.out)).trans HXb4.out); have HX45 := Aside0.mk ((hB.block g4 (blk_lt HX44.out)).trans HX44.out); have HA8 := Aside0.mk hA; have HN8 := Aside0.mk hN; have HS8 := Aside0.mk hB; clear hA hN hR hB; have t3_5 := blk_cell HXb5.out 3; simp only [List.getElem?_toArray, List.getElem?_cons_zero, List.getElem?_cons_succ] at t3_5; have t8_5 := blk_cell HXb5.out 8; simp only [List.getElem?_toArray, List.getElem?_cons_zero, List.getElem?_cons_succ] at t8_5; have t9_5 := blk_cell HXb5.out 9; simp only [List.getElem?_toArray, List.getElem?_cons_zero, List.getElem?_cons_succ] at t9_5; have t10_5 := blk_cell HXb5.out 10; simp only [List.getElem?_toArray, List.getElem?_cons_zero, List.getElem?_cons_succ] at t10_5) | (go_at_call 37; (with_reducible refine ((HC.out _ HBw5.out).2.2.1).mono ?_); rintro e w6 ⟨s, rfl, hB, hA, hR, hN⟩; obtain ⟨a9, k9, es, _⟩ := id hA; subst es; have HBw6 := Aside0.mk ((HBw5.out).trans (hB.mono (HBw5.out).size)); have HXb6 := Aside0.mk ((hB.block gb (blk_lt HXb5.out)).trans HXb5.out); have HX46 := Aside0.mk ((hB.block g4 (blk_lt HX45.out)).trans HX45.out); have HA9 := Aside0.mk hA; have HN9 := Aside0.mk hN; have HS9 := Aside0.mk hB; clear hA hN hR hB; have t3_6 := blk_cell HXb6.out 3; simp only [List.getElem?_toArray, List.getElem?_cons_zero, List.getElem?_cons_succ] at t3_6; have t8_6 := blk_cell HXb6.out 8; simp only [List.getElem?_toArray, List.getElem?_cons_zero, List.getElem?_cons_succ] at t8_6; have t9_6 := blk_cell HXb6.out 9; simp only [List.getElem?_toArray, List.getElem?_cons_zero, List.getElem?_cons_succ] at t9_6; have t10_6 := blk_cell HXb6.out 10; simp only [List.getElem?_toArray, List.getElem?_cons_zero, List.getElem?_cons_succ] at t10_6) | (go_at_call 38; (with_reducible refine ((HC.out _ HBw6.out).2.2.2).mono ?_); rintro e w7 ⟨s, rfl, hB, hA, hR, hN⟩; obtain ⟨a10, k10, es, _⟩ := id hA; subst es; have HBw7 := Aside0.mk ((HBw6.out).trans (hB.mono (HBw6.out).size)); have HXb7 := Aside0.mk ((hB.block gb (blk_lt HXb6.out)).trans HXb6.out); have HX47 := Aside0.mk ((hB.block g4 (blk_lt HX46.out)).trans HX46.out); have HA10 := Aside0.mk hA; have HN10 := Aside0.mk hN; have HS10 := Aside0.mk hB; clear hA hN hR hB; have t3_7 := blk_cell HXb7.out 3; simp only [List.getElem?_toArray, List.getElem?_cons_zero, List.getElem?_cons_succ] at t3_7; have t8_7 := blk_cell HXb7.out 8; simp only [List.getElem?_toArray, List.getElem?_cons_zero, List.getElem?_cons_succ] at t8_7; have t9_7 := blk_cell HXb7.out 9; simp only [List.getElem?_toArray, List.getElem?_cons_zero, List.getElem?_cons_succ] at t9_7; have t10_7 := blk_cell HXb7.out 10; simp only [List.getElem?_toArray, List.getElem?_cons_zero, List.getElem?_cons_succ] at t10_7; have p3 := blk_cell HX47.out 3; simp only [List.getElem?_toArray, List.getElem?_cons_zero, List.getElem?_cons_succ] at p3; have f3 := blk_frozen HX47.out 3; have p8 := blk_cell HX47.out 8; simp only [List.getElem?_toArray, List.getElem?_cons_zero, List.getElem?_cons_succ] at p8; have f8 := blk_frozen HX47.out 8; have p9 := blk_cell HX47.out 9; simp only [List.getElem?_toArray, List.getElem?_cons_zero, List.getElem?_cons_succ] at p9; have f9 := blk_frozen HX47.out 9; have p10 := blk_cell HX47.out 10; simp only [List.getElem?_toArray, List.getElem?_cons_zero, List.getElem?_cons_succ] at p10; have f10 := blk_frozen HX47.out 10)))
  have hg4 := blk_lt HX3.out
  have z4 := HS3.out.size
  have z5 := HS8.out.size
  have z6 := HS9.out.size
  have z7 := HS10.out.size
  have zb := HBw.out.size
  have HX8 := Aside0.mk (show ((((w7.setCell ⟨g4, 3, none⟩ (.slice a3 (m.L 3).length k3)).setCell ⟨g4, 8, none⟩ (.slice a8 (m.L 8).length k8)).setCell ⟨g4, 9, none⟩ (.slice a9 (m.L 9).length k9)).setCell ⟨g4, 10, none⟩ (.slice a10 (m.L 10).length k10)).heap[g4]? = some (.cells (msgC m.c (fourS (.slice a3 (m.L 3).length k3) (.slice a8 (m.L 8).length k8) (.slice a9 (m.L 9).length k9) (.slice a10 (m.L 10).length k10))) 35 (0, 0)) from by rw [blk_set (blk_set (blk_set (blk_set HX47.out 3 _) 8 _) 9 _) 10 _]; simp only [msgC, E0.out, E1.out, E2.out, E4.out, E5.out, E6.out, E7.out, E11.out, E12.out, E13.out, E14.out, E15.out, E16.out, E17.out, E18.out, E19.out, E20.out, E21.out, E22.out, E23.out, E24.out, E25.out]; rfl)
  have HB8 := Aside0.mk (show Below w.heap.size w ((((w7.setCell ⟨g4, 3, none⟩ (.slice a3 (m.L 3).length k3)).setCell ⟨g4, 8, none⟩ (.slice a8 (m.L 8).length k8)).setCell ⟨g4, 9, none⟩ (.slice a9 (m.L 9).length k9)).setCell ⟨g4, 10, none⟩ (.slice a10 (m.L 10).length k10)) from (((HBw7.out.setCell (by have := HGE.out; simp only; omega) _).setCell (by have := HGE.out; simp only; omega) _).setCell (by have := HGE.out; simp only; omega) _).setCell (by have := HGE.out; simp only; omega) _)
  have hsz8 : ((((w7.setCell ⟨g4, 3, none⟩ (.slice a3 (m.L 3).length k3)).setCell ⟨g4, 8, none⟩ (.slice a8 (m.L 8).length k8)).setCell ⟨g4, 9, none⟩ (.slice a9 (m.L 9).length k9)).setCell ⟨g4, 10, none⟩ (.slice a10 (m.L 10).length k10)).heap.size = w7.heap.size := by simp only [World.size_setCell]
  have hmv8 : ∀ k, k ≠ g4 → ((((w7.setCell ⟨g4, 3, none⟩ (.slice a3 (m.L 3).length k3)).setCell ⟨g4, 8, none⟩ (.slice a8 (m.L 8).length k8)).setCell ⟨g4, 9, none⟩ (.slice a9 (m.L 9).length k9)).setCell ⟨g4, 10, none⟩ (.slice a10 (m.L 10).length k10)).heap[k]? = w7.heap[k]? := fun k hk => (Below.heap_setCell _ _ _ _ hk).trans ((Below.heap_setCell _ _ _ _ hk).trans ((Below.heap_setCell _ _ _ _ hk).trans (Below.heap_setCell _ _ _ _ hk)))
  have r3 : ∀ k, arr (.slice a3 (m.L 3).length k3) = some k → m.L 3 ≠ [] → w3.heap.size ≤ k ∧ k < w4.heap.size := fun k hk h0 => ⟨HN3.out k hk, HA3.out.lt hk h0⟩
  have r8 : ∀ k, arr (.slice a8 (m.L 8).length k8) = some k → m.L 8 ≠ [] → w4.heap.size ≤ k ∧ k < w5.heap.size := fun k hk h0 => ⟨HN8.out k hk, HA8.out.lt hk h0⟩
  have r9 : ∀ k, arr (.slice a9 (m.L 9).length k9) = some k → m.L 9 ≠ [] → w5.heap.size ≤ k ∧ k < w6.heap.size := fun k hk h0 => ⟨HN9.out k hk, HA9.out.lt hk h0⟩
  have r10 : ∀ k, arr (.slice a10 (m.L 10).length k10) = some k → m.L 10 ≠ [] → w6.heap.size ≤ k ∧ k < w7.heap.size := fun k hk h0 => ⟨HN10.out k hk, HA10.out.lt hk h0⟩
  have l3 := (((HA3.out.below HS8.out).below HS9.out).below HS10.out).move (fun k hk h0 => hmv8 k (by have h := (r3 k hk h0).1; have h' : g4 < w3.heap.size := hg4; omega))
  have l8 := ((HA8.out.below HS9.out).below HS10.out).move (fun k hk h0 => hmv8 k (by have h := (r8 k hk h0).1; have h' : g4 < w3.heap.size := hg4; have h'' : w3.heap.size ≤ w4.heap.size := z4; omega))
  have l9 := (HA9.out.below HS10.out).move (fun k hk h0 => hmv8 k (by have h := (r9 k hk h0).1; have h' : g4 < w3.heap.size := hg4; have h'' : w3.heap.size ≤ w4.heap.size := z4; omega))
  have l10 := HA10.out.move (fun k hk h0 => hmv8 k (by have h := (r10 k hk h0).1; have h' : g4 < w3.heap.size := hg4; have h'' : w3.heap.size ≤ w4.heap.size := z4; omega))
  obtain ⟨ht, hf, hs⟩ := HH.out
  have hz4 : w3.heap.size ≤ w4.heap.size := z4
  have HM := Aside0.mk (pay_made HX8.out ht hf hs.few l3 l8 l9 l10 r3 r8 r9 r10 hg4 hz4 z5 z6 z7 (by rw [hsz8]; exact Nat.le_refl _))
  have HZ := Aside0.mk (And.intro hg4 (show w.heap.size ≤ w3.heap.size from zb))
  clear hg4 z4 z5 z6 z7 zb hsz8 hmv8 r3 r8 r9 r10 l3 l8 l9 l10 hz4 ht hf hs HA3 HA8 HA9 HA10 HN3 HN8 HN9 HN10 HS3 HS8 HS9 HS10 HXb HXb4 HXb5 HXb6 HXb7 HX44 HX45 HX46 HX47 HX3 HX8 HBw HBw4 HBw5 HBw6 HBw7 HC t3_4 t3_5 t3_6 t3_7 t8_4 t8_5 t8_6 t8_7 t9_4 t9_5 t9_6 t9_7 t10_4 t10_5 t10_6 t10_7 t3 p3 f3 t8 p8 f8 t9 p9 f9 t10 p10 f10 E0 E1 E2 E4 E5 E6 E7 E11 E12 E13 E14 E15 E16 E17 E18 E19 E20 E21 E22 E23 E24 E25
  generalize ((((w7.setCell ⟨g4, 3, none⟩ (.slice a3 (m.L 3).length k3)).setCell ⟨g4, 8, none⟩ (.slice a8 (m.L 8).length k8)).setCell ⟨g4, 9, none⟩ (.slice a9 (m.L 9).length k9)).setCell ⟨g4, 10, none⟩ (.slice a10 (m.L 10).length k10)) = w8 at *
  obtain ⟨n, C, hC1⟩ := pay_kind HM.out HH.out.2.2
  have C1 := Aside0.mk hC1
  clear hC1
  obtain ⟨xs, bad, o, hps⟩ : ∃ xs bad o, payS m = (xs, bad, o) := ⟨_, _, _, rfl⟩
  have HPS := Aside0.mk hps
  have HP := Aside0.mk (show payOk m = (!bad && !o) from by unfold payOk; rw [hps, HK.out, decide_eq_true (by omega), decide_eq_true (by omega)]; rfl)
  clear hps
  cases bad
  · go_wp2_with (first | (go_at_call 39; (with_reducible refine C1.out.mono ?_); rintro e w10 ⟨rfl, H⟩; have C2 := Aside0.mk (pay_head H); clear H) | (go_at_call 40; (with_reducible refine C2.out.mono ?_); rintro e w11 ⟨rfl, H⟩; have C3 := Aside0.mk (pay_fields H); clear H) | (go_at_call 41; (with_reducible refine C3.out.mono ?_); rintro e w12 ⟨rfl, H⟩; obtain ⟨hB12, v12, hW12, hL12⟩ := pay_end HB8.out H HZ.out.1 HGE.out; rw [HPS.out] at hW12 hL12; have C4 := Aside0.mk (wBytes_c _ _ _ _ _ _ hW12 (by simp only at hL12 ⊢; omega)); have HC2 := Aside0.mk (WrAt.cell2 hW12); have HB12 := Aside0.mk hB12; have HL12 := Aside0.mk hL12; clear H hB12 hW12 hL12) | (go_at_call 42; (with_reducible refine C4.out.mono ?_); rintro e w13 ⟨q, c, rfl, hO, h3, h4, h5, hB13⟩; have c2 := hB13.cell (p := ⟨w8.heap.size, 2, none⟩) (World.block_lt_of_cell? w12 _ HC2.out); rw [HC2.out] at c2; have HO := Aside0.mk hO; have HB13 := Aside0.mk hB13; have H3 := Aside0.mk h3; have H4 := Aside0.mk h4; have H5 := Aside0.mk h5; clear hO hB13 h3 h4 h5) | fail)
    go_quiet (fail)
    go_wp2
    go_ret2
    refine ⟨pw_below_drewN (HB12.out.trans (HB13.out.mono HB12.out.size)) _, _, _, rfl, ?_, fun _ => ?_⟩
    · rw [HP.out]; rfl
    · have e : payB m = xs := by unfold payB; rw [HPS.out]
      rw [e]
      exact ⟨q, c, rfl, own_base_le HO.out HB12.out.size, H3.out, H4.out, Nat.le_trans HB12.out.size H5.out, HL12.out⟩
  · go_wp2_with (first | (go_at_call 39; (with_reducible refine C1.out.mono ?_); rintro e w10 ⟨rfl, H⟩; have C2 := Aside0.mk (pay_head H); clear H) | (go_at_call 40; (with_reducible refine C2.out.mono ?_); rintro e w11 ⟨rfl, H⟩; have C3 := Aside0.mk (pay_fields H); clear H) | (go_at_call 41; (with_reducible refine C3.out.mono ?_); rintro e w12 ⟨rfl, H⟩; obtain ⟨hB12, v12, hW12, hL12⟩ := pay_end HB8.out H HZ.out.1 HGE.out; rw [HPS.out] at hW12 hL12; have C4 := Aside0.mk (wBytes_bad _ _ _ _ _ _ hW12); have HB12 := Aside0.mk hB12; clear H hB12 hW12 hL12) | (go_at_call 42; (with_reducible refine C4.out.mono ?_); rintro e w13 ⟨rfl, hw⟩; subst hw) | fail)
    go_quiet (fail)
    go_wp2
    go_ret2
    refine ⟨pw_below_drewN HB12.out _, _, _, rfl, ?_, fun h => ?_⟩
    · rw [HP.out]; rfl
    · cases h
end Go.Proofs.Ytcbehfbfaonanaa.Wr
end
