/- Part 9 of the texts that walk the program and tell its laws, joined in the order of their building. No conditions. -/
import Derived.Test.YtcbehfbfaonanaaJk3
import Derived.Test.YtcbehfbfaonanaaJk4
import Derived.Test.YtcbehfbfaonanaaJk5
import Derived.Test.YtcbehfbfaonanaaJk7
import Derived.Test.YtcbehfbfaonanaaJk2
import Derived.Test.YtcbehfbfaonanaaRows
import Derived.OpenShut
import Derived.SizedLaws
import Derived.ChangeArms
import Derived.ChangeSlices
import Derived.ChangeSame
import Derived.ChangeAt
import Derived.Deep.Slices
import Derived.DataReads
import Derived.Deep.RegionHeld3
import Derived.ArgAppend
import Derived.Deep.WholeRow
set_option maxRecDepth 100000
set_option maxHeartbeats 16000000
section
namespace Go.Proofs.Ytcbehfbfaonanaa.Wr
open Go.RowKit Go.Proofs.YtcbehfbfaonanaaW.PrintWords Go.Proofs.YtcbehfbfaonanaaW.PrintLast Go.Proofs.YtcbehfbfaonanaaW.PrintMore Go.Proofs.Ytcbehfbfaonanaa.Pk
open Go.Proofs.Ytcbehfbfaonanaa.PFr (sealL openL ansE Ok frame_Seal.calls frame_Open.calls seal_f open_f)
set_option linter.unusedVariables false
set_option linter.unusedSimpArgs false
def BRd (w : World) (v : Value) (l : List Int) : Prop := ∃ A c, v = .slice A l.length c ∧ (Kd.int .u8).C w A l.length l ∧ l.length ≤ c
theorem BRd.below {w w' : World} {v : Value} {l : List Int} (h : BRd w v l) (hB : Below w.heap.size w w') : BRd w' v l := by
 obtain ⟨A, c, rfl, h1, h2⟩ := h
 exact ⟨A, c, rfl, Kd.C_below h1 hB, h2⟩
theorem c_of_reads {w : World} {A : Option Addr} {n : Nat} {l : List Int} (h : ReadsInt w .u8 A n l) : (Kd.int .u8).C w A n l := Kd.C_of_reads (enc := Value.int .u8) (d := (0 : Int)) (h1 := fun _ => rfl) h
theorem reads_of_c {w : World} {A : Option Addr} {n : Nat} {l : List Int} (h : (Kd.int .u8).C w A n l) : ReadsInt w .u8 A n l := Kd.reads_of_C (enc := Value.int .u8) (d := (0 : Int)) (h1 := fun _ => rfl) h
theorem brd_own {w : World} {base e : Nat} {v : Value} {l : List Int} {q c : Nat} (e1 : v = .slice (some ⟨q, 0, none⟩) l.length c) (h : w.ownsRow base e 1 v l.length (nums .u8 l)) (hc : l.length ≤ c) : BRd w v l := by
 subst e1
 exact ⟨_, c, rfl, c_of_reads (own_reads' h), hc⟩
def IsBE (l : List Int) (er : Int) (w : World) (e : Ending) (w' : World) : Prop := Below w.heap.size w w' ∧ ∃ v, e = .returned (.tuple #[v, .int .i64 er]) ∧ BRd w' v l
theorem seal_c (w : World) (v : Value) (p : List Int) (h : BRd w v p) (hb : ∀ x ∈ p, Pk.IsB x) (hl : p.length ≤ 140737488351232) :
  Calls Try.prog 20 #[v] w (IsBE (if Ok p then (sealL p, (0 : Int)) else ([], 1)).1 (if Ok p then (sealL p, (0 : Int)) else ([], 1)).2 w) := by
 obtain ⟨A, c, rfl, h1, h2⟩ := h
 obtain ⟨k, hk⟩ := (seal_f hb hl).rounds
 refine (frame_Seal.calls k _ A c p _ _ w (Kd.V_mk h2 (Kd.C_F (by exact Kd.heap_int _) h1)) hk).mono ?_
 rintro e w' ⟨v', rfl, hR, hB⟩
 obtain ⟨A', c', rfl⟩ := Kd.R_slice hR
 exact ⟨hB, _, rfl, A', c', rfl, (Kd.R_reads' hR).2.2, (Kd.R_reads' hR).2.1⟩
theorem open_c (w : World) (v : Value) (l : List Int) (h : BRd w v l) (hb : ∀ x ∈ l, Pk.IsB x) (hl : l.length ≤ 140737488351232) :
  Calls Try.prog 34 #[v] w (IsBE (ansE (openL l)).1 (ansE (openL l)).2 w) := by
 obtain ⟨A, c, rfl, h1, h2⟩ := h
 obtain ⟨k, hk⟩ := (open_f hb hl).rounds
 refine (frame_Open.calls k A c l _ _ w h1 h2 hk).mono ?_
 rintro e w' ⟨v', rfl, hR, hB⟩
 obtain ⟨A', c', rfl⟩ := Kd.V_slice hR
 exact ⟨hB, _, rfl, A', c', rfl, (Kd.V_reads' hR).2.2, (Kd.V_reads' hR).2.1⟩
theorem enc_isB : ∀ (n : Nat), ∀ x ∈ enc n, Pk.IsB x := by
 intro n
 induction n using Nat.strongRecOn with
 | _ n ih =>
  intro x hx
  by_cases h : n < 128
  ·rw [enc_lt h] at hx
   simp only [List.mem_singleton] at hx
   subst hx
   unfold Pk.IsB; omega
  ·rw [enc_ge h] at hx
   rcases List.mem_cons.1 hx with rfl | hx
   ·unfold Pk.IsB; omega
   ·exact ih (n / 128) (by omega) x hx
theorem wnum_isB {n : Int} {xs : List Int} {bad : Bool} (h : ∀ x ∈ xs, Pk.IsB x) : ∀ x ∈ (wnum n xs bad).1, Pk.IsB x := by
 unfold wnum
 split
 ·exact h
 ·split
  ·exact h
  ·intro x hx
   rcases List.mem_append.1 hx with hx | hx
   ·exact h x hx
   ·exact enc_isB _ x hx
theorem bytesOf_isB (s : ByteArray) : ∀ x ∈ bytesOf s, Pk.IsB x := by
 intro x hx
 simp only [bytesOf, List.mem_map] at hx
 obtain ⟨u, _, rfl⟩ := hx
 have := u.toNat_lt
 unfold Pk.IsB
 omega
theorem wtext_isB {s : ByteArray} {xs : List Int} {bad : Bool} (h : ∀ x ∈ xs, Pk.IsB x) : ∀ x ∈ (wtext s xs bad).1, Pk.IsB x := by
 unfold wtext
 split
 ·exact wnum_isB h
 ·intro x hx
  rcases List.mem_append.1 hx with hx | hx
  ·exact wnum_isB h x hx
  ·exact bytesOf_isB s x hx
theorem oTameB (g N : Nat) : (oForm g).Tame (fun s => ∀ x ∈ s.1, Pk.IsB x) N := ⟨fun h => wnum_isB h, fun h => wnum_isB h, fun h k => ⟨wtext_isB h, k⟩, fun h => wnum_isB h⟩
theorem payB_isB {m : M} (hs : Small m) : ∀ x ∈ payB m, Pk.IsB x := by
 have hT := oTameB 0 1048576
 have h1 := hT.rowM (i := 0) (fs := [.num 1 10]) (s := ([], false, false)) (m := m) (fun x hx => nomatch hx) hs.lite
 exact (runLite hT (ts := script (kindM ((oForm 0).rowM ([], false, false) m 0 [.num 1 10]).2)) h1.1 h1.2).1
def RightM (m : M) : Prop := payOk m = true ∧ rdOk (payB m) = true ∧ MEq m (rdM (payB m))
theorem list_len {F : Form} (hF : F.Good) {fs : List Fld} {s : F.σ} {most : Nat} {rows : List (List Value)} (hm : most ≤ 64) (h : rows.length ≤ 64) : (F.list fs s most rows).2.length ≤ 64 := by
 have e : (F.list fs s most rows).2.length = (F.listR fs s most rows).length := by
  unfold Form.list
  rw [List.length_append, rows_length, List.length_take, List.length_drop]
  have : F.listM s most rows.length ≤ (F.listR fs s most rows).length := by
   unfold Form.listM Form.listR
   split
   ·simp; omega
   ·omega
  omega
 rw [e]
 unfold Form.listR
 split
 ·obtain ⟨l0, l1⟩ := hF.count_lim s (rows.length : Int) (most : Int) (by omega) (by omega)
  simp only [List.length_replicate]
  omega
 ·exact h
theorem run_len {F : Form} (hF : F.Good) : ∀ {ts : List Step} {s : F.σ} {m : M}, ts.all Step.few = true → (∀ j, (m.L j).length ≤ 64) → ∀ j, ((F.run s m ts).2.L j).length ≤ 64
 | [], s, m, _, h => h
 | t :: ts, s, m, ht, h => by
  simp only [List.all_cons, Bool.and_eq_true] at ht
  refine run_len hF (ts := ts) ht.2 (fun j => ?_)
  cases t with
  | row i fs => exact h j
  | most => exact h j
  | lst i fs n =>
   have hn := ht.1
   simp only [Step.few, Bool.and_eq_true, decide_eq_true_eq] at hn
   simp only [Form.step, Form.lstM, upL]
   split
   ·exact list_len hF hn.2 (h i)
   ·exact h j
theorem rdM_len (xs : List Int) : ∀ j, ((rdM xs).L j).length ≤ 64 := run_len (iGood 0 0 0) (script_few _) (fun _ => Nat.zero_le _)
theorem msg_new {w3 w4 w5 : World} {v : Value} {m : M} {sv : Nat → Value} {g : Nat} (h : MsgRd w3 v m sv) (hB : Below w3.heap.size w3 w4) (hO : Only (· = g) w4 w5) (hg : w3.heap.size ≤ g) : MsgRd w5 v m sv :=
 h.below (below_only hB hO hB.size (fun k hk => by have hk' : k = g := hk; omega))
theorem MsgRd.agg {w : World} {v : Value} {m : M} {sv : Nat → Value} (h : MsgRd w v m sv) : v = .agg (msgC m.c sv) := h.eq
theorem right_c (w : World) (v : Value) (m : M) (sv : Nat → Value) (h : MsgRd w v m sv) (hs : Small m) :
  Calls Try.prog 13 #[v] w (IsEqB (RightM m) w) := by
 obtain rfl := h.agg
 have HM := aK h
 have HS := aK hs
 have HCP := aK (fun (W : World) (hB : Below w.heap.size w W) => payload_c W _ m sv (h.below hB) hs)
 clear h hs
 cases hp : payOk m
 ·have HP := aK hp
  clear hp
  go_enter Try.func13, Try.ntmps13
  go_wp2_with (first | ((with_reducible refine gate_dst (N := 1) rfl ?_); refine box_row rfl 35 (.tmp 0) rfl (msgC m.c sv) rfl ?_; intro g1 w1 hg hbox hb; have HX1 := aK hbox; have HB1 := aK hb; have HCp := aK (HCP.out _ HB1.out); clear hg hbox hb) | ((with_reducible refine gate_dst (N := 7) rfl ?_); refine load_row rfl 35 (.tmp 1) rfl g1 rfl (msgC m.c sv) 35 HX1.out _ Try.underlying35 rfl info_msg ?_) | (go_at_call 19; (with_reducible refine HCp.out.mono ?_); rintro e w2 ⟨hB, sv', ok, rfl, hok, hv⟩; rw [HP.out] at hok; subst hok; have HB2 := aK (HB1.out.trans (hB.mono HB1.out.size)); have HX2 := aK ((hB.block g1 (blk_lt HX1.out)).trans HX1.out); clear hv hB) | fail)
  go_ret
  exact ⟨false, rfl, ⟨(fun h => by cases h), fun h => absurd (HP.out.symm.trans h.1) (by simp)⟩, HB2.out⟩
 ·have HP := aK hp
  clear hp
  cases hq : rdOk (payB m)
  ·have HQ := aK hq
   clear hq
   go_enter Try.func13, Try.ntmps13
   go_wp2_with (first | ((with_reducible refine gate_dst (N := 1) rfl ?_); refine box_row rfl 35 (.tmp 0) rfl (msgC m.c sv) rfl ?_; intro g1 w1 hg hbox hb; have HX1 := aK hbox; have HB1 := aK hb; have HCp := aK (HCP.out _ HB1.out); clear hg hbox hb) | ((with_reducible refine gate_dst (N := 7) rfl ?_); refine load_row rfl 35 (.tmp 1) rfl g1 rfl (msgC m.c sv) 35 HX1.out _ Try.underlying35 rfl info_msg ?_) | (go_at_call 19; (with_reducible refine HCp.out.mono ?_); rintro e w2 ⟨hB, sv', ok, rfl, hok, hv⟩; rw [HP.out] at hok; subst hok; have HB2 := aK (HB1.out.trans (hB.mono HB1.out.size)); have HX2 := aK ((hB.block g1 (blk_lt HX1.out)).trans HX1.out); obtain ⟨q, cq, es, hO, h3, h4, h5, h6⟩ := hv rfl; subst es; have HCr := aK (read_m _ _ cq _ w2 (own_reads' hO) h6 (payB_isB HS.out)); clear hO h3 h4 h5 h6 hv hB) | (go_at_call 25; (with_reducible refine HCr.out.mono ?_); rintro e w3 ⟨hB, v2, ok2, rfl, hok, svr, hM, hF⟩; obtain rfl := hM.agg; rw [HQ.out] at hok; subst hok; have HB3 := aK (HB2.out.trans (hB.mono HB2.out.size)); have HX3 := aK ((hB.block g1 (blk_lt HX2.out)).trans HX2.out); have HM2 := aK hM; clear hF hM hB) | ((with_reducible refine gate_dst (N := 5) rfl ?_); refine alloc_row rfl 35 rfl _ (zero_msg _) ?_; intro g5 w4 hg hbox hb; have HX5a := aK hbox; have HB4a := aK hb; have HB4 := aK (HB3.out.trans (hb.mono HB3.out.size)); have HX4 := aK ((hb.block g1 (blk_lt HX3.out)).trans HX3.out); have HM3 := aK (HM2.out.below hb); have HG5 := aK (show w3.heap.size ≤ g5 from by rw [hg]; exact Nat.le_refl _); clear hg hbox hb) | ((with_reducible refine gate_store (t := 35) (p := 5) rfl ?_); refine store_row rfl 35 (.tmp 5) (.tmp 16) rfl g5 rfl (msgC (rdM (payB m)).c svr) _ rfl 35 HX5a.out rfl info_msg HM3.out.one ?_; intro w5 hX hO; have HX5 := aK hX; have HO5 := aK hO; have HB5 := aK (below_only HB4.out hO HB4.out.size (fun k hk => by have := HB3.out.size; have := HG5.out; have hk' : k = g5 := hk; omega)); have HX5g := aK ((hO.block g1 (blk_lt HX4.out) (fun e => by have := blk_lt HX3.out; have := HG5.out; have e' : g1 = g5 := e; omega)).trans HX4.out); have HM5 := aK (msg_new HM2.out HB4a.out hO HG5.out); clear hX hO) | fail)
   go_ret
   exact ⟨false, rfl, ⟨(fun h => by cases h), fun h => absurd (HQ.out.symm.trans h.2.1) (by simp)⟩, HB5.out⟩
  ·have HQ := aK hq
   clear hq
   go_enter Try.func13, Try.ntmps13
   go_wp2_with (first | ((with_reducible refine gate_dst (N := 1) rfl ?_); refine box_row rfl 35 (.tmp 0) rfl (msgC m.c sv) rfl ?_; intro g1 w1 hg hbox hb; have HX1 := aK hbox; have HB1 := aK hb; have HCp := aK (HCP.out _ HB1.out); clear hg hbox hb) | ((with_reducible refine gate_dst (N := 7) rfl ?_); refine load_row rfl 35 (.tmp 1) rfl g1 rfl (msgC m.c sv) 35 HX1.out _ Try.underlying35 rfl info_msg ?_) | (go_at_call 19; (with_reducible refine HCp.out.mono ?_); rintro e w2 ⟨hB, sv', ok, rfl, hok, hv⟩; rw [HP.out] at hok; subst hok; have HB2 := aK (HB1.out.trans (hB.mono HB1.out.size)); have HX2 := aK ((hB.block g1 (blk_lt HX1.out)).trans HX1.out); obtain ⟨q, cq, es, hO, h3, h4, h5, h6⟩ := hv rfl; subst es; have HCr := aK (read_m _ _ cq _ w2 (own_reads' hO) h6 (payB_isB HS.out)); clear hO h3 h4 h5 h6 hv hB) | (go_at_call 25; (with_reducible refine HCr.out.mono ?_); rintro e w3 ⟨hB, v2, ok2, rfl, hok, svr, hM, hF⟩; obtain rfl := hM.agg; rw [HQ.out] at hok; subst hok; have HB3 := aK (HB2.out.trans (hB.mono HB2.out.size)); have HX3 := aK ((hB.block g1 (blk_lt HX2.out)).trans HX2.out); have HM2 := aK hM; clear hF hM hB) | ((with_reducible refine gate_dst (N := 5) rfl ?_); refine alloc_row rfl 35 rfl _ (zero_msg _) ?_; intro g5 w4 hg hbox hb; have HX5a := aK hbox; have HB4a := aK hb; have HB4 := aK (HB3.out.trans (hb.mono HB3.out.size)); have HX4 := aK ((hb.block g1 (blk_lt HX3.out)).trans HX3.out); have HM3 := aK (HM2.out.below hb); have HG5 := aK (show w3.heap.size ≤ g5 from by rw [hg]; exact Nat.le_refl _); clear hg hbox hb) | ((with_reducible refine gate_store (t := 35) (p := 5) rfl ?_); refine store_row rfl 35 (.tmp 5) (.tmp 16) rfl g5 rfl (msgC (rdM (payB m)).c svr) _ rfl 35 HX5a.out rfl info_msg HM3.out.one ?_; intro w5 hX hO; have HX5 := aK hX; have HO5 := aK hO; have HB5 := aK (below_only HB4.out hO HB4.out.size (fun k hk => by have := HB3.out.size; have := HG5.out; have hk' : k = g5 := hk; omega)); have HX5g := aK ((hO.block g1 (blk_lt HX4.out) (fun e => by have := blk_lt HX3.out; have := HG5.out; have e' : g1 = g5 := e; omega)).trans HX4.out); have HM5 := aK (msg_new HM2.out HB4a.out hO HG5.out); clear hX hO) | ((with_reducible refine gate_dst (N := 20) rfl ?_); (try (refine gate_guard (by rfl) ?_; dsimp only)); refine load_row rfl 35 (.tmp 1) rfl g1 rfl (msgC m.c sv) 35 HX5g.out _ Try.underlying35 rfl info_msg ?_) | ((with_reducible refine gate_dst (N := 21) rfl ?_); (try (refine gate_guard (by rfl) ?_; dsimp only)); refine load_row rfl 35 (.tmp 5) rfl g5 rfl (msgC (rdM (payB m)).c svr) 35 HX5.out _ Try.underlying35 rfl info_msg ?_) | (go_at_call 17; (with_reducible refine (wireSame_c w5 _ _ m (rdM (payB m)) sv svr (HM.out.below HB5.out) HM5.out HS.out.few (fun j => Nat.le_trans (rdM_len _ j) (by omega))).mono ?_); rintro e w6 ⟨r, rfl, hr, hB⟩; have HR := aK hr; have HB6 := aK (HB5.out.trans (hB.mono HB5.out.size)); clear hr hB) | fail)
   go_ret
   exact ⟨r, rfl, ⟨fun h => ⟨HP.out, HQ.out, HR.out.1 h⟩, fun h => HR.out.2 h.2.2⟩, HB6.out⟩
theorem isB_true {p : Prop} (hp : p) {k : FuncId} {args : Array Value} {w : World} (h : Calls Try.prog k args w (IsEqB p w)) : Calls Try.prog k args w (fun e w' => e = .returned (.bool true) ∧ Below w.heap.size w w') := h.mono (by
 rintro e w' ⟨r, rfl, hr, hd⟩
 exact ⟨by rw [hr.2 hp], hd⟩)
theorem isB_false {p : Prop} (hp : ¬ p) {k : FuncId} {args : Array Value} {w : World} (h : Calls Try.prog k args w (IsEqB p w)) : Calls Try.prog k args w (fun e w' => e = .returned (.bool false) ∧ Below w.heap.size w w') := h.mono (by
 rintro e w' ⟨r, rfl, hr, hd⟩
 cases r
 ·exact ⟨rfl, hd⟩
 ·exact absurd (hr.1 rfl) hp)
def sealA (l : List Int) : List Int × Int := if Ok l then (sealL l, 0) else ([], 1)
theorem sealA_c {p bs : List Int} {er : Int} (he : sealA p = (bs, er)) (w : World) (v : Value) (h : BRd w v p) (hb : ∀ x ∈ p, Pk.IsB x) (hl : p.length ≤ 140737488351232) : Calls Try.prog 20 #[v] w (IsBE bs er w) := by
 have h := seal_c w v p h hb hl
 rw [show (if Ok p then (sealL p, (0 : Int)) else ([], 1)) = (bs, er) from he] at h
 exact h
theorem encode_yes (w : World) (v : Value) (m : M) (sv : Nat → Value) (h : MsgRd w v m sv) (hs : Small m) (hr : RightM m) :
  Calls Try.prog 11 #[v] w (IsBE (sealA (payB m)).1 (sealA (payB m)).2 w) := by
 obtain rfl := h.agg
 have HR := aK (fun (W : World) (hB : Below w.heap.size w W) => isB_true hr (right_c W _ m sv (h.below hB) hs))
 have HCP := aK (fun (W : World) (hB : Below w.heap.size w W) => payload_c W _ m sv (h.below hB) hs)
 have HI := aK (payB_isB hs)
 have HP := aK hr.1
 obtain ⟨bs, er, hse⟩ : ∃ bs er, sealA (payB m) = (bs, er) := ⟨_, _, rfl⟩
 rw [hse]
 have HSE := aK hse
 clear hse
 clear h hs hr
 go_enter Try.func11, Try.ntmps11
 go_wp2_with (first | ((with_reducible refine gate_dst (N := 1) rfl ?_); refine box_row rfl 35 (.tmp 0) rfl (msgC m.c sv) rfl ?_; intro g1 w1 hg hbox hb; have HX1 := aK hbox; have HB1 := aK hb; clear hg hbox hb) | ((with_reducible refine gate_dst (N := 6) rfl ?_); refine load_row rfl 35 (.tmp 1) rfl g1 rfl (msgC m.c sv) 35 HX1.out _ Try.underlying35 rfl info_msg ?_) | (go_at_call 13; (with_reducible refine (HR.out _ HB1.out).mono ?_); rintro e w2 ⟨rfl, hB⟩; have HB2 := aK (HB1.out.trans (hB.mono HB1.out.size)); have HX2 := aK ((hB.block g1 (blk_lt HX1.out)).trans HX1.out); clear hB) | ((with_reducible refine gate_dst (N := 10) rfl ?_); refine load_row rfl 35 (.tmp 1) rfl g1 rfl (msgC m.c sv) 35 HX2.out _ Try.underlying35 rfl info_msg ?_) | (go_at_call 19; (with_reducible refine (HCP.out _ HB2.out).mono ?_); rintro e w3 ⟨hB, sv', ok, rfl, hok, hv⟩; rw [HP.out] at hok; subst hok; obtain ⟨q, cq, es, hO, h3, h4, h5, h6⟩ := hv rfl; have HB3 := aK (HB2.out.trans (hB.mono HB2.out.size)); have HCs := aK (sealA_c HSE.out w3 _ (brd_own es hO h3) HI.out (by omega)); subst es; clear hO h3 h4 h5 h6 hv hB) | (go_at_call 20; (with_reducible refine HCs.out.mono ?_); rintro e w4 ⟨hB, vv, rfl, hv⟩; have HB4 := aK (HB3.out.trans (hB.mono HB3.out.size)); have HV := aK hv; clear hB hv) | fail)
 go_ret2
 exact ⟨HB4.out, _, rfl, HV.out⟩
def decM (l : List Int) : M × Int := match openL l with | some p => if rdOk p = true then (rdM p, 0) else (zeroM, 2) | none => (zeroM, 2)
def IsDec (l : List Int) (w : World) (e : Ending) (w' : World) : Prop := Below w.heap.size w w' ∧ ∃ v, e = .returned (.tuple #[v, .int .i64 (decM l).2]) ∧ IsMsg w.heap.size (decM l).1 w' v
theorem zero_rd (w : World) : MsgRd w (.agg (msgC zeroC nils)) zeroM nils := ⟨rfl, zero_typed, zero_fit, fun j fs hj => ⟨none, 0, rfl, fun _ => rfl, fun h => absurd rfl h⟩⟩
theorem zero_is (B : Nat) (w : World) : IsMsg B zeroM w (.agg (msgC zeroC nils)) := ⟨nils, zero_rd w, fun j fs hj k hk h0 => absurd rfl h0⟩
theorem openL_isB {l p : List Int} (h : openL l = some p) (hb : ∀ x ∈ l, Pk.IsB x) : (∀ x ∈ p, Pk.IsB x) ∧ p.length ≤ l.length := by
 obtain ⟨_, _, e⟩ := PFr.openL_some h
 subst e
 exact ⟨fun x hx => hb x (List.mem_of_mem_drop hx), by rw [List.length_drop]; omega⟩
theorem decode_c (w : World) (v : Value) (l : List Int) (h : BRd w v l) (hb : ∀ x ∈ l, Pk.IsB x) (hl : l.length ≤ 9000000000) :
  Calls Try.prog 18 #[v] w (IsDec l w) := by
 have HO := aK (fun (W : World) (hB : Below w.heap.size w W) => open_c W v l (h.below hB) hb (by omega))
 cases ho : openL l with
 | none =>
  have HA := aK (show ansE (openL l) = ([], 2) from by rw [ho]; rfl)
  have HD := aK (show decM l = (zeroM, 2) from by unfold decM; rw [ho])
  clear h hb hl ho
  go_enter Try.func18, Try.ntmps18
  go_wp2_with (first | ((with_reducible refine gate_dst (N := 2) rfl ?_); refine alloc_row rfl 35 rfl _ (zero_msg _) ?_; intro g1 w1 hg hbox hb; have HX1 := aK hbox; have HB1 := aK hb; have HG1 := aK (show w.heap.size ≤ g1 from by rw [hg]; exact Nat.le_refl _); clear hg hbox hb) | (go_at_call 34; (with_reducible refine (HO.out _ HB1.out).mono ?_); rintro e w3 ⟨hB, vv, rfl, hv⟩; rw [HA.out]; have HB3 := aK (HB1.out.trans (hB.mono HB1.out.size)); have HX3 := aK ((hB.block g1 (blk_lt HX1.out)).trans HX1.out); obtain ⟨A', c', es, _, _⟩ := id hv; rw [HA.out] at es; subst es; clear hB hv) | ((with_reducible refine gate_store (t := 35) (p := 2) rfl ?_); refine store_row rfl 35 (.tmp 2) (.tmp 15) rfl g1 rfl (msgC zeroC nils) _ rfl 35 HX3.out rfl info_msg (zero_rd w).one ?_; intro w4 hX hO; have HX4 := aK hX; have HO4 := aK hO; have HB4 := aK (below_only HB3.out hO HB3.out.size (fun k hk => by have := HG1.out; have hk' : k = g1 := hk; omega)); clear hX hO) | fail)
  refine bodyPost_ret (results_ct (P := Try.prog) (fn := Try.f18) rfl _ _ g1 _ (msgC zeroC nils) (0, 0) _ rfl HX4.out Try.underlying35 rfl info_msg) rfl ?_
  refine ⟨HB4.out, _, by rw [HD.out]; rfl, ?_⟩
  rw [HD.out]
  exact zero_is _ _
 | some p =>
  obtain ⟨hpb, hpl⟩ := openL_isB ho hb
  have HA := aK (show ansE (openL l) = (p, 0) from by rw [ho]; rfl)
  have HRD := aK (fun (W : World) (A : Option Addr) (c : Nat) (hv : (Kd.int .u8).C W A p.length p) => read_m A p.length c p W (reads_of_c hv) (by omega) hpb)
  cases hok : rdOk p
  ·have HD := aK (show decM l = (zeroM, 2) from by unfold decM; rw [ho]; simp [hok])
   have HQ := aK hok
   clear h hb hl ho hpb hpl hok
   go_enter Try.func18, Try.ntmps18
   go_wp2_with (first | ((with_reducible refine gate_dst (N := 2) rfl ?_); refine alloc_row rfl 35 rfl _ (zero_msg _) ?_; intro g1 w1 hg hbox hb; have HX1 := aK hbox; have HB1 := aK hb; have HG1 := aK (show w.heap.size ≤ g1 from by rw [hg]; exact Nat.le_refl _); clear hg hbox hb) | (go_at_call 34; (with_reducible refine (HO.out _ HB1.out).mono ?_); rintro e w3 ⟨hB, vv, rfl, hv⟩; rw [HA.out] at hv ⊢; change BRd w3 vv p at hv; have HB3 := aK (HB1.out.trans (hB.mono HB1.out.size)); have HX3 := aK ((hB.block g1 (blk_lt HX1.out)).trans HX1.out); obtain ⟨A', c', es, hC', _⟩ := hv; subst es; have HC := aK (HRD.out w3 A' c' hC'); clear hB hC') | (go_at_call 25; (with_reducible refine HC.out.mono ?_); rintro e w4 ⟨hB, v2, ok2, rfl, hok, svr, hM, hF⟩; obtain rfl := hM.agg; rw [HQ.out] at hok; subst hok; have HB4 := aK (HB3.out.trans (hB.mono HB3.out.size)); have HX4 := aK ((hB.block g1 (blk_lt HX3.out)).trans HX3.out); have HM4 := aK hM; have HF4a := aK hF; have HF4 := aK (fun j fs hj k hk h0 => Nat.le_trans HB3.out.size (hF j fs hj k hk h0)); clear hF hM hB) | ((with_reducible refine gate_dst (N := 6) rfl ?_); refine alloc_row rfl 35 rfl _ (zero_msg _) ?_; intro g6 w5 hg hbox hb; have HX5 := aK hbox; have HB5a := aK hb; have HB5 := aK (HB4.out.trans (hb.mono HB4.out.size)); have HX5g := aK ((hb.block g1 (blk_lt HX4.out)).trans HX4.out); have HG6 := aK (show w4.heap.size ≤ g6 from by rw [hg]; exact Nat.le_refl _); clear hg hbox hb) | ((with_reducible refine gate_store (t := 35) (p := 6) rfl ?_); refine store_row rfl 35 (.tmp 6) (.tmp 19) rfl g6 rfl (msgC (rdM p).c svr) _ rfl 35 HX5.out rfl info_msg HM4.out.one ?_; intro w6 hX hO; have HX6 := aK hX; have HO6 := aK hO; have HB6 := aK (below_only HB5.out hO HB5.out.size (fun k hk => by have := HB4.out.size; have := HG6.out; have hk' : k = g6 := hk; omega)); have HX6g := aK ((hO.block g1 (blk_lt HX5g.out) (fun e => by have := blk_lt HX4.out; have := HG6.out; have e' : g1 = g6 := e; omega)).trans HX5g.out); have HM6 := aK (msg_new HM4.out HB5a.out hO HG6.out); clear hX hO) | ((with_reducible refine gate_store (t := 35) (p := 2) rfl ?_); refine store_row rfl 35 (.tmp 2) (.tmp 23) rfl g1 rfl (msgC zeroC nils) _ rfl 35 HX6g.out rfl info_msg (zero_rd w).one ?_; intro w7 hX hO; have HX7 := aK hX; have HO7 := aK hO; have HB7 := aK (below_only HB6.out hO HB6.out.size (fun k hk => by have := HG1.out; have hk' : k = g1 := hk; omega)); clear hX hO) | fail)
   refine bodyPost_ret (results_ct (P := Try.prog) (fn := Try.f18) rfl _ _ g1 _ (msgC zeroC nils) (0, 0) _ rfl HX7.out Try.underlying35 rfl info_msg) rfl ?_
   refine ⟨HB7.out, _, by rw [HD.out]; rfl, ?_⟩
   rw [HD.out]
   exact zero_is _ _
  ·have HD := aK (show decM l = (rdM p, 0) from by unfold decM; rw [ho]; simp [hok])
   have HQ := aK hok
   clear h hb hl ho hpb hpl hok
   go_enter Try.func18, Try.ntmps18
   go_wp2_with (first | ((with_reducible refine gate_dst (N := 2) rfl ?_); refine alloc_row rfl 35 rfl _ (zero_msg _) ?_; intro g1 w1 hg hbox hb; have HX1 := aK hbox; have HB1 := aK hb; have HG1 := aK (show w.heap.size ≤ g1 from by rw [hg]; exact Nat.le_refl _); clear hg hbox hb) | (go_at_call 34; (with_reducible refine (HO.out _ HB1.out).mono ?_); rintro e w3 ⟨hB, vv, rfl, hv⟩; rw [HA.out] at hv ⊢; change BRd w3 vv p at hv; have HB3 := aK (HB1.out.trans (hB.mono HB1.out.size)); have HX3 := aK ((hB.block g1 (blk_lt HX1.out)).trans HX1.out); obtain ⟨A', c', es, hC', _⟩ := hv; subst es; have HC := aK (HRD.out w3 A' c' hC'); clear hB hC') | (go_at_call 25; (with_reducible refine HC.out.mono ?_); rintro e w4 ⟨hB, v2, ok2, rfl, hok, svr, hM, hF⟩; obtain rfl := hM.agg; rw [HQ.out] at hok; subst hok; have HB4 := aK (HB3.out.trans (hB.mono HB3.out.size)); have HX4 := aK ((hB.block g1 (blk_lt HX3.out)).trans HX3.out); have HM4 := aK hM; have HF4a := aK hF; have HF4 := aK (fun j fs hj k hk h0 => Nat.le_trans HB3.out.size (hF j fs hj k hk h0)); clear hF hM hB) | ((with_reducible refine gate_dst (N := 6) rfl ?_); refine alloc_row rfl 35 rfl _ (zero_msg _) ?_; intro g6 w5 hg hbox hb; have HX5 := aK hbox; have HB5a := aK hb; have HB5 := aK (HB4.out.trans (hb.mono HB4.out.size)); have HX5g := aK ((hb.block g1 (blk_lt HX4.out)).trans HX4.out); have HG6 := aK (show w4.heap.size ≤ g6 from by rw [hg]; exact Nat.le_refl _); clear hg hbox hb) | ((with_reducible refine gate_store (t := 35) (p := 6) rfl ?_); refine store_row rfl 35 (.tmp 6) (.tmp 19) rfl g6 rfl (msgC (rdM p).c svr) _ rfl 35 HX5.out rfl info_msg HM4.out.one ?_; intro w6 hX hO; have HX6 := aK hX; have HO6 := aK hO; have HB6 := aK (below_only HB5.out hO HB5.out.size (fun k hk => by have := HB4.out.size; have := HG6.out; have hk' : k = g6 := hk; omega)); have HX6g := aK ((hO.block g1 (blk_lt HX5g.out) (fun e => by have := blk_lt HX4.out; have := HG6.out; have e' : g1 = g6 := e; omega)).trans HX5g.out); have HM6 := aK (msg_new HM4.out HB5a.out hO HG6.out); clear hX hO) | ((with_reducible refine gate_dst (N := 24) rfl ?_); refine load_row rfl 35 (.tmp 6) rfl g6 rfl (msgC (rdM p).c svr) 35 HX6.out _ Try.underlying35 rfl info_msg ?_) | ((with_reducible refine gate_store (t := 35) (p := 2) rfl ?_); refine store_row rfl 35 (.tmp 2) (.tmp 24) rfl g1 rfl (msgC (rdM p).c svr) _ rfl 35 HX6g.out rfl info_msg HM6.out.one ?_; intro w7 hX hO; have HX7 := aK hX; have HO7 := aK hO; have HB7 := aK (below_only HB6.out hO HB6.out.size (fun k hk => by have := HG1.out; have hk' : k = g1 := hk; omega)); have HM7 := aK (HM6.out.only hO (fun j fs hj k hk h0 e => by have h1 := HF4a.out j fs hj k hk h0; have h2 := blk_lt HX3.out; have e' : k = g1 := e; omega)); have HF7 := aK HF4.out; clear hX hO) | fail)
   refine bodyPost_ret (results_ct (P := Try.prog) (fn := Try.f18) rfl _ _ g1 _ (msgC (rdM p).c svr) (0, 0) _ rfl HX7.out Try.underlying35 rfl info_msg) rfl ?_
   refine ⟨HB7.out, _, by rw [HD.out]; rfl, ?_⟩
   rw [HD.out]
   exact ⟨svr, HM7.out, HF7.out⟩
end Go.Proofs.Ytcbehfbfaonanaa.Wr
end
section
namespace Go.Proofs.Ytcbehfbfaonanaa.Wr
open Go.RowKit Go.Proofs.YtcbehfbfaonanaaW.PrintWords Go.Proofs.YtcbehfbfaonanaaW.PrintLast Go.Proofs.YtcbehfbfaonanaaW.PrintMore Go.Proofs.Ytcbehfbfaonanaa.Pk
open Go.Proofs.Ytcbehfbfaonanaa.PFr (sealL openL ansE Ok)
set_option linter.unusedVariables false
set_option linter.unusedSimpArgs false
def Fld.top : Fld → Nat
 | .num _ _ => 8
 | .flag => 8
 | .text most => 8 + most.toNat
def topRow : List Fld → Nat
 | [] => 0
 | f :: fs => f.top + topRow fs
def Step.top : Step → Nat
 | .row _ fs => topRow fs
 | .most => 8
 | .lst _ fs n => 8 + n * topRow fs
def topAll : List Step → Nat
 | [] => 0
 | t :: ts => t.top + topAll ts
def Kin (c : Nat) (s s' : OSt) : Prop := (s'.2.2 = false → s.2.2 = false ∧ s'.1.length ≤ s.1.length + c) ∧ s.1.length ≤ s'.1.length
theorem Kin.refl (s : OSt) : Kin 0 s s := ⟨fun h => ⟨h, Nat.le_refl _⟩, Nat.le_refl _⟩
theorem Kin.trans {c d : Nat} {s s1 s2 : OSt} (h : Kin c s s1) (k : Kin d s1 s2) : Kin (c + d) s s2 :=
 ⟨fun e => ⟨(h.1 (k.1 e).1).1, by have := (k.1 e).2; have := (h.1 (k.1 e).1).2; omega⟩, Nat.le_trans h.2 k.2⟩
theorem Kin.mono {c d : Nat} {s s1 : OSt} (h : Kin c s s1) (hc : c ≤ d) : Kin d s s1 := ⟨fun e => ⟨(h.1 e).1, by have := (h.1 e).2; omega⟩, h.2⟩
theorem wnum_ge (n : Int) (xs : List Int) (bad : Bool) : xs.length ≤ (wnum n xs bad).1.length := by
 unfold wnum
 split
 ·exact Nat.le_refl _
 ·split
  ·exact Nat.le_refl _
  ·rw [List.length_append]; omega
theorem kin_num (s : OSt) (n lo hi : Int) : Kin 8 s (onum s n lo hi) := ⟨fun h => by
 simp only [onum, Bool.or_eq_false_iff] at h
 exact ⟨h.1.1, wnum_le _ _ _⟩, wnum_ge _ _ _⟩
theorem kin_flag (s : OSt) (x : Bool) : Kin 8 s (oflag s x) := ⟨fun h => ⟨h, wnum_le _ _ _⟩, wnum_ge _ _ _⟩
theorem kin_text (s : OSt) (x : ByteArray) (most : Int) : Kin (8 + most.toNat) s (otext s x most) := by
 constructor
 ·intro h
  simp only [otext, Bool.or_eq_false_iff, decide_eq_false_iff_not] at h
  refine ⟨h.1, ?_⟩
  have := wtext_le x s.1 s.2.1
  show (wtext x s.1 s.2.1).1.length ≤ _
  omega
 ·show _ ≤ (wtext x s.1 s.2.1).1.length
  have := wnum_ge (x.size : Int) s.1 s.2.1
  unfold wtext
  split
  ·exact this
  ·rw [List.length_append]; omega
theorem kin_count (s : OSt) (n most : Int) : Kin 8 s (ocount s n most) := ⟨fun h => by
 simp only [ocount, Bool.or_eq_false_iff] at h
 exact ⟨h.1, wnum_le _ _ _⟩, wnum_ge _ _ _⟩
theorem kin_fld (s : OSt) (f : Fld) (v : Value) : Kin f.top s ((oForm 0).fld s f v).1 := by
 unfold Form.fld
 split
 ·exact kin_num s _ _ _
 ·exact kin_flag s _
 ·exact kin_text s _ _
 ·exact (Kin.refl s).mono (Nat.zero_le _)
theorem kin_row : ∀ (fs : List Fld) (vs : List Value) (s : OSt), Kin (topRow fs) s ((oForm 0).row s fs vs).1
 | [], vs, s => by cases vs <;> exact Kin.refl s
 | f :: fs, [], s => (Kin.refl s).mono (Nat.zero_le _)
 | f :: fs, v :: vs, s => (kin_fld s f v).trans (kin_row fs vs _)
theorem kin_rows (fs : List Fld) : ∀ (rs : List (List Value)) (s : OSt), Kin (rs.length * topRow fs) s ((oForm 0).rows fs s rs).1
 | [], s => (show Kin ([].length * topRow fs) s s from (Kin.refl s).mono (Nat.zero_le _))
 | r :: rs, s => ((kin_row fs r s).trans (kin_rows fs rs _)).mono (by rw [List.length_cons, Nat.add_mul]; omega)
theorem kin_list (fs : List Fld) (s : OSt) (most : Nat) (rows : List (List Value)) : Kin (8 + most * topRow fs) s ((oForm 0).list fs s most rows).1 := by
 refine (kin_count s rows.length most).trans ((kin_rows fs (((oForm 0).listR fs s most rows).take ((oForm 0).listM s most rows.length)) _).mono (Nat.mul_le_mul_right _ ?_))
 rw [List.length_take]
 unfold Form.listM
 omega
theorem kin_step (s : OSt) (m : M) (t : Step) : Kin t.top s ((oForm 0).step s m t).1 := by
 cases t with
 | row i fs => exact kin_row fs _ s
 | most => exact kin_row [.num (maxOf (m.c 6)) 128] _ s
 | lst j fs n => exact kin_list fs s n _
theorem kin_run : ∀ (ts : List Step) (s : OSt) (m : M), Kin (topAll ts) s ((oForm 0).run s m ts).1
 | [], s, m => Kin.refl s
 | t :: ts, s, m => (kin_step s m t).trans (kin_run ts _ _)
theorem top_script (n : Int) : topAll (script n) ≤ 60000 := by
 unfold script headS fieldsS
 repeat' split
 all_goals decide
theorem wnum_pos {n : Int} {xs : List Int} {bad : Bool} (h : (wnum n xs bad).2 = false) : xs.length < (wnum n xs bad).1.length := by
 unfold wnum at h ⊢
 split
 ·rename_i h'; rw [if_pos h'] at h; cases h
 ·rename_i h'
  rw [if_neg h'] at h
  split
  ·rename_i h''; rw [if_pos h''] at h; cases h
  ·rw [List.length_append]; have := enc_pos n.toNat; omega
theorem wnum_bad (n : Int) (xs : List Int) : (wnum n xs true).2 = true := by unfold wnum; split <;> simp
theorem bad_fld (s : OSt) (h : s.2.1 = true) (f : Fld) (v : Value) : ((oForm 0).fld s f v).1.2.1 = true := by
 unfold Form.fld
 split
 ·show (wnum _ s.1 s.2.1).2 = true; rw [h]; exact wnum_bad _ _
 ·show (wnum _ s.1 s.2.1).2 = true; rw [h]; exact wnum_bad _ _
 ·show (wtext _ s.1 s.2.1).2 = true
  rw [h]
  unfold wtext
  rw [if_pos (wnum_bad _ _)]
 ·exact h
theorem bad_row : ∀ (fs : List Fld) (vs : List Value) (s : OSt), s.2.1 = true → ((oForm 0).row s fs vs).1.2.1 = true
 | [], vs, s, h => by cases vs <;> exact h
 | f :: fs, [], s, h => h
 | f :: fs, v :: vs, s, h => bad_row fs vs _ (bad_fld s h f v)
theorem bad_rows (fs : List Fld) : ∀ (rs : List (List Value)) (s : OSt), s.2.1 = true → ((oForm 0).rows fs s rs).1.2.1 = true
 | [], s, h => h
 | r :: rs, s, h => bad_rows fs rs _ (bad_row fs r s h)
theorem bad_step (s : OSt) (m : M) (t : Step) (h : s.2.1 = true) : ((oForm 0).step s m t).1.2.1 = true := by
 cases t with
 | row i fs => exact bad_row fs _ s h
 | most => exact bad_row _ _ s h
 | lst j fs n => exact bad_rows fs _ _ (show (wnum _ s.1 s.2.1).2 = true by rw [h]; exact wnum_bad _ _)
theorem bad_run : ∀ (ts : List Step) (s : OSt) (m : M), s.2.1 = true → ((oForm 0).run s m ts).1.2.1 = true
 | [], s, m, h => h
 | t :: ts, s, m, h => bad_run ts _ _ (bad_step s m t h)
theorem pay_ok {m : M} (ht : Typed m) (h : payOk m = true) : Ok (payB m) := by
 unfold payOk at h
 simp only [Bool.and_eq_true, Bool.not_eq_true'] at h
 obtain ⟨⟨⟨h1, h2⟩, h3⟩, h4⟩ := h
 obtain ⟨x, hx⟩ : ∃ x, m.c 0 = .int .i64 x := ht 0 rfl
 have e0 : ((oForm 0).rowM ([], false, false) m 0 [.num 1 10]).1 = onum ([], false, false) x 1 10 := by
  show ((oForm 0).row ([], false, false) [.num 1 10] (valsAt m.c 0 1)).1 = _
  simp only [valsAt, hx]
  rfl
 have e1 : payS m = ((oForm 0).run ((oForm 0).rowM ([], false, false) m 0 [.num 1 10]).1 ((oForm 0).rowM ([], false, false) m 0 [.num 1 10]).2 (script (kindM ((oForm 0).rowM ([], false, false) m 0 [.num 1 10]).2))).1 := rfl
 have k := kin_run (script (kindM ((oForm 0).rowM ([], false, false) m 0 [.num 1 10]).2)) ((oForm 0).rowM ([], false, false) m 0 [.num 1 10]).1 ((oForm 0).rowM ([], false, false) m 0 [.num 1 10]).2
 rw [← e1, e0] at k
 have k0 := kin_num ([], false, false) x 1 10
 have hb : (onum ([], false, false) x 1 10).2.1 = false := by
  cases hb : (onum ([], false, false) x 1 10).2.1 with
  | false => rfl
  | true =>
   have := bad_run (script (kindM ((oForm 0).rowM ([], false, false) m 0 [.num 1 10]).2)) _ ((oForm 0).rowM ([], false, false) m 0 [.num 1 10]).2 hb
   rw [← e0, ← e1, h3] at this
   cases this
 have hp : 0 < (onum ([], false, false) x 1 10).1.length := wnum_pos (n := x) (xs := []) (bad := false) hb
 have ht := top_script (kindM ((oForm 0).rowM ([], false, false) m 0 [.num 1 10]).2)
 have k1 := (k.1 h4).2
 have k2 := (k0.1 (k.1 h4).1).2
 have k3 := k.2
 unfold Ok payB
 simp only [List.length_nil] at k2
 omega
theorem sealA_ok {m : M} (ht : Typed m) (h : RightM m) : sealA (payB m) = (sealL (payB m), 0) := by unfold sealA; rw [if_pos (pay_ok ht h.1)]
end Go.Proofs.Ytcbehfbfaonanaa.Wr
end
section
namespace Go.Proofs.Ytcbehfbfaonanaa.Wr
open Go.RowKit PFr Go.Proofs.YtcbehfbfaonanaaW.PrintWords Go.Proofs.YtcbehfbfaonanaaW.PrintLast Go.Proofs.YtcbehfbfaonanaaW.PrintMore Go.Proofs.Ytcbehfbfaonanaa.Pk
set_option linter.unusedVariables false
set_option linter.unusedSimpArgs false
def aw : M := ⟨fun i => if i = 0 then .int .i64 6 else if i = 2 then .int .i64 3 else zeroC i, fun _ => []⟩
theorem aw_pay : payB aw = [6, 3] := by decide +kernel
theorem aw_ok : payOk aw = true := by decide +kernel
theorem aw_rdOk : rdOk [6, 3] = true := by decide +kernel
theorem aw_typed : Typed aw := fun i hi => by
 unfold aw
 by_cases h0 : i = 0
 ·subst h0; exact ⟨_, rfl⟩
 ·by_cases h2 : i = 2
  ·subst h2; exact ⟨_, rfl⟩
  ·simp only [h0, h2, if_false]
   exact zero_typed i hi
theorem scalar_lt {i : Nat} (h : scalar i = true) : i < 26 := by unfold scalar at h; simp only [Bool.and_eq_true, decide_eq_true_eq] at h; exact h.1
theorem aw_c : ∀ i, scalar i = true → aw.c i = (rdM [6, 3]).c i := fun i hi => by
 have h := scalar_lt hi
 have : i = 0 ∨ i = 1 ∨ i = 2 ∨ i = 3 ∨ i = 4 ∨ i = 5 ∨ i = 6 ∨ i = 7 ∨ i = 8 ∨ i = 9 ∨ i = 10 ∨ i = 11 ∨ i = 12 ∨ i = 13 ∨ i = 14 ∨ i = 15 ∨ i = 16 ∨ i = 17 ∨ i = 18 ∨ i = 19 ∨ i = 20 ∨ i = 21 ∨ i = 22 ∨ i = 23 ∨ i = 24 ∨ i = 25 := by omega
 rcases this with rfl | rfl | rfl | rfl | rfl | rfl | rfl | rfl | rfl | rfl | rfl | rfl | rfl | rfl | rfl | rfl | rfl | rfl | rfl | rfl | rfl | rfl | rfl | rfl | rfl | rfl
 ·exact (by kernel_rfl : aw.c 0 = (rdM [6, 3]).c 0)
 ·exact (by kernel_rfl : aw.c 1 = (rdM [6, 3]).c 1)
 ·exact (by kernel_rfl : aw.c 2 = (rdM [6, 3]).c 2)
 ·exact absurd hi (by decide)
 ·exact (by kernel_rfl : aw.c 4 = (rdM [6, 3]).c 4)
 ·exact (by kernel_rfl : aw.c 5 = (rdM [6, 3]).c 5)
 ·exact (by kernel_rfl : aw.c 6 = (rdM [6, 3]).c 6)
 ·exact (by kernel_rfl : aw.c 7 = (rdM [6, 3]).c 7)
 ·exact absurd hi (by decide)
 ·exact absurd hi (by decide)
 ·exact absurd hi (by decide)
 ·exact (by kernel_rfl : aw.c 11 = (rdM [6, 3]).c 11)
 ·exact (by kernel_rfl : aw.c 12 = (rdM [6, 3]).c 12)
 ·exact (by kernel_rfl : aw.c 13 = (rdM [6, 3]).c 13)
 ·exact (by kernel_rfl : aw.c 14 = (rdM [6, 3]).c 14)
 ·exact (by kernel_rfl : aw.c 15 = (rdM [6, 3]).c 15)
 ·exact (by kernel_rfl : aw.c 16 = (rdM [6, 3]).c 16)
 ·exact (by kernel_rfl : aw.c 17 = (rdM [6, 3]).c 17)
 ·exact (by kernel_rfl : aw.c 18 = (rdM [6, 3]).c 18)
 ·exact (by kernel_rfl : aw.c 19 = (rdM [6, 3]).c 19)
 ·exact (by kernel_rfl : aw.c 20 = (rdM [6, 3]).c 20)
 ·exact (by kernel_rfl : aw.c 21 = (rdM [6, 3]).c 21)
 ·exact (by kernel_rfl : aw.c 22 = (rdM [6, 3]).c 22)
 ·exact (by kernel_rfl : aw.c 23 = (rdM [6, 3]).c 23)
 ·exact (by kernel_rfl : aw.c 24 = (rdM [6, 3]).c 24)
 ·exact (by kernel_rfl : aw.c 25 = (rdM [6, 3]).c 25)
theorem aw_right : RightM aw := ⟨aw_ok, by rw [aw_pay]; exact aw_rdOk, by
 rw [aw_pay]
 refine ⟨aw_c, fun j fs hj => ?_⟩
 simp only [lists, List.mem_cons, Prod.mk.injEq, List.not_mem_nil, or_false] at hj
 rcases hj with ⟨rfl, rfl⟩ | ⟨rfl, rfl⟩ | ⟨rfl, rfl⟩ | ⟨rfl, rfl⟩ <;> kernel_rfl⟩
theorem aw_seal : sealA (payB aw) = (sealL [6, 3], 0) := by rw [sealA_ok aw_typed aw_right, aw_pay]
theorem aw_dec : decM (sealL [6, 3]) = (rdM [6, 3], 0) := by
 have ho : openL (sealL [6, 3]) = some [6, 3] := PFr.openL_sealL (by have := pay_ok aw_typed aw_ok; rwa [aw_pay] at this)
 unfold decM
 rw [ho]
 simp only [aw_rdOk, if_true]
theorem aw_small : Small aw := by
 refine ⟨⟨fun i => ?_, fun j r hr => nomatch hr⟩, fun j => Nat.zero_le _, fun j r hr => nomatch hr⟩
 unfold aw
 intro s hs
 by_cases h0 : i = 0
 ·simp [h0] at hs
 ·by_cases h2 : i = 2
  ·simp [h2] at hs
  ·simp only [h0, h2, if_false, zeroC] at hs
   cases hk : kindOf i <;> rw [hk] at hs <;> first | cases hs; exact Nat.zero_le _ | cases hs
end Go.Proofs.Ytcbehfbfaonanaa.Wr
end
section
namespace Go.Proofs.Ytcbehfbfaonanaa.Wr
open Go.RowKit Go.Proofs.YtcbehfbfaonanaaW.PrintWords Go.Proofs.YtcbehfbfaonanaaW.PrintLast Go.Proofs.YtcbehfbfaonanaaW.PrintMore Go.Proofs.Ytcbehfbfaonanaa.Pk
open Go.Proofs.Ytcbehfbfaonanaa.PFr (sealL openL ansE Ok)
set_option linter.unusedVariables false
set_option linter.unusedSimpArgs false
theorem aw_rd (w : World) : MsgRd w (.agg (msgC aw.c nils)) aw nils := ⟨rfl, aw_typed, fun _ _ _ r hr => (nomatch hr), fun j fs hj => ⟨none, 0, rfl, fun _ => rfl, fun h => absurd rfl h⟩⟩
theorem aw_enc (w : World) : Calls Try.prog 11 #[.agg (msgC aw.c nils)] w (IsBE (sealL [6, 3]) 0 w) := by
 have h := encode_yes w _ aw nils (aw_rd w) aw_small aw_right
 rw [aw_seal] at h
 exact h
theorem aw_isB : (∀ x ∈ sealL [6, 3], 0 ≤ x ∧ x < 256) ∧ (sealL [6, 3]).length ≤ 9000000000 := by decide +kernel
theorem aw_none : ∀ j, (rdM [6, 3]).L j = [] := fun j => by
 have : (rdM [6, 3]).L = fun _ => [] := by kernel_rfl
 rw [this]
theorem aw_ne : ¬ MEq aw zeroM := fun h => by
 have := h.1 0 rfl
 simp [aw, zeroM, zeroC, kindOf] at this
theorem aw_any {w w' : World} {v : Value} {sv : Nat → Value} (h : MsgRd w v (rdM [6, 3]) sv) : MsgRd w' v (rdM [6, 3]) sv :=
 ⟨h.eq, h.typed, h.fit, fun j fs hj => by
  obtain ⟨A, c, e, h0, h1⟩ := h.rd j fs hj
  exact ⟨A, c, e, h0, fun h => absurd (aw_none j) h⟩⟩
def IsGot (w : World) (e : Ending) (w' : World) : Prop := Below w.heap.size w w' ∧ ∃ sv, e = .returned (.tuple #[.agg (msgC (rdM [6, 3]).c sv), .int .i64 0]) ∧ ∀ W, MsgRd W (.agg (msgC (rdM [6, 3]).c sv)) (rdM [6, 3]) sv
theorem aw_got (w : World) (v : Value) (h : BRd w v (sealL [6, 3])) : Calls Try.prog 18 #[v] w (IsGot w) := by
 refine (decode_c w v _ h aw_isB.1 aw_isB.2).mono ?_
 rintro e w' ⟨hB, v', rfl, sv, hM, _⟩
 rw [aw_dec] at hM ⊢
 obtain rfl := hM.agg
 exact ⟨hB, _, rfl, fun W => aw_any hM⟩
theorem awake_c (w : World) : Calls Try.prog 8 #[] w (IsEqB True w) := by
 have HME := aK (show MEq (rdM [6, 3]) aw from ⟨fun i hi => (aw_c i hi).symm, fun j _ _ => aw_none j⟩)
 have HS2 := aK (fun (W : World) => isB_true aw_right (right_c W _ aw nils (aw_rd W) aw_small))
 have HS3 : Aside0 (∀ W : World, Calls Try.prog 17 #[.agg (msgC aw.c nils), .agg #[.int .i64 0, .int .i64 0, .int .i64 0, .slice none 0 0, .int .i64 0, .int .i64 0, .int .i64 0, .int .i64 0, .slice none 0 0, .slice none 0 0, .slice none 0 0, .int .i64 0, .int .i64 0, .bool false, .int .i64 0, .int .i64 0, .string ⟨#[]⟩, .bool false, .string ⟨#[]⟩, .int .i64 0, .int .i64 0, .int .i64 0, .int .i64 0, .int .i64 0, .bool false, .string ⟨#[]⟩]] W (fun e w' => e = .returned (.bool false) ∧ Below W.heap.size W w')) := aK (fun (W : World) => isB_false aw_ne (wireSame_c W _ _ aw zeroM nils nils (aw_rd W) (zero_rd W) (fun j => Nat.zero_le _) (fun j => Nat.zero_le _)))
 go_enter Try.func8, Try.ntmps8
 go_wp2_with (first | ((with_reducible refine gate_dst (N := 1) rfl ?_); refine alloc_row rfl 35 rfl _ (zero_msg _) ?_; intro g1 w1 hg hbox hb; have HX1 := aK hbox; have HB1 := aK hb; have HG1 := aK hg; clear hg hbox hb) | ((with_reducible refine gate_store (t := 35) (p := 1) rfl ?_); refine store_row rfl 35 (.tmp 1) (.tmp 6) rfl g1 rfl (msgC aw.c nils) _ rfl 35 HX1.out rfl info_msg (aw_rd w).one ?_; intro w2 hX hO; have HX2 := aK hX; have HB2 := aK (below_only HB1.out hO HB1.out.size (fun k hk => by have := HG1.out; have hk' : k = g1 := hk; omega)); clear hX hO) | ((with_reducible refine gate_dst (N := 8) rfl ?_); refine load_row rfl 35 (.tmp 1) rfl g1 rfl (msgC aw.c nils) 35 HX2.out _ Try.underlying35 rfl info_msg ?_) | (go_at_call 11; (with_reducible refine (aw_enc _).mono ?_); rintro e w3 ⟨hB, vv, rfl, hv⟩; have HB3 := aK (HB2.out.trans (hB.mono HB2.out.size)); obtain ⟨A', c', es, h1, h2⟩ := id hv; have HV := aK (show BRd w3 vv _ from hv); subst es; have HG := aK (aw_got w3 _ HV.out); have HX32 := aK ((hB.block g1 (blk_lt HX2.out)).trans HX2.out); clear hB hv h1 h2 HV) | (go_at_call 18; (with_reducible refine HG.out.mono ?_); rintro e w4 ⟨hB, sv, rfl, hOne⟩; have HB4 := aK (HB3.out.trans (hB.mono HB3.out.size)); have HOn := aK hOne; have HX42 := aK ((hB.block g1 (blk_lt HX32.out)).trans HX32.out); clear hB hOne) | ((with_reducible refine gate_dst (N := 4) rfl ?_); refine alloc_row rfl 35 rfl _ (zero_msg _) ?_; intro g4 w5 hg hbox hb; have HX5 := aK hbox; have HB5 := aK (HB4.out.trans (hb.mono HB4.out.size)); have HG5 := aK (show w.heap.size ≤ g4 from by rw [hg]; exact HB4.out.size); have HG4 := aK (show g1 ≠ g4 from by have := blk_lt HX42.out; omega); have HX52 := aK ((hb.block g1 (blk_lt HX42.out)).trans HX42.out); clear hg hbox hb) | ((with_reducible refine gate_store (t := 35) (p := 4) rfl ?_); refine store_row rfl 35 (.tmp 4) (.tmp 15) rfl g4 rfl (msgC (rdM [6, 3]).c sv) _ rfl 35 HX5.out rfl info_msg (HOn.out default).one ?_; intro w6 hX hO; have HX6 := aK hX; have HX62 := aK (hO.blk HX52.out (by have := HG4.out; omega)); have HB6 := aK (below_only HB5.out hO HB5.out.size (fun k hk => by have := HG5.out; have hk' : k = g4 := hk; omega)); have HS1 := aK (fun (W : World) => isB_true (show MEq (rdM [6, 3]) aw from HME.out) (wireSame_c W _ _ _ aw sv nils (HOn.out W) (aw_rd W) (fun j => by rw [aw_none]; exact Nat.zero_le _) (fun j => Nat.zero_le _))); clear hX hO) | ((with_reducible refine gate_dst (N := 29) rfl ?_); refine gate_guard rfl ?_; refine load_row rfl 35 (.tmp 4) rfl g4 rfl (msgC (rdM [6, 3]).c sv) 35 HX6.out _ Try.underlying35 rfl info_msg ?_) | ((with_reducible refine gate_dst (N := 30) rfl ?_); refine gate_guard rfl ?_; refine load_row rfl 35 (.tmp 1) rfl g1 rfl (msgC aw.c nils) 35 HX62.out _ Try.underlying35 rfl info_msg ?_) | (go_at_call 17; (with_reducible refine (HS1.out _).mono ?_); rintro e w7 ⟨rfl, hB⟩; have HB7 := aK (HB6.out.trans (hB.mono HB6.out.size)); have HX7 := aK ((hB.block g1 (blk_lt HX62.out)).trans HX62.out); clear hB HS1) | ((with_reducible refine gate_dst (N := 34) rfl ?_); refine gate_guard rfl ?_; refine load_row rfl 35 (.tmp 1) rfl g1 rfl (msgC aw.c nils) 35 HX7.out _ Try.underlying35 rfl info_msg ?_) | (go_at_call 13; (with_reducible refine (HS2.out _).mono ?_); rintro e w8 ⟨rfl, hB⟩; have HB8 := aK (HB7.out.trans (hB.mono HB7.out.size)); have HX8 := aK ((hB.block g1 (blk_lt HX7.out)).trans HX7.out); clear hB) | ((with_reducible refine gate_dst (N := 38) rfl ?_); refine gate_guard rfl ?_; refine load_row rfl 35 (.tmp 1) rfl g1 rfl (msgC aw.c nils) 35 HX8.out _ Try.underlying35 rfl info_msg ?_) | (go_at_call 17; (with_reducible refine (HS3.out _).mono ?_); rintro e w9 ⟨rfl, hB⟩; have HB9 := aK (HB8.out.trans (hB.mono HB8.out.size)); clear hB) | fail)
 go_ret
 exact ⟨true, rfl, by simp, HB9.out⟩
end Go.Proofs.Ytcbehfbfaonanaa.Wr
end
section
namespace Go.Proofs.Ytcbehfbfaonanaa.Wr
open Go.RowKit Go.ChangeShapes Go.WideShapes Go.ChangeAt Go.Proofs.YtcbehfbfaonanaaW.PrintWords Go.Proofs.Ytcbehfbfaonanaa.Pk
set_option linter.unusedVariables false
def flatF (P : Program) (g : TypeId → Option (List Fld)) : Nat → List Field → Option (List Fld)
 | _, [] => some []
 | o, f :: fs => match g f.type, flatF P g (o + P.cellsOf f.type) fs with
  | some a, some b => if f.offset = o ∧ P.cellsOf f.type = a.length then some (a ++ b) else none
  | _, _ => none
def flat (P : Program) : Nat → TypeId → Option (List Fld)
 | 0, _ => none
 | n + 1, t => match P.underlying t with
  | some (.int .i64) => some [.num 0 0]
  | some .bool => some [.flag]
  | some .string => some [.text 0]
  | some (.struct fs) => match flatF P (flat P n) 0 fs.toList with
   | some ks => if P.cellsOf t = ks.length then some ks else none
   | none => none
  | _ => none
def GoodV (N : Nat) (f : Fld) (v : Value) : Prop := f.fits v ∧ Lite N v ∧ ∀ n, v = .int .i64 n → (Lit.int .i64 n).wf = true
theorem bulk_mem {H : Type} : ∀ {ds : List (DataW H)} {d : DataW H}, d ∈ ds → Rows.uptoBulk d ≤ Rows.uptoBulkAll ds
 | e :: r, d, h => by
  have e1 : Rows.uptoBulkAll (e :: r) = Rows.uptoBulk e + Rows.uptoBulkAll r := by simp [Rows.uptoBulkAll]
  rcases List.mem_cons.1 h with rfl | h
  ·omega
  ·have := bulk_mem h; omega
theorem bulk_agg {H : Type} (ds : List (DataW H)) : Rows.uptoBulk (.agg ds) = Rows.uptoBulkAll ds + 1 := by simp [Rows.uptoBulk]
section
variable {H : Type} {enc : TypeId × Value → H} {P : Program} {W : World} {base : Nat} {spare : Nat → Bool} {held : Bool}
theorem flat_fields {N n : Nat} (ih : ∀ t ks, flat P n t = some ks → ∀ fuel cs x, DataW.trod enc P W base spare held fuel t cs = some x → Rows.uptoBulk x.1 ≤ N → cs.length = ks.length ∧ ∀ (i : Nat) f v, ks[i]? = some f → cs[i]? = some v → GoodV N f v) :
  ∀ (fs : List Field) (o : Nat) (ks : List Fld), flatF P (flat P n) o fs = some ks → ∀ cs : List Value, (∀ f, f ∈ fs → ∃ fuel x, DataW.trod enc P W base spare held fuel f.type ((cs.drop f.offset).take (P.cellsOf f.type)) = some x ∧ Rows.uptoBulk x.1 ≤ N) →
   ∀ (i : Nat) f v, ks[i]? = some f → cs[o + i]? = some v → GoodV N f v
 | [], o, ks, h, cs, _, i, f, v, hi, _ => by
  unfold flatF at h
  injection h with h
  subst h
  simp at hi
 | g :: fs, o, ks, h, cs, ht, i, f, v, hi, hv => by
  unfold flatF at h
  split at h
  ·rename_i a b ha hb
   split at h
   ·rename_i hc
    injection h with h
    subst h
    obtain ⟨h1, h2⟩ := hc
    obtain ⟨fuel, x, hx, hN⟩ := ht g (List.mem_cons_self ..)
    obtain ⟨hl, hk⟩ := ih _ _ ha _ _ _ hx hN
    by_cases hia : i < a.length
    ·rw [List.getElem?_append_left hia] at hi
     refine hk i f v hi ?_
     rw [List.getElem?_take, if_pos (by omega), List.getElem?_drop, h1]
     exact hv
    ·rw [List.getElem?_append_right (by omega)] at hi
     refine flat_fields ih fs (o + P.cellsOf g.type) b hb cs (fun f' hf' => ht f' (List.mem_cons_of_mem _ hf')) (i - a.length) f v hi ?_
     rw [show o + P.cellsOf g.type + (i - a.length) = o + i by omega]
     exact hv
   ·cases h
  ·cases h
theorem trod_flat {N : Nat} : ∀ (n : Nat) (t : TypeId) (ks : List Fld), flat P n t = some ks → ∀ fuel cs x, DataW.trod enc P W base spare held fuel t cs = some x → Rows.uptoBulk x.1 ≤ N → cs.length = ks.length ∧ ∀ (i : Nat) f v, ks[i]? = some f → cs[i]? = some v → GoodV N f v
 | 0, t, ks, h => by unfold flat at h; cases h
 | n + 1, t, ks, h => by
  intro fuel cs x hx hN
  unfold flat at h
  split at h
  ·rename_i hu
   injection h with h
   subst h
   obtain ⟨z, rfl, _, hw⟩ := DataW.trod_int hu hx
   refine ⟨rfl, fun i f v hi hv => ?_⟩
   match i, hi, hv with
   | 0, hi, hv =>
    simp only [List.getElem?_cons_zero, Option.some.injEq] at hi hv
    subst hi hv
    exact ⟨⟨_, rfl⟩, (fun s hs => by cases hs), (fun m hm => by cases hm; exact hw)⟩
   | i + 1, hi, _ => simp at hi
  ·rename_i hu
   injection h with h
   subst h
   obtain ⟨z, rfl, _⟩ := DataW.trod_bool hu hx
   refine ⟨rfl, fun i f v hi hv => ?_⟩
   match i, hi, hv with
   | 0, hi, hv =>
    simp only [List.getElem?_cons_zero, Option.some.injEq] at hi hv
    subst hi hv
    exact ⟨⟨_, rfl⟩, (fun s hs => by cases hs), (fun m hm => by cases hm)⟩
   | i + 1, hi, _ => simp at hi
  ·rename_i hu
   injection h with h
   subst h
   obtain ⟨z, rfl, rfl, _⟩ := DataW.trod_string hu hx
   refine ⟨rfl, fun i f v hi hv => ?_⟩
   match i, hi, hv with
   | 0, hi, hv =>
    simp only [List.getElem?_cons_zero, Option.some.injEq] at hi hv
    subst hi hv
    refine ⟨⟨_, rfl⟩, (fun s hs => ?_), (fun m hm => by cases hm)⟩
    cases hs
    have e : Rows.uptoBulk (.lit (.string z.data.toList) : DataW H) = z.data.toList.length + 1 := by simp [Rows.uptoBulk]
    rw [e] at hN
    have : z.size = z.data.toList.length := (Array.length_toList (xs := z.data)).symm
    omega
   | i + 1, hi, _ => simp at hi
  ·rename_i fs hu
   split at h
   ·rename_i ks' hks
    split at h
    ·rename_i hc
     injection h with h
     subst h
     obtain ⟨xs, m, rfl, rfl, hl, hxl, hf⟩ := DataW.trod_struct hu hx
     refine ⟨hl.trans hc, fun i f v hi hv => ?_⟩
     refine flat_fields (trod_flat n) fs.toList 0 ks' hks cs (fun g hg => ?_) i f v hi (by rwa [Nat.zero_add])
     obtain ⟨j, hj⟩ := List.mem_iff_getElem?.1 hg
     have hj' : fs[j]? = some g := by simpa using hj
     have hjl : j < xs.length := by rw [hxl]; exact (Array.getElem?_eq_some_iff.1 hj').1
     have h1 := hf j g hj'
     rw [List.getElem?_eq_getElem hjl] at h1
     refine ⟨m, _, h1, ?_⟩
     have hN' : Rows.uptoBulkAll (xs.map (·.1)) + 1 ≤ N := by rw [← bulk_agg]; exact hN
     have := bulk_mem (List.mem_map_of_mem (f := (·.1)) (List.getElem_mem hjl))
     omega
    ·cases h
   ·cases h
  ·cases h
end
end Go.Proofs.Ytcbehfbfaonanaa.Wr
end
section
namespace Go.Proofs.Ytcbehfbfaonanaa.Wr
open Go.RowKit Go.ChangeShapes Go.WideShapes Go.ChangeAt Go.Deep Go.Proofs.YtcbehfbfaonanaaW.PrintWords Go.Proofs.Ytcbehfbfaonanaa.Pk
set_option linter.unusedVariables false
theorem bulk_pos {H : Type} (d : DataW H) : 1 ≤ Rows.uptoBulk d := by
 cases d with
 | lit l => cases l <;> simp [Rows.uptoBulk]
 | nil => simp [Rows.uptoBulk]
 | ptr d => simp [Rows.uptoBulk]
 | slice a b => simp [Rows.uptoBulk]
 | agg a => simp [Rows.uptoBulk]
 | iface a d => simp [Rows.uptoBulk]
 | map a => simp [Rows.uptoBulk]
 | held a => simp [Rows.uptoBulk]
theorem bulk_len {H : Type} : ∀ ds : List (DataW H), ds.length ≤ Rows.uptoBulkAll ds
 | [] => Nat.zero_le _
 | d :: r => by
  have h1 := bulk_pos d
  have h2 := bulk_len r
  have e : Rows.uptoBulkAll (d :: r) = Rows.uptoBulk d + Rows.uptoBulkAll r := by simp [Rows.uptoBulkAll]
  rw [e, List.length_cons]
  omega
def GoodR (N : Nat) (fs : List Fld) (r : List Value) : Prop := r.length = fs.length ∧ ∀ (i : Nat) f v, fs[i]? = some f → r[i]? = some v → GoodV N f v
def likeR : List Fld → List Fld → Bool
 | [], [] => true
 | f :: fs, g :: gs => f.like g && likeR fs gs
 | _, _ => false
theorem likeR_len : ∀ {a b : List Fld}, likeR a b = true → a.length = b.length
 | [], [], _ => rfl
 | f :: fs, g :: gs, h => by
  unfold likeR at h
  rw [Bool.and_eq_true] at h
  rw [List.length_cons, List.length_cons, likeR_len h.2]
theorem likeR_at : ∀ {a b : List Fld}, likeR a b = true → ∀ (i : Nat) f g, a[i]? = some f → b[i]? = some g → f.like g = true
 | [], [], _, i, f, g, h, _ => by simp at h
 | f :: fs, g :: gs, h, 0, f', g', h1, h2 => by
  unfold likeR at h
  rw [Bool.and_eq_true] at h
  simp only [List.getElem?_cons_zero, Option.some.injEq] at h1 h2
  subst h1 h2
  exact h.1
 | f :: fs, g :: gs, h, i + 1, f', g', h1, h2 => by
  unfold likeR at h
  rw [Bool.and_eq_true] at h
  exact likeR_at h.2 i f' g' (by simpa using h1) (by simpa using h2)
theorem GoodR.like {N : Nat} {a b : List Fld} {r : List Value} (h : GoodR N a r) (hl : likeR a b = true) : GoodR N b r := by
 refine ⟨h.1.trans (likeR_len hl), fun i g v hg hv => ?_⟩
 have hi : i < a.length := by rw [likeR_len hl]; exact (List.getElem?_eq_some_iff.1 hg).1
 have ha := List.getElem?_eq_getElem hi
 obtain ⟨h1, h2, h3⟩ := h.2 i _ v ha hv
 exact ⟨Fld.like_fits (likeR_at hl i _ g ha hg) h1, h2, h3⟩
theorem GoodR.fits {N : Nat} : ∀ {a : List Fld} {r : List Value}, GoodR N a r → Wr.fits a r
 | [], [], _ => trivial
 | [], _ :: _, h => by have := h.1; simp at this
 | _ :: _, [], h => by have := h.1; simp at this
 | f :: fs, v :: r, h => ⟨(h.2 0 f v rfl rfl).1, GoodR.fits (a := fs) (r := r) ⟨by have := h.1; simpa using this, fun i g u hg hu => h.2 (i + 1) g u (by simpa using hg) (by simpa using hu)⟩⟩
theorem list_of {α : Type} {p : Nat → α → Prop} : ∀ n : Nat, (∀ i, i < n → ∃ e, p i e) → ∃ l : List α, l.length = n ∧ ∀ i e, l[i]? = some e → p i e
 | 0, _ => ⟨[], rfl, fun i e h => by simp at h⟩
 | n + 1, key => by
  obtain ⟨l, h1, h2⟩ := list_of n (fun i hi => key i (by omega))
  obtain ⟨e, he⟩ := key n (by omega)
  refine ⟨l ++ [e], by simp [h1], fun i e' h => ?_⟩
  rcases Nat.lt_or_ge i l.length with hlt | hge
  ·rw [List.getElem?_append_left hlt] at h
   exact h2 i e' h
  ·have hil : i = l.length := by
    have := (List.getElem?_eq_some_iff.1 h).1
    simp at this
    omega
   subst hil
   simp at h
   subst h
   rw [h1]
   exact he
theorem getD_some {cs : List Value} {i : Nat} (h : i < cs.length) : cs[i]? = some (cs.getD i undef) := by
 rw [List.getD_eq_getElem?_getD, List.getElem?_eq_getElem h]
 rfl
section
variable {H : Type} {enc : TypeId × Value → H} {P : Program} {W : World} {base : Nat} {spare : Nat → Bool} {held : Bool}
theorem open_list {N n : Nat} {t e : TypeId} {ks : List Fld} {fuel : Nat} {cs : List Value} {x : DataW H × List MemPlace} (ht : P.underlying t = some (.slice e)) (hk : flat P n e = some ks) (hC : P.cellsOf e = ks.length)
  (h : DataW.trod enc P W base spare held fuel t cs = some x) (hN : Rows.uptoBulk x.1 ≤ N) :
  ∃ sv rows, cs = [sv] ∧ ListRd W sv ks.length rows ∧ rows.length ≤ N ∧ ∀ r, r ∈ rows → GoodR N ks r := by
 rcases open_slice ht h with ⟨rfl, _⟩ | ⟨a, len, cap, m, n', D, Pl, rfl, hb, hl, hm, hmm, rfl, hx⟩
 ·exact ⟨_, [], rfl, ⟨none, 0, rfl, fun _ => rfl, fun h => absurd rfl h⟩, Nat.zero_le _, fun r hr => nomatch hr⟩
 have hlm : len ≤ m := by rw [hmm]; split <;> omega
 have hB : Rows.uptoBulkAll ((List.range len).map D) + 1 ≤ N := by
  have e : Rows.uptoBulk (.slice ((List.range len).map D) ((List.range (m - len)).map fun j => D (len + j)) : DataW H) = Rows.uptoBulkAll ((List.range len).map D) + Rows.uptoBulkAll ((List.range (m - len)).map fun j => D (len + j)) + 1 := by simp [Rows.uptoBulk]
  have h2 : Rows.uptoBulk (.slice ((List.range len).map D) ((List.range (m - len)).map fun j => D (len + j)) : DataW H) ≤ N := hN
  rw [e] at h2
  omega
 have hlen : len ≤ N := by
  have := bulk_len ((List.range len).map D)
  rw [List.length_map, List.length_range] at this
  omega
 obtain ⟨rows, h1, h2⟩ := list_of (p := fun i r => (∀ (j : Nat) v, r[j]? = some v → W.cell? (a.add (i * ks.length + j)) = some v) ∧ GoodR N ks r) len (fun i hi => by
  obtain ⟨cs', hc, ht'⟩ := hx i (by omega)
  obtain ⟨_, hcl, hat⟩ := World.cells?_some hc
  have hD := bulk_mem (ds := (List.range len).map D) (d := D i) (List.mem_map.2 ⟨i, List.mem_range.2 hi, rfl⟩)
  obtain ⟨_, hg⟩ := trod_flat n e ks hk _ _ _ ht' (show Rows.uptoBulk (D i) ≤ N by omega)
  refine ⟨cs', fun j v hv => ?_, hcl.trans hC, hg⟩
  have hj := (List.getElem?_eq_some_iff.1 hv).1
  rw [← Go.Deep.add_add, ← hC, hat j (by omega), hv])
 subst h1
 refine ⟨_, rows, rfl, ⟨some a, cap, rfl, (fun h => nomatch h), fun _ => ⟨a, rfl, fun k r hr j v hv => (h2 k r hr).1 j v hv⟩⟩, hlen, fun r hr => ?_⟩
 obtain ⟨i, hi⟩ := List.mem_iff_getElem?.1 hr
 exact (h2 i r hi).2
structure Lying (W : World) (N : Nat) (cs : List Value) : Prop where
 len : cs.length = 26
 good : ∀ i, scalar i = true → ∀ v, cs[i]? = some v → GoodV N (kindOf i) v
 list : ∀ j fs, (j, fs) ∈ lists → ∃ sv rows, cs[j]? = some sv ∧ ListRd W sv fs.length rows ∧ rows.length ≤ N ∧ ∀ r, r ∈ rows → GoodR N fs r
theorem msg_lying {N : Nat} {fuel : Nat} {cs : List Value} {x : DataW H × List MemPlace} (h : DataW.trod enc Try.prog W base spare held fuel 32 cs = some x) (hN : Rows.uptoBulk x.1 ≤ N) : Lying W N cs := by
 obtain ⟨xs, n, rfl, rfl, hl, hxl, hf⟩ := DataW.trod_struct Try.underlying32 h
 have hlen : cs.length = 26 := hl.trans (by kernel_rfl)
 have hN' : Rows.uptoBulkAll (xs.map (·.1)) + 1 ≤ N := by rw [← bulk_agg]; exact hN
 have get : ∀ (j : Nat) (f : Field), DataW.trod enc Try.prog W base spare held n f.type ((cs.drop f.offset).take (Try.prog.cellsOf f.type)) = xs[j]? → j < xs.length → ∃ y, DataW.trod enc Try.prog W base spare held n f.type ((cs.drop f.offset).take (Try.prog.cellsOf f.type)) = some y ∧ Rows.uptoBulk y.1 ≤ N := by
  intro j f he hj
  rw [List.getElem?_eq_getElem hj] at he
  have := bulk_mem (List.mem_map_of_mem (f := (·.1)) (List.getElem_mem hj))
  exact ⟨_, he, by omega⟩
 have flatAt : ∀ (j : Nat) (f : Field) (ks : List Fld), DataW.trod enc Try.prog W base spare held n f.type ((cs.drop f.offset).take (Try.prog.cellsOf f.type)) = xs[j]? → j < xs.length → flat Try.prog 4 f.type = some ks → ∀ (i o : Nat) g v, ks[i]? = some g → f.offset + i = o → cs[o]? = some v → GoodV N g v := by
  intro j f ks he hj hk i o g v hi ho hv
  obtain ⟨y, hy, hb⟩ := get j f he hj
  obtain ⟨h1, h2⟩ := trod_flat 4 _ ks hk _ _ _ hy hb
  refine h2 i g v hi ?_
  have hil := (List.getElem?_eq_some_iff.1 hi).1
  rw [List.length_take] at h1
  rw [List.getElem?_take, if_pos (by omega), List.getElem?_drop, ho]
  exact hv
 have listAt : ∀ (j : Nat) (f : Field) (e : TypeId) (ks fs : List Fld), DataW.trod enc Try.prog W base spare held n f.type ((cs.drop f.offset).take (Try.prog.cellsOf f.type)) = xs[j]? → j < xs.length → Try.prog.underlying f.type = some (.slice e) → flat Try.prog 4 e = some ks → Try.prog.cellsOf e = ks.length → likeR ks fs = true → ∃ sv rows, cs[f.offset]? = some sv ∧ ListRd W sv fs.length rows ∧ rows.length ≤ N ∧ ∀ r, r ∈ rows → GoodR N fs r := by
  intro j f e ks fs he hj hu hk hC hlk
  obtain ⟨y, hy, hb⟩ := get j f he hj
  obtain ⟨sv, rows, h1, h2, h3, h4⟩ := open_list hu hk hC hy hb
  refine ⟨sv, rows, ?_, likeR_len hlk ▸ h2, h3, fun r hr => (h4 r hr).like hlk⟩
  have h5 : ((cs.drop f.offset).take (Try.prog.cellsOf f.type))[0]? = some sv := by rw [h1]; rfl
  rw [List.getElem?_take] at h5
  split at h5
  ·rw [List.getElem?_drop, Nat.add_zero] at h5
   exact h5
  ·cases h5
 have hxs : xs.length = 20 := hxl
 refine ⟨hlen, fun i hi v hv => ?_, fun j fs hj => ?_⟩
 ·match i, hi with
  | 0, _ => exact flatAt 0 _ [.num 0 0] (hf 0 _ rfl) (by omega) (by kernel_rfl) 0 0 _ v rfl rfl hv
  | 1, _ => exact flatAt 1 _ [.num 0 0] (hf 1 _ rfl) (by omega) (by kernel_rfl) 0 1 _ v rfl rfl hv
  | 2, _ => exact flatAt 2 _ [.num 0 0] (hf 2 _ rfl) (by omega) (by kernel_rfl) 0 2 _ v rfl rfl hv
  | 3, hi => exact absurd hi (by decide)
  | 4, _ => exact flatAt 4 _ [.num 0 0, .num 0 0] (hf 4 _ rfl) (by omega) (by kernel_rfl) 0 4 _ v rfl rfl hv
  | 5, _ => exact flatAt 4 _ [.num 0 0, .num 0 0] (hf 4 _ rfl) (by omega) (by kernel_rfl) 1 5 _ v rfl rfl hv
  | 6, _ => exact flatAt 5 _ [.num 0 0] (hf 5 _ rfl) (by omega) (by kernel_rfl) 0 6 _ v rfl rfl hv
  | 7, _ => exact flatAt 6 _ [.num 0 0] (hf 6 _ rfl) (by omega) (by kernel_rfl) 0 7 _ v rfl rfl hv
  | 8, hi => exact absurd hi (by decide)
  | 9, hi => exact absurd hi (by decide)
  | 10, hi => exact absurd hi (by decide)
  | 11, _ => exact flatAt 10 _ [.num 0 0, .num 0 0] (hf 10 _ rfl) (by omega) (by kernel_rfl) 0 11 _ v rfl rfl hv
  | 12, _ => exact flatAt 10 _ [.num 0 0, .num 0 0] (hf 10 _ rfl) (by omega) (by kernel_rfl) 1 12 _ v rfl rfl hv
  | 13, _ => exact flatAt 11 _ [.flag] (hf 11 _ rfl) (by omega) (by kernel_rfl) 0 13 _ v rfl rfl hv
  | 14, _ => exact flatAt 12 _ [.num 0 0] (hf 12 _ rfl) (by omega) (by kernel_rfl) 0 14 _ v rfl rfl hv
  | 15, _ => exact flatAt 13 _ [.num 0 0] (hf 13 _ rfl) (by omega) (by kernel_rfl) 0 15 _ v rfl rfl hv
  | 16, _ => exact flatAt 14 _ [.text 0] (hf 14 _ rfl) (by omega) (by kernel_rfl) 0 16 _ v rfl rfl hv
  | 17, _ => exact flatAt 15 _ [.flag] (hf 15 _ rfl) (by omega) (by kernel_rfl) 0 17 _ v rfl rfl hv
  | 18, _ => exact flatAt 16 _ [.text 0] (hf 16 _ rfl) (by omega) (by kernel_rfl) 0 18 _ v rfl rfl hv
  | 19, _ => exact flatAt 17 _ [.num 0 0, .num 0 0] (hf 17 _ rfl) (by omega) (by kernel_rfl) 0 19 _ v rfl rfl hv
  | 20, _ => exact flatAt 17 _ [.num 0 0, .num 0 0] (hf 17 _ rfl) (by omega) (by kernel_rfl) 1 20 _ v rfl rfl hv
  | 21, _ => exact flatAt 18 _ [.num 0 0] (hf 18 _ rfl) (by omega) (by kernel_rfl) 0 21 _ v rfl rfl hv
  | 22, _ => exact flatAt 19 _ [.num 0 0, .num 0 0, .flag, .text 0] (hf 19 _ rfl) (by omega) (by kernel_rfl) 0 22 _ v rfl rfl hv
  | 23, _ => exact flatAt 19 _ [.num 0 0, .num 0 0, .flag, .text 0] (hf 19 _ rfl) (by omega) (by kernel_rfl) 1 23 _ v rfl rfl hv
  | 24, _ => exact flatAt 19 _ [.num 0 0, .num 0 0, .flag, .text 0] (hf 19 _ rfl) (by omega) (by kernel_rfl) 2 24 _ v rfl rfl hv
  | 25, _ => exact flatAt 19 _ [.num 0 0, .num 0 0, .flag, .text 0] (hf 19 _ rfl) (by omega) (by kernel_rfl) 3 25 _ v rfl rfl hv
  | i + 26, hi => exfalso; unfold scalar at hi; rw [Bool.and_eq_true] at hi; have := of_decide_eq_true hi.1; omega
 ·simp only [lists, List.mem_cons, Prod.mk.injEq, List.not_mem_nil, or_false] at hj
  rcases hj with ⟨rfl, rfl⟩ | ⟨rfl, rfl⟩ | ⟨rfl, rfl⟩ | ⟨rfl, rfl⟩
  ·exact listAt 3 _ 66 [.num 0 0, .num 0 0, .num 0 0, .num 0 0, .text 0, .flag, .text 0] entryF (hf 3 _ rfl) (by omega) Try.underlying22 (by kernel_rfl) (by kernel_rfl) rfl
  ·exact listAt 7 _ 68 [.text 0, .num 0 0, .num 0 0, .flag, .text 0] pairF (hf 7 _ rfl) (by omega) Try.underlying25 (by kernel_rfl) (by kernel_rfl) rfl
  ·exact listAt 8 _ 70 [.num 0 0, .num 0 0, .num 0 0, .num 0 0] seenF (hf 8 _ rfl) (by omega) Try.underlying26 (by kernel_rfl) (by kernel_rfl) rfl
  ·exact listAt 9 _ 72 [.num 0 0, .num 0 0, .flag] epochF (hf 9 _ rfl) (by omega) Try.underlying27 (by kernel_rfl) (by kernel_rfl) rfl
def msgOf (cs : List Value) (L : Nat → List (List Value)) : M := ⟨fun i => if scalar i = true then cs.getD i undef else undef, L⟩
structure Neat (m : M) : Prop where
 off : ∀ i, scalar i = false → m.c i = undef
 none : ∀ j, (∀ fs, (j, fs) ∉ lists) → m.L j = []
 wf : ∀ i n, m.c i = .int .i64 n → (Lit.int .i64 n).wf = true
 wfs : ∀ j r, r ∈ m.L j → ∀ v, v ∈ r → ∀ n, v = .int .i64 n → (Lit.int .i64 n).wf = true
theorem list26 {cs : List Value} (h : cs.length = 26) : cs = [cs.getD 0 undef, cs.getD 1 undef, cs.getD 2 undef, cs.getD 3 undef, cs.getD 4 undef, cs.getD 5 undef, cs.getD 6 undef, cs.getD 7 undef, cs.getD 8 undef, cs.getD 9 undef, cs.getD 10 undef, cs.getD 11 undef, cs.getD 12 undef, cs.getD 13 undef, cs.getD 14 undef, cs.getD 15 undef, cs.getD 16 undef, cs.getD 17 undef, cs.getD 18 undef, cs.getD 19 undef, cs.getD 20 undef, cs.getD 21 undef, cs.getD 22 undef, cs.getD 23 undef, cs.getD 24 undef, cs.getD 25 undef] := by
 apply List.ext_getElem?
 intro i
 rcases Nat.lt_or_ge i 26 with hi | hi
 ·match i, hi with
  | 0, _ => exact getD_some (by omega)
  | 1, _ => exact getD_some (by omega)
  | 2, _ => exact getD_some (by omega)
  | 3, _ => exact getD_some (by omega)
  | 4, _ => exact getD_some (by omega)
  | 5, _ => exact getD_some (by omega)
  | 6, _ => exact getD_some (by omega)
  | 7, _ => exact getD_some (by omega)
  | 8, _ => exact getD_some (by omega)
  | 9, _ => exact getD_some (by omega)
  | 10, _ => exact getD_some (by omega)
  | 11, _ => exact getD_some (by omega)
  | 12, _ => exact getD_some (by omega)
  | 13, _ => exact getD_some (by omega)
  | 14, _ => exact getD_some (by omega)
  | 15, _ => exact getD_some (by omega)
  | 16, _ => exact getD_some (by omega)
  | 17, _ => exact getD_some (by omega)
  | 18, _ => exact getD_some (by omega)
  | 19, _ => exact getD_some (by omega)
  | 20, _ => exact getD_some (by omega)
  | 21, _ => exact getD_some (by omega)
  | 22, _ => exact getD_some (by omega)
  | 23, _ => exact getD_some (by omega)
  | 24, _ => exact getD_some (by omega)
  | 25, _ => exact getD_some (by omega)
  | i + 26, hi => omega
 ·rw [List.getElem?_eq_none (by omega), List.getElem?_eq_none (by simpa using hi)]
end
end Go.Proofs.Ytcbehfbfaonanaa.Wr
end
section
namespace Go.Proofs.Ytcbehfbfaonanaa.Wr
open Go.RowKit Go.Proofs.YtcbehfbfaonanaaW.PrintWords Go.Proofs.YtcbehfbfaonanaaW.PrintLast Go.Proofs.YtcbehfbfaonanaaW.PrintMore Go.Proofs.Ytcbehfbfaonanaa.Pk
set_option linter.unusedVariables false
set_option linter.unusedSimpArgs false
def lst (p c : Nat) : Array Bool := ((List.range 50).map fun i => if i = 48 ∨ i = 49 then false else if i = 6 then c.testBit 0 else if i = 16 then c.testBit 1 else if i = 20 then c.testBit 2 else if i = 24 then c.testBit 3 else if i = 9 then decide (0 < p) else if i = 19 then decide (1 < p) else if i = 23 then decide (2 < p) else if i = 27 then decide (3 < p) else true).toArray
theorem run_load_mid {P : Program} {o : Oper} {a : Act} {W : World} {T : TypeId} {x : Operand} (ho : o.op = .load T x) {g off : Nat} (hx : a.eval x = .pointer (some ⟨g, off, none⟩)) (cells : List Value) (hc : ∀ j v, cells[j]? = some v → W.cell? ⟨g, off + j, none⟩ = some v)
  {d : TypeDesc} (hu : P.underlying T = some d) (hd : d.isRow = true) (hi : (P.info? T).map (·.size) = some cells.length) : (execOp a.eval o).run P W = .ok (.value (.agg cells.toArray)) W := by
 have h := run_loadVar_mid (P := P) W g off T cells d hc hu hd hi
 unfold execOp
 simp only [ho, hx, Instr.loadAt, Instr.sureAddr, Sem.run_bind, Sem.run_pure, Result.andThen_ok, h]
theorem mid_cell (c sv : Nat → Value) (off n : Nat) (h : (List.range n).all (fun j => scalar (off + j)) = true) (j : Nat) (v : Value) (hj : ((List.range n).map fun j => c (off + j))[j]? = some v) : (msgC c sv)[off + j]? = some v := by
 have hjn : j < n := by
  have := (List.getElem?_eq_some_iff.1 hj).1
  simpa using this
 rw [List.getElem?_map, List.getElem?_range hjn] at hj
 injection hj with hj
 subst hj
 exact msgC_scalar c sv _ (List.all_eq_true.1 h j (by simpa using hjn))
def LightM (m : M) : Prop := (m.L 3).length ≤ 1000 ∧ (m.L 8).length ≤ 1000 ∧ (m.L 9).length ≤ 1000 ∧ (m.L 10).length ≤ 1000
theorem light_c (w : World) (v : Value) (m : M) (sv : Nat → Value) (h : MsgRd w v m sv) :
  Calls Try.prog 9 #[v] w (IsEqB (LightM m) w) := by
 obtain rfl := h.agg
 obtain ⟨A3, c3, s3, _⟩ := h.rd 3 entryF (by simp [lists])
 obtain ⟨A8, c8, s8, _⟩ := h.rd 8 pairF (by simp [lists])
 obtain ⟨A9, c9, s9, _⟩ := h.rd 9 seenF (by simp [lists])
 obtain ⟨A10, c10, s10, _⟩ := h.rd 10 epochF (by simp [lists])
 unfold LightM
 generalize (m.L 3).length = n3 at *
 generalize (m.L 8).length = n8 at *
 generalize (m.L 9).length = n9 at *
 generalize (m.L 10).length = n10 at *
 clear h
 have S3 := aK s3
 have S8 := aK s8
 have S9 := aK s9
 have S10 := aK s10
 clear s3 s8 s9 s10
 have key : ∀ n : Nat, (n ≤ 1000 ∧ decide ((n : Int) ≤ 1000) = true) ∨ (¬ n ≤ 1000 ∧ decide ((n : Int) ≤ 1000) = false) := fun n => by
  by_cases h : n ≤ 1000
  ·exact .inl ⟨h, by simpa using (by omega : (n : Int) ≤ 1000)⟩
  ·exact .inr ⟨h, by simpa using (by omega : ¬ (n : Int) ≤ 1000)⟩
 rcases key n3 with ⟨k3, d3⟩ | ⟨k3, d3⟩ <;> rcases key n8 with ⟨k8, d8⟩ | ⟨k8, d8⟩ <;> rcases key n9 with ⟨k9, d9⟩ | ⟨k9, d9⟩ <;> rcases key n10 with ⟨k10, d10⟩ | ⟨k10, d10⟩ <;> clear key <;>
 ·go_enter Try.func9, Try.ntmps9
  go_upto_region 1 with (first | ((with_reducible refine gate_dst (N := 1) rfl ?_); refine box_row rfl 32 (.tmp 0) rfl (msgC m.c sv) rfl ?_; intro g1 w1 hg hbox hb; have HB1 := aK hb; have H3 : w1.cell? ⟨g1, 3, none⟩ = some (.slice A3 n3 c3) := (blk_cell hbox 3).trans (by rw [← S3.out]; rfl); have H8 : w1.cell? ⟨g1, 8, none⟩ = some (.slice A8 n8 c8) := (blk_cell hbox 8).trans (by rw [← S8.out]; rfl); have H9 : w1.cell? ⟨g1, 9, none⟩ = some (.slice A9 n9 c9) := (blk_cell hbox 9).trans (by rw [← S9.out]; rfl); have H10 : w1.cell? ⟨g1, 10, none⟩ = some (.slice A10 n10 c10) := (blk_cell hbox 10).trans (by rw [← S10.out]; rfl); clear hb hbox hg))
  go_wp2
  go_ret
  exact ⟨_, rfl, by simp [k3, k8, k9, k10], HB1.out⟩
end Go.Proofs.Ytcbehfbfaonanaa.Wr
end
section
namespace Go.Proofs.Ytcbehfbfaonanaa.Wr
open Go.RowKit Go.Proofs.YtcbehfbfaonanaaW.PrintWords Go.Proofs.YtcbehfbfaonanaaW.PrintLast Go.Proofs.YtcbehfbfaonanaaW.PrintMore Go.Proofs.Ytcbehfbfaonanaa.Pk
open Go.Proofs.Ytcbehfbfaonanaa.PFr (sealL openL ansE Ok)
set_option linter.unusedVariables false
set_option linter.unusedSimpArgs false
def OwnB (W : World) (base : Nat) (v : Value) (l : List Int) : Prop := W.ownsRow base 5 1 v l.length (nums .u8 l)
theorem OwnB.lit (W : World) : OwnB (W.alloc (.cells #[] 5 (0, 0))) W.heap.size (.slice (some ⟨W.heap.size, 0, none⟩) 0 0) [] :=
 World.ownsRow_lit (base := W.heap.size) (e := 5) (size := 1) W #[] 0 (Nat.le_refl _) (by omega) rfl
theorem OwnB.rd {W : World} {base : Nat} {v : Value} {l : List Int} (h : OwnB W base v l) : BRd W v l := by
 rcases h.2 with ⟨rfl, h0⟩ | ⟨g, cap, cur, e, hb, hg, hc, _⟩
 ·obtain rfl : l = [] := List.length_eq_zero_iff.1 h0
  exact ⟨none, 0, rfl, ⟨rfl, by simp, fun h => absurd h (by simp)⟩, Nat.le_refl _⟩
 ·exact brd_own e h hc
theorem append_bytes {ops : Array Oper} {rest : List Oper} {o : Oper} {a : Act} {Q : Exit → Act → World → Prop} {w0 W : World} (base : Nat) (hgd : o.guard = none) (s x : Operand) (ho : o.op = .call { callee := .builtin .append, args := #[s, x], argTypes := #[37, 37] })
  (v sv : Value) (xs l : List Int) (hs : a.eval s = v) (hx : a.eval x = sv) (HO : OwnB W base v xs) (HR : BRd W sv l) (HB : Below base w0 W) (hbase : base ≤ W.heap.size) (hl : xs.length + l.length ≤ 140737488355328)
  (h : ∀ v1 w1, OwnB w1 base v1 (xs ++ l) → Below base w0 w1 → wpList Try.prog ops Q rest (a.put o.dst v1) w1) : wpList Try.prog ops Q (o :: rest) a W := by
 obtain ⟨A, c, rfl, hC, hc⟩ := HR
 exact print_append_row (w0 := w0) base hgd s x 37 5 .u8 1 ho Try.underlying37 info_u8 (by decide) v xs l A l.length c hs hx HO (reads_of_c hC) HB hbase (by omega) (fun v1 w1 h1 h2 _ _ => h v1 w1 h1 h2)
def IsYes (w : World) (e : Ending) (w' : World) : Prop := e = .returned (.bool true) ∧ Below w.heap.size w w'
theorem awakeC (w : World) : Calls Try.prog 8 #[] w (IsYes w) := isB_true trivial (awake_c w)
end Go.Proofs.Ytcbehfbfaonanaa.Wr
end
section
namespace Go.Proofs.Ytcbehfbfaonanaa.PFr
open Go.RowKit Go.Proofs.YtcbehfbfaonanaaW.PrintWords Go.Proofs.YtcbehfbfaonanaaW.PrintLast Go.Proofs.YtcbehfbfaonanaaW.PrintMore
set_option linter.unusedVariables false
set_option linter.unusedSimpArgs false
def x2 (a b : Int) : Int := Go.bits .xor .u8 a b
end Go.Proofs.Ytcbehfbfaonanaa.PFr
end
section
namespace Go.Proofs.Ytcbehfbfaonanaa.Wr
open Go.RowKit Go.Proofs.YtcbehfbfaonanaaW.PrintWords Go.Proofs.YtcbehfbfaonanaaW.PrintLast Go.Proofs.YtcbehfbfaonanaaW.PrintMore Go.Proofs.Ytcbehfbfaonanaa.Pk
open Go.Proofs.Ytcbehfbfaonanaa.PFr (sealL openL ansE Ok)
set_option linter.unusedVariables false
set_option linter.unusedSimpArgs false
theorem info_rmsg : (Try.prog.info? 32).map (·.size) = some 26 := by kernel_rfl
end Go.Proofs.Ytcbehfbfaonanaa.Wr
end
section
namespace Go.Proofs.Ytcbehfbfaonanaa.Wr
open Go.RowKit Go.Proofs.YtcbehfbfaonanaaW.PrintWords Go.Proofs.YtcbehfbfaonanaaW.PrintLast Go.Proofs.YtcbehfbfaonanaaW.PrintMore Go.Proofs.Ytcbehfbfaonanaa.Pk
set_option linter.unusedVariables false
set_option linter.unusedSimpArgs false
theorem zero_rmsg (W : World) : (zeroValue 32).run Try.prog W = .ok (.agg (msgC zeroC nils)) W := (zero_of_info (n := 26) (by kernel_rfl)).1 W
theorem run_ld {P : Program} {o : Oper} {ρ : Operand → Value} {W : World} {T : TypeId} {x : Operand} (ho : o.op = .load T x) {g off : Nat} (hx : ρ x = .pointer (some ⟨g, off, none⟩)) {v : Value} (hc : W.cell? ⟨g, off, none⟩ = some v)
  {d : TypeDesc} (hu : P.underlying T = some d) (hd : d.isRow = false) : (execOp ρ o).run P W = .ok (.value v) W := by
 unfold execOp
 simp only [ho, hx, Instr.loadAt, Instr.sureAddr, Sem.run_bind, Sem.run_pure, Result.andThen_ok]
 unfold loadVar isAgg
 simp only [Sem.run_bind, run_underlying hu, Result.andThen_ok]
 cases d <;> first | (exact Bool.noConfusion hd) | (simp [load, hc]; done) | (go_simp; done)
theorem TuI : Try.prog.underlying 3 = some (.int .i64) := Try.underlying3
theorem TuB : Try.prog.underlying 4 = some .bool := Try.underlying4
theorem TuX : Try.prog.underlying 9 = some .string := Try.underlying9
theorem TuN : Try.prog.underlying 28 = some (.int .i64) := Try.underlying28
theorem TuE : Try.prog.underlying 22 = some (.slice 66) := Try.underlying22
theorem TuP : Try.prog.underlying 25 = some (.slice 68) := Try.underlying25
theorem TuS : Try.prog.underlying 26 = some (.slice 70) := Try.underlying26
theorem TuT : Try.prog.underlying 27 = some (.slice 72) := Try.underlying27
theorem told_run {a : Act} {W : World} {m : M} {sv' : Nat → Value} (hT : Typed m) (hs : ∀ j fs, (j, fs) ∈ lists → ∃ A n c, sv' j = .slice A n c) (h4 : a.eval (.tmp 4) = m.c 0) (h6 : a.eval (.tmp 6) = m.c 1) (h8 : a.eval (.tmp 8) = m.c 2) (h12 : a.eval (.tmp 10) = sv' 3) (h14 : a.eval (.tmp 12) = .agg #[m.c 4, m.c 5]) (h16 : a.eval (.tmp 14) = m.c 6) (h18 : a.eval (.tmp 16) = m.c 7) (h22 : a.eval (.tmp 18) = sv' 8) (h26 : a.eval (.tmp 20) = sv' 9) (h30 : a.eval (.tmp 22) = sv' 10) (h32 : a.eval (.tmp 24) = .agg #[m.c 11, m.c 12]) (h34 : a.eval (.tmp 26) = m.c 13) (h36 : a.eval (.tmp 28) = m.c 14) (h38 : a.eval (.tmp 30) = m.c 15) (h40 : a.eval (.tmp 32) = m.c 16) (h42 : a.eval (.tmp 34) = m.c 17) (h44 : a.eval (.tmp 36) = m.c 18) (h46 : a.eval (.tmp 38) = .agg #[m.c 19, m.c 20]) (h48 : a.eval (.tmp 40) = m.c 21) (h50 : a.eval (.tmp 42) = .agg #[m.c 22, m.c 23, m.c 24, m.c 25]) :
  (execOp a.eval { dst := some 43, op := Go.Op.build 32 #[(0, Go.Operand.tmp 4), (1, Go.Operand.tmp 6), (2, Go.Operand.tmp 8), (3, Go.Operand.tmp 10), (4, Go.Operand.tmp 12), (5, Go.Operand.tmp 14), (6, Go.Operand.tmp 16), (7, Go.Operand.tmp 18), (8, Go.Operand.tmp 20), (9, Go.Operand.tmp 22), (10, Go.Operand.tmp 24), (11, Go.Operand.tmp 26), (12, Go.Operand.tmp 28), (13, Go.Operand.tmp 30), (14, Go.Operand.tmp 32), (15, Go.Operand.tmp 34), (16, Go.Operand.tmp 36), (17, Go.Operand.tmp 38), (18, Go.Operand.tmp 40), (19, Go.Operand.tmp 42)], type := 32, pos := "law.go:26", after := #[{ on := 1, ground := Go.Ground.data }, { on := 3, ground := Go.Ground.data }, { on := 5, ground := Go.Ground.data }, { on := 7, ground := Go.Ground.data }, { on := 9, ground := Go.Ground.data }, { on := 11, ground := Go.Ground.data }, { on := 13, ground := Go.Ground.data }, { on := 15, ground := Go.Ground.data }, { on := 17, ground := Go.Ground.data }, { on := 19, ground := Go.Ground.data }, { on := 21, ground := Go.Ground.data }, { on := 23, ground := Go.Ground.data }, { on := 25, ground := Go.Ground.data }, { on := 27, ground := Go.Ground.data }, { on := 29, ground := Go.Ground.data }, { on := 31, ground := Go.Ground.data }, { on := 33, ground := Go.Ground.data }, { on := 35, ground := Go.Ground.data }, { on := 37, ground := Go.Ground.data }, { on := 39, ground := Go.Ground.data }], guard := none }).run Try.prog W = .ok (.value (.agg (msgC m.c sv'))) W := by
 obtain ⟨x0, e0⟩ : ∃ x, m.c 0 = .int .i64 x := hT 0 rfl
 obtain ⟨x1, e1⟩ : ∃ x, m.c 1 = .int .i64 x := hT 1 rfl
 obtain ⟨x2, e2⟩ : ∃ x, m.c 2 = .int .i64 x := hT 2 rfl
 obtain ⟨x4, e4⟩ : ∃ x, m.c 4 = .int .i64 x := hT 4 rfl
 obtain ⟨x5, e5⟩ : ∃ x, m.c 5 = .int .i64 x := hT 5 rfl
 obtain ⟨x6, e6⟩ : ∃ x, m.c 6 = .int .i64 x := hT 6 rfl
 obtain ⟨x7, e7⟩ : ∃ x, m.c 7 = .int .i64 x := hT 7 rfl
 obtain ⟨x11, e11⟩ : ∃ x, m.c 11 = .int .i64 x := hT 11 rfl
 obtain ⟨x12, e12⟩ : ∃ x, m.c 12 = .int .i64 x := hT 12 rfl
 obtain ⟨x13, e13⟩ : ∃ x, m.c 13 = .bool x := hT 13 rfl
 obtain ⟨x14, e14⟩ : ∃ x, m.c 14 = .int .i64 x := hT 14 rfl
 obtain ⟨x15, e15⟩ : ∃ x, m.c 15 = .int .i64 x := hT 15 rfl
 obtain ⟨x16, e16⟩ : ∃ x, m.c 16 = .string x := hT 16 rfl
 obtain ⟨x17, e17⟩ : ∃ x, m.c 17 = .bool x := hT 17 rfl
 obtain ⟨x18, e18⟩ : ∃ x, m.c 18 = .string x := hT 18 rfl
 obtain ⟨x19, e19⟩ : ∃ x, m.c 19 = .int .i64 x := hT 19 rfl
 obtain ⟨x20, e20⟩ : ∃ x, m.c 20 = .int .i64 x := hT 20 rfl
 obtain ⟨x21, e21⟩ : ∃ x, m.c 21 = .int .i64 x := hT 21 rfl
 obtain ⟨x22, e22⟩ : ∃ x, m.c 22 = .int .i64 x := hT 22 rfl
 obtain ⟨x23, e23⟩ : ∃ x, m.c 23 = .int .i64 x := hT 23 rfl
 obtain ⟨x24, e24⟩ : ∃ x, m.c 24 = .bool x := hT 24 rfl
 obtain ⟨x25, e25⟩ : ∃ x, m.c 25 = .string x := hT 25 rfl
 obtain ⟨A3, n3, c3, s3⟩ := hs 3 entryF (by simp [lists])
 obtain ⟨A8, n8, c8, s8⟩ := hs 8 pairF (by simp [lists])
 obtain ⟨A9, n9, c9, s9⟩ := hs 9 seenF (by simp [lists])
 obtain ⟨A10, n10, c10, s10⟩ := hs 10 epochF (by simp [lists])
 simp only [e0, e1, e2, e4, e5, e6, e7, e11, e12, e13, e14, e15, e16, e17, e18, e19, e20, e21, e22, e23, e24, e25, s3, s8, s9, s10] at h4 h6 h8 h12 h14 h16 h18 h22 h26 h30 h32 h34 h36 h38 h40 h42 h44 h46 h48 h50
 simp only [msgC, e0, e1, e2, e4, e5, e6, e7, e11, e12, e13, e14, e15, e16, e17, e18, e19, e20, e21, e22, e23, e24, e25, s3, s8, s9, s10]
 clear hT hs e0 e1 e2 e4 e5 e6 e7 e11 e12 e13 e14 e15 e16 e17 e18 e19 e20 e21 e22 e23 e24 e25 s3 s8 s9 s10
 unfold execOp
 simp only [List.map_toArray, List.map_cons, List.map_nil, h4, h6, h8, h12, h14, h16, h18, h22, h26, h30, h32, h34, h36, h38, h40, h42, h44, h46, h48, h50]
 go_simp
theorem told_c (w : World) (v : Value) (m : M) (sv : Nat → Value) (h : MsgRd w v m sv) : Calls Try.prog 16 #[v] w (fun e w' => e = .returned (.agg (msgC m.c sv)) ∧ Below w.heap.size w w') := by
 have HT := aK h.typed
 have HO := aK h.one
 have HS := aK (fun j fs (hj : (j, fs) ∈ lists) => (by obtain ⟨A, c, e, _⟩ := h.rd j fs hj; exact ⟨A, _, c, e⟩ : ∃ A n c, sv j = .slice A n c))
 obtain rfl := h.agg
 clear h
 go_enter Try.func16, Try.ntmps16
 go_wp2_with (first | ((with_reducible refine gate_dst (N := 1) rfl ?_); refine box_row rfl 35 (.tmp 0) rfl (msgC m.c sv) rfl ?_; intro g1 w1 hg hbox hb; have HX1 := aK hbox; have HB1 := aK hb; clear hg hbox hb) | ((with_reducible refine gate_dst (N := 2) rfl ?_); refine alloc_row rfl 32 rfl _ (zero_rmsg _) ?_; intro g2 w2 hg hbox hb; have HX2 := aK hbox; have HX12 := aK ((hb.block g1 (blk_lt HX1.out)).trans HX1.out); have HB2 := aK (HB1.out.trans (hb.mono HB1.out.size)); have HG2 := aK (show w.heap.size ≤ g2 from by rw [hg]; exact HB1.out.size); clear hg hbox hb) | ((with_reducible refine gate_dst (N := 4) rfl ?_); refine Kd.event_run rfl (v := m.c 0) (w1 := w2) (run_ld rfl (g := g1) (off := 0) rfl ((blk_cell HX12.out 0).trans (rfl : _ = some (m.c 0))) (TuI) rfl) ?_) | ((with_reducible refine gate_dst (N := 6) rfl ?_); refine Kd.event_run rfl (v := m.c 1) (w1 := w2) (run_ld rfl (g := g1) (off := 1) rfl ((blk_cell HX12.out 1).trans (rfl : _ = some (m.c 1))) (TuI) rfl) ?_) | ((with_reducible refine gate_dst (N := 8) rfl ?_); refine Kd.event_run rfl (v := m.c 2) (w1 := w2) (run_ld rfl (g := g1) (off := 2) rfl ((blk_cell HX12.out 2).trans (rfl : _ = some (m.c 2))) (TuI) rfl) ?_) | ((with_reducible refine gate_dst (N := 10) rfl ?_); refine Kd.event_run rfl (v := sv 3) (w1 := w2) (run_ld rfl (g := g1) (off := 3) rfl ((blk_cell HX12.out 3).trans (rfl : _ = some (sv 3))) (TuE) rfl) ?_) | ((with_reducible refine gate_dst (N := 12) rfl ?_); refine Kd.event_run rfl (v := .agg #[m.c 4, m.c 5]) (w1 := w2) (run_load_mid rfl (g := g1) (off := 4) rfl [m.c 4, m.c 5] (fun j v hj => (blk_cell HX12.out (4 + j)).trans (mid_cell m.c sv 4 2 (by decide) j v hj)) Try.underlying24 rfl (by kernel_rfl)) ?_) | ((with_reducible refine gate_dst (N := 14) rfl ?_); refine Kd.event_run rfl (v := m.c 6) (w1 := w2) (run_ld rfl (g := g1) (off := 6) rfl ((blk_cell HX12.out 6).trans (rfl : _ = some (m.c 6))) (TuI) rfl) ?_) | ((with_reducible refine gate_dst (N := 16) rfl ?_); refine Kd.event_run rfl (v := m.c 7) (w1 := w2) (run_ld rfl (g := g1) (off := 7) rfl ((blk_cell HX12.out 7).trans (rfl : _ = some (m.c 7))) (TuI) rfl) ?_) | ((with_reducible refine gate_dst (N := 18) rfl ?_); refine Kd.event_run rfl (v := sv 8) (w1 := w2) (run_ld rfl (g := g1) (off := 8) rfl ((blk_cell HX12.out 8).trans (rfl : _ = some (sv 8))) (TuP) rfl) ?_) | ((with_reducible refine gate_dst (N := 20) rfl ?_); refine Kd.event_run rfl (v := sv 9) (w1 := w2) (run_ld rfl (g := g1) (off := 9) rfl ((blk_cell HX12.out 9).trans (rfl : _ = some (sv 9))) (TuS) rfl) ?_) | ((with_reducible refine gate_dst (N := 22) rfl ?_); refine Kd.event_run rfl (v := sv 10) (w1 := w2) (run_ld rfl (g := g1) (off := 10) rfl ((blk_cell HX12.out 10).trans (rfl : _ = some (sv 10))) (TuT) rfl) ?_) | ((with_reducible refine gate_dst (N := 24) rfl ?_); refine Kd.event_run rfl (v := .agg #[m.c 11, m.c 12]) (w1 := w2) (run_load_mid rfl (g := g1) (off := 11) rfl [m.c 11, m.c 12] (fun j v hj => (blk_cell HX12.out (11 + j)).trans (mid_cell m.c sv 11 2 (by decide) j v hj)) Try.underlying24 rfl (by kernel_rfl)) ?_) | ((with_reducible refine gate_dst (N := 26) rfl ?_); refine Kd.event_run rfl (v := m.c 13) (w1 := w2) (run_ld rfl (g := g1) (off := 13) rfl ((blk_cell HX12.out 13).trans (rfl : _ = some (m.c 13))) (TuB) rfl) ?_) | ((with_reducible refine gate_dst (N := 28) rfl ?_); refine Kd.event_run rfl (v := m.c 14) (w1 := w2) (run_ld rfl (g := g1) (off := 14) rfl ((blk_cell HX12.out 14).trans (rfl : _ = some (m.c 14))) (TuI) rfl) ?_) | ((with_reducible refine gate_dst (N := 30) rfl ?_); refine Kd.event_run rfl (v := m.c 15) (w1 := w2) (run_ld rfl (g := g1) (off := 15) rfl ((blk_cell HX12.out 15).trans (rfl : _ = some (m.c 15))) (TuI) rfl) ?_) | ((with_reducible refine gate_dst (N := 32) rfl ?_); refine Kd.event_run rfl (v := m.c 16) (w1 := w2) (run_ld rfl (g := g1) (off := 16) rfl ((blk_cell HX12.out 16).trans (rfl : _ = some (m.c 16))) (TuX) rfl) ?_) | ((with_reducible refine gate_dst (N := 34) rfl ?_); refine Kd.event_run rfl (v := m.c 17) (w1 := w2) (run_ld rfl (g := g1) (off := 17) rfl ((blk_cell HX12.out 17).trans (rfl : _ = some (m.c 17))) (TuB) rfl) ?_) | ((with_reducible refine gate_dst (N := 36) rfl ?_); refine Kd.event_run rfl (v := m.c 18) (w1 := w2) (run_ld rfl (g := g1) (off := 18) rfl ((blk_cell HX12.out 18).trans (rfl : _ = some (m.c 18))) (TuX) rfl) ?_) | ((with_reducible refine gate_dst (N := 38) rfl ?_); refine Kd.event_run rfl (v := .agg #[m.c 19, m.c 20]) (w1 := w2) (run_load_mid rfl (g := g1) (off := 19) rfl [m.c 19, m.c 20] (fun j v hj => (blk_cell HX12.out (19 + j)).trans (mid_cell m.c sv 19 2 (by decide) j v hj)) Try.underlying24 rfl (by kernel_rfl)) ?_) | ((with_reducible refine gate_dst (N := 40) rfl ?_); refine Kd.event_run rfl (v := m.c 21) (w1 := w2) (run_ld rfl (g := g1) (off := 21) rfl ((blk_cell HX12.out 21).trans (rfl : _ = some (m.c 21))) (TuN) rfl) ?_) | ((with_reducible refine gate_dst (N := 42) rfl ?_); refine Kd.event_run rfl (v := .agg #[m.c 22, m.c 23, m.c 24, m.c 25]) (w1 := w2) (run_load_mid rfl (g := g1) (off := 22) rfl [m.c 22, m.c 23, m.c 24, m.c 25] (fun j v hj => (blk_cell HX12.out (22 + j)).trans (mid_cell m.c sv 22 4 (by decide) j v hj)) Try.underlying30 rfl (by kernel_rfl)) ?_) | ((with_reducible refine gate_dst (N := 43) rfl ?_); refine Kd.event_run rfl (v := .agg (msgC m.c sv)) (w1 := w2) (told_run HT.out HS.out rfl rfl rfl rfl rfl rfl rfl rfl rfl rfl rfl rfl rfl rfl rfl rfl rfl rfl rfl rfl) ?_) | ((with_reducible refine gate_store (t := 32) (p := 2) rfl ?_); refine store_row rfl 32 (.tmp 2) (.tmp 43) rfl g2 rfl (msgC m.c sv) _ rfl 32 HX2.out rfl info_rmsg HO.out ?_; intro w3 hX hO; have HX3 := aK hX; have HB3 := aK (below_only HB2.out hO HB2.out.size (fun k hk => by have := HG2.out; have hk' : k = g2 := hk; omega)); clear hX hO) | fail)
 refine bodyPost_ret (results_cell_row rfl _ _ g2 _ (msgC m.c sv) (0, 0) _ rfl HX3.out Try.underlying32 rfl info_rmsg) rfl ?_
 exact ⟨rfl, HB3.out⟩
def xi (c : Nat → Value) (i : Nat) : Int := match c i with | .int .i64 n => n | _ => 0
def si (c : Nat → Value) (i : Nat) : ByteArray := match c i with | .string n => n | _ => ⟨#[]⟩
def bi (c : Nat → Value) (i : Nat) : Bool := match c i with | .bool n => n | _ => false
def cX (x : Nat → Int) (s : Nat → ByteArray) (p : Nat → Bool) (v : Nat → Value) : Array Value := #[.int .i64 (x 0), .int .i64 (x 1), .int .i64 (x 2), v 3, .int .i64 (x 4), .int .i64 (x 5), .int .i64 (x 6), .int .i64 (x 7), v 8, v 9, v 10, .int .i64 (x 11), .int .i64 (x 12), .bool (p 13), .int .i64 (x 14), .int .i64 (x 15), .string (s 16), .bool (p 17), .string (s 18), .int .i64 (x 19), .int .i64 (x 20), .int .i64 (x 21), .int .i64 (x 22), .int .i64 (x 23), .bool (p 24), .string (s 25)]
theorem c_int {m : M} (h : Typed m) {i : Nat} (hs : scalar i = true) (hk : kindOf i = .num 0 0 ∨ ∃ a b, kindOf i = .num a b) : m.c i = .int .i64 (xi m.c i) := by
 have := h i hs
 obtain ⟨a, b, e⟩ : ∃ a b, kindOf i = .num a b := hk.elim (fun e => ⟨_, _, e⟩) id
 rw [e] at this
 obtain ⟨n, hn⟩ := this
 unfold xi
 rw [hn]
theorem c_str {m : M} (h : Typed m) {i : Nat} (hs : scalar i = true) (hk : ∃ a, kindOf i = .text a) : m.c i = .string (si m.c i) := by
 have := h i hs
 obtain ⟨a, e⟩ := hk
 rw [e] at this
 obtain ⟨n, hn⟩ := this
 unfold si
 rw [hn]
theorem c_bool {m : M} (h : Typed m) {i : Nat} (hs : scalar i = true) (hk : kindOf i = .flag) : m.c i = .bool (bi m.c i) := by
 have := h i hs
 rw [hk] at this
 obtain ⟨n, hn⟩ := this
 unfold bi
 rw [hn]
theorem msg_cX {m : M} (h : Typed m) (sv : Nat → Value) : msgC m.c sv = cX (xi m.c) (si m.c) (bi m.c) sv := by
 unfold msgC cX
 rw [c_int h (i := 0) rfl (.inr ⟨_, _, rfl⟩), c_int h (i := 1) rfl (.inr ⟨_, _, rfl⟩), c_int h (i := 2) rfl (.inr ⟨_, _, rfl⟩), c_int h (i := 4) rfl (.inr ⟨_, _, rfl⟩), c_int h (i := 5) rfl (.inr ⟨_, _, rfl⟩), c_int h (i := 6) rfl (.inr ⟨_, _, rfl⟩), c_int h (i := 7) rfl (.inr ⟨_, _, rfl⟩), c_int h (i := 11) rfl (.inr ⟨_, _, rfl⟩), c_int h (i := 12) rfl (.inr ⟨_, _, rfl⟩), c_bool h (i := 13) rfl rfl, c_int h (i := 14) rfl (.inr ⟨_, _, rfl⟩), c_int h (i := 15) rfl (.inr ⟨_, _, rfl⟩), c_str h (i := 16) rfl ⟨_, rfl⟩, c_bool h (i := 17) rfl rfl, c_str h (i := 18) rfl ⟨_, rfl⟩, c_int h (i := 19) rfl (.inr ⟨_, _, rfl⟩), c_int h (i := 20) rfl (.inr ⟨_, _, rfl⟩), c_int h (i := 21) rfl (.inr ⟨_, _, rfl⟩), c_int h (i := 22) rfl (.inr ⟨_, _, rfl⟩), c_int h (i := 23) rfl (.inr ⟨_, _, rfl⟩), c_bool h (i := 24) rfl rfl, c_str h (i := 25) rfl ⟨_, rfl⟩]
section
variable {P : Program} {ops : Array Oper} {o : Oper} {rest : List Oper} {a : Act} {Q : Exit → Act → World → Prop} {W : World}
theorem gate_in (S : List Nat) (_h : S.contains (o.dst.getD 0) = true) (h : wpList P ops Q (o :: rest) a W) : wpList P ops Q (o :: rest) a W := h
theorem ld {T : TypeId} {x : Operand} (ho : o.op = .load T x) {g off : Nat} (hx : a.eval x = .pointer (some ⟨g, off, none⟩)) {cs : Array Value} {T' : TypeId} (hb : W.heap[g]? = some (.cells cs T' (0, 0)))
  {v : Value} (hv : cs[off]? = some v) (hw : Region.wanted o (yielded ops a.tmps) = true) {d : TypeDesc} (hu : P.underlying T = some d) (hd : d.isRow = false)
  (h : wpList P ops Q rest (a.put o.dst v) W) : wpList P ops Q (o :: rest) a W :=
 gate_guard hw (Kd.event_run rfl (run_ld ho hx ((blk_cell hb off).trans hv) hu hd) h)
theorem ldr {T : TypeId} {x : Operand} (ho : o.op = .load T x) {g off : Nat} (hx : a.eval x = .pointer (some ⟨g, off, none⟩)) {cs : Array Value} {T' : TypeId} (hb : W.heap[g]? = some (.cells cs T' (0, 0))) (n : Nat)
  {vs : List Value} (hv : (cs.toList.drop off).take n = vs) (hw : Region.wanted o (yielded ops a.tmps) = true) {d : TypeDesc} (hu : P.underlying T = some d) (hd : d.isRow = true) (hi : (P.info? T).map (·.size) = some vs.length)
  (h : wpList P ops Q rest (a.put o.dst (.agg vs.toArray)) W) : wpList P ops Q (o :: rest) a W :=
 gate_guard hw (Kd.event_run rfl (run_load_mid ho hx vs (fun j v hj => by
  refine (blk_cell hb (off + j)).trans ?_
  subst hv
  rw [List.getElem?_take] at hj
  split at hj
  ·rw [List.getElem?_drop] at hj
   rw [← Array.getElem?_toList]
   exact hj
  ·cases hj) hu hd hi) h)
end
theorem isEqC (r : Bool) {p : Prop} (hp : r = true ↔ p) {k : FuncId} {args : Array Value} {w : World} (h : Calls Try.prog k args w (IsEq p w)) : Calls Try.prog k args w (fun e w' => e = .returned (.bool r) ∧ Drawn0 w w') := h.mono (by
 rintro e w' ⟨r', rfl, hr, hd⟩
 have : r' = r := by
  cases r' <;> cases r <;> first | rfl | (exact (hr.2 (hp.1 rfl)).symm ▸ rfl) | (exact absurd (hp.2 (hr.1 rfl)) (by decide))
 exact ⟨by rw [this], hd⟩)
theorem bool_of (p : Prop) : ∃ r : Bool, (r = true ↔ p) := by
 by_cases h : p
 ·exact ⟨true, fun _ => h, fun _ => rfl⟩
 ·exact ⟨false, fun k => (by cases k), fun k => absurd k h⟩
end Go.Proofs.Ytcbehfbfaonanaa.Wr
end
