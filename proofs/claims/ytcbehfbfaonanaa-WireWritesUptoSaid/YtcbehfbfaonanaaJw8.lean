/- Part 9 of the texts that walk the program and tell its laws, joined in the order of their building. No conditions. -/
import Derived.Test.YtcbehfbfaonanaaJw3
import Derived.Test.YtcbehfbfaonanaaJw4
import Derived.Test.YtcbehfbfaonanaaJw5
import Derived.Test.YtcbehfbfaonanaaJw7
import Derived.Test.YtcbehfbfaonanaaJw2
import Derived.Test.YtcbehfbfaonanaaRows
import Derived.OpenShut
import Derived.SizedLaws
import Derived.ChangeArms
import Derived.ChangeSlices
import Derived.ChangeSame
import Derived.ChangeAt
import Derived.Deep.Slices
import Derived.DataReads
import Derived.Deep.RegionHeld3
import Derived.ArgAppend
import Derived.Deep.WholeRow
set_option maxRecDepth 100000
set_option maxHeartbeats 16000000
section
namespace Go.Proofs.Ytcbehfbfaonanaa.Wr
open Go.RowKit Go.Proofs.YtcbehfbfaonanaaW.PrintWords Go.Proofs.YtcbehfbfaonanaaW.PrintLast Go.Proofs.YtcbehfbfaonanaaW.PrintMore Go.Proofs.Ytcbehfbfaonanaa.Pk
open Go.Proofs.Ytcbehfbfaonanaa.PFr (zcc zdf ansE Ok frame_Seal.calls frame_Open.calls seal_f open_f)
set_option linter.unusedVariables false
set_option linter.unusedSimpArgs false
def BRd (w : World) (v : Value) (l : List Int) : Prop := ∃ A c, v = .slice A l.length c ∧ (Kd.int .u8).C w A l.length l ∧ l.length ≤ c
theorem BRd.below {w w' : World} {v : Value} {l : List Int} (h : BRd w v l) (hB : Below w.heap.size w w') : BRd w' v l := by
 obtain ⟨A, c, rfl, h1, h2⟩ := h
 exact ⟨A, c, rfl, Kd.C_below h1 hB, h2⟩
theorem zqm {w : World} {A : Option Addr} {n : Nat} {l : List Int} (h : ReadsInt w .u8 A n l) : (Kd.int .u8).C w A n l := Kd.C_of_reads (enc := Value.int .u8) (d := (0 : Int)) (h1 := fun _ => rfl) h
theorem zqn {w : World} {A : Option Addr} {n : Nat} {l : List Int} (h : (Kd.int .u8).C w A n l) : ReadsInt w .u8 A n l := Kd.reads_of_C (enc := Value.int .u8) (d := (0 : Int)) (h1 := fun _ => rfl) h
theorem zsx {w : World} {base e : Nat} {v : Value} {l : List Int} {q c : Nat} (e1 : v = .slice (some ⟨q, 0, none⟩) l.length c) (h : w.ownsRow base e 1 v l.length (nums .u8 l)) (hc : l.length ≤ c) : BRd w v l := by
 subst e1
 exact ⟨_, c, rfl, zqm (own_reads' h), hc⟩
def IsBE (l : List Int) (er : Int) (w : World) (e : Ending) (w' : World) : Prop := Below w.heap.size w w' ∧ ∃ v, e = .returned (.tuple #[v, .int .i64 er]) ∧ BRd w' v l
theorem seal_c (w : World) (v : Value) (p : List Int) (h : BRd w v p) (hb : ∀ x ∈ p, Pk.IsB x) (hl : p.length ≤ 140737488351232) :
  Calls Try.prog 20 #[v] w (IsBE (if Ok p then (zcc p, (0 : Int)) else ([], 1)).1 (if Ok p then (zcc p, (0 : Int)) else ([], 1)).2 w) := by
 obtain ⟨A, c, rfl, h1, h2⟩ := h
 obtain ⟨k, hk⟩ := (seal_f hb hl).rounds
 refine (frame_Seal.calls k _ A c p _ _ w (Kd.V_mk h2 (Kd.C_F (by exact Kd.heap_int _) h1)) hk).mono ?_
 rintro e w' ⟨v', rfl, hR, hB⟩
 obtain ⟨A', c', rfl⟩ := Kd.R_slice hR
 exact ⟨hB, _, rfl, A', c', rfl, (Kd.R_reads' hR).2.2, (Kd.R_reads' hR).2.1⟩
theorem open_c (w : World) (v : Value) (l : List Int) (h : BRd w v l) (hb : ∀ x ∈ l, Pk.IsB x) (hl : l.length ≤ 140737488351232) :
  Calls Try.prog 34 #[v] w (IsBE (ansE (zdf l)).1 (ansE (zdf l)).2 w) := by
 obtain ⟨A, c, rfl, h1, h2⟩ := h
 obtain ⟨k, hk⟩ := (open_f hb hl).rounds
 refine (frame_Open.calls k A c l _ _ w h1 h2 hk).mono ?_
 rintro e w' ⟨v', rfl, hR, hB⟩
 obtain ⟨A', c', rfl⟩ := Kd.V_slice hR
 exact ⟨hB, _, rfl, A', c', rfl, (Kd.V_reads' hR).2.2, (Kd.V_reads' hR).2.1⟩
theorem enc_isB : ∀ (n : Nat), ∀ x ∈ enc n, Pk.IsB x := by
 intro n
 induction n using Nat.strongRecOn with
 | _ n ih =>
  intro x hx
  by_cases h : n < 128
  ·rw [zeh h] at hx
   simp only [List.mem_singleton] at hx
   subst hx
   unfold Pk.IsB; omega
  ·rw [zir h] at hx
   rcases List.mem_cons.1 hx with rfl | hx
   ·unfold Pk.IsB; omega
   ·exact ih (n / 128) (by omega) x hx
theorem zgx {n : Int} {xs : List Int} {bad : Bool} (h : ∀ x ∈ xs, Pk.IsB x) : ∀ x ∈ (wnum n xs bad).1, Pk.IsB x := by
 unfold wnum
 split
 ·exact h
 ·split
  ·exact h
  ·intro x hx
   rcases List.mem_append.1 hx with hx | hx
   ·exact h x hx
   ·exact enc_isB _ x hx
theorem bytesOf_isB (s : ByteArray) : ∀ x ∈ zbq s, Pk.IsB x := by
 intro x hx
 simp only [zbq, List.mem_map] at hx
 obtain ⟨u, _, rfl⟩ := hx
 have := u.toNat_lt
 unfold Pk.IsB
 omega
theorem zsy {s : ByteArray} {xs : List Int} {bad : Bool} (h : ∀ x ∈ xs, Pk.IsB x) : ∀ x ∈ (zcv s xs bad).1, Pk.IsB x := by
 unfold zcv
 split
 ·exact zgx h
 ·intro x hx
  rcases List.mem_append.1 hx with hx | hx
  ·exact zgx h x hx
  ·exact bytesOf_isB s x hx
theorem oTameB (g N : Nat) : (zar g).Tame (fun s => ∀ x ∈ s.1, Pk.IsB x) N := ⟨fun h => zgx h, fun h => zgx h, fun h k => ⟨zsy h, k⟩, fun h => zgx h⟩
theorem zgy {m : M} (hs : Small m) : ∀ x ∈ payB m, Pk.IsB x := by
 have hT := oTameB 0 1048576
 have h1 := hT.rowM (i := 0) (fs := [.num 1 10]) (s := ([], false, false)) (m := m) (fun x hx => nomatch hx) hs.lite
 exact (zrx hT (ts := zbu (zbs ((zar 0).rowM ([], false, false) m 0 [.num 1 10]).2)) h1.1 h1.2).1
def zdk (m : M) : Prop := zgu m = true ∧ rdOk (payB m) = true ∧ MEq m (rdM (payB m))
theorem list_len {F : Form} (hF : F.Good) {fs : List Fld} {s : F.σ} {most : Nat} {rows : List (List Value)} (hm : most ≤ 64) (h : rows.length ≤ 64) : (F.list fs s most rows).2.length ≤ 64 := by
 have e : (F.list fs s most rows).2.length = (F.listR fs s most rows).length := by
  unfold Form.list
  rw [List.length_append, zef, List.length_take, List.length_drop]
  have : F.listM s most rows.length ≤ (F.listR fs s most rows).length := by
   unfold Form.listM Form.listR
   split
   ·simp; omega
   ·omega
  omega
 rw [e]
 unfold Form.listR
 split
 ·obtain ⟨l0, l1⟩ := hF.count_lim s (rows.length : Int) (most : Int) (by omega) (by omega)
  simp only [List.length_replicate]
  omega
 ·exact h
theorem zsz {F : Form} (hF : F.Good) : ∀ {ts : List Step} {s : F.σ} {m : M}, ts.all Step.few = true → (∀ j, (m.L j).length ≤ 64) → ∀ j, ((F.run s m ts).2.L j).length ≤ 64
 | [], s, m, _, h => h
 | t :: ts, s, m, ht, h => by
  simp only [List.all_cons, Bool.and_eq_true] at ht
  refine zsz hF (ts := ts) ht.2 (fun j => ?_)
  cases t with
  | row i fs => exact h j
  | most => exact h j
  | lst i fs n =>
   have hn := ht.1
   simp only [Step.few, Bool.and_eq_true, decide_eq_true_eq] at hn
   simp only [Form.step, Form.lstM, upL]
   split
   ·exact list_len hF hn.2 (h i)
   ·exact h j
theorem rdM_len (xs : List Int) : ∀ j, ((rdM xs).L j).length ≤ 64 := zsz (iGood 0 0 0) (zjx _) (fun _ => Nat.zero_le _)
theorem zkv {w3 w4 w5 : World} {v : Value} {m : M} {sv : Nat → Value} {g : Nat} (h : MsgRd w3 v m sv) (hB : Below w3.heap.size w3 w4) (hO : Only (· = g) w4 w5) (hg : w3.heap.size ≤ g) : MsgRd w5 v m sv :=
 h.below (zaz hB hO hB.size (fun k hk => by have hk' : k = g := hk; omega))
theorem MsgRd.agg {w : World} {v : Value} {m : M} {sv : Nat → Value} (h : MsgRd w v m sv) : v = .agg (msgC m.c sv) := h.eq
theorem zja (w : World) (v : Value) (m : M) (sv : Nat → Value) (h : MsgRd w v m sv) (hs : Small m) :
  Calls Try.prog 13 #[v] w (zgj (zdk m) w) := by
 obtain rfl := h.agg
 have HM := aK h
 have HS := aK hs
 have HCP := aK (fun (W : World) (hB : Below w.heap.size w W) => zmi W _ m sv (h.below hB) hs)
 clear h hs
 cases hp : zgu m
 ·have HP := aK hp
  clear hp
  go_enter Try.func13, Try.ntmps13
  go_wp2_with (first | ((with_reducible refine zag (N := 1) rfl ?_); refine zbf rfl 35 (.tmp 0) rfl (msgC m.c sv) rfl ?_; intro g1 w1 hg hbox hb; have HX1 := aK hbox; have HB1 := aK hb; have HCp := aK (HCP.out _ HB1.out); clear hg hbox hb) | ((with_reducible refine zag (N := 7) rfl ?_); refine zbl rfl 35 (.tmp 1) rfl g1 rfl (msgC m.c sv) 35 HX1.out _ Try.underlying35 rfl zay ?_) | (go_at_call 19; (with_reducible refine HCp.out.mono ?_); rintro e w2 ⟨hB, sv', ok, rfl, hok, hv⟩; rw [HP.out] at hok; subst hok; have HB2 := aK (HB1.out.trans (hB.mono HB1.out.size)); have HX2 := aK ((hB.block g1 (zad HX1.out)).trans HX1.out); clear hv hB) | fail)
  go_ret
  exact ⟨false, rfl, ⟨(fun h => by cases h), fun h => absurd (HP.out.symm.trans h.1) (by simp)⟩, HB2.out⟩
 ·have HP := aK hp
  clear hp
  cases hq : rdOk (payB m)
  ·have HQ := aK hq
   clear hq
   go_enter Try.func13, Try.ntmps13
   go_wp2_with (first | ((with_reducible refine zag (N := 1) rfl ?_); refine zbf rfl 35 (.tmp 0) rfl (msgC m.c sv) rfl ?_; intro g1 w1 hg hbox hb; have HX1 := aK hbox; have HB1 := aK hb; have HCp := aK (HCP.out _ HB1.out); clear hg hbox hb) | ((with_reducible refine zag (N := 7) rfl ?_); refine zbl rfl 35 (.tmp 1) rfl g1 rfl (msgC m.c sv) 35 HX1.out _ Try.underlying35 rfl zay ?_) | (go_at_call 19; (with_reducible refine HCp.out.mono ?_); rintro e w2 ⟨hB, sv', ok, rfl, hok, hv⟩; rw [HP.out] at hok; subst hok; have HB2 := aK (HB1.out.trans (hB.mono HB1.out.size)); have HX2 := aK ((hB.block g1 (zad HX1.out)).trans HX1.out); obtain ⟨q, cq, es, hO, h3, h4, h5, h6⟩ := hv rfl; subst es; have HCr := aK (zsp _ _ cq _ w2 (own_reads' hO) h6 (zgy HS.out)); clear hO h3 h4 h5 h6 hv hB) | (go_at_call 25; (with_reducible refine HCr.out.mono ?_); rintro e w3 ⟨hB, v2, ok2, rfl, hok, svr, hM, hF⟩; obtain rfl := hM.agg; rw [HQ.out] at hok; subst hok; have HB3 := aK (HB2.out.trans (hB.mono HB2.out.size)); have HX3 := aK ((hB.block g1 (zad HX2.out)).trans HX2.out); have HM2 := aK hM; clear hF hM hB) | ((with_reducible refine zag (N := 5) rfl ?_); refine zbe rfl 35 rfl _ (zci _) ?_; intro g5 w4 hg hbox hb; have HX5a := aK hbox; have HB4a := aK hb; have HB4 := aK (HB3.out.trans (hb.mono HB3.out.size)); have HX4 := aK ((hb.block g1 (zad HX3.out)).trans HX3.out); have HM3 := aK (HM2.out.below hb); have HG5 := aK (show w3.heap.size ≤ g5 from by rw [hg]; exact Nat.le_refl _); clear hg hbox hb) | ((with_reducible refine zan (t := 35) (p := 5) rfl ?_); refine zbk rfl 35 (.tmp 5) (.tmp 16) rfl g5 rfl (msgC (rdM (payB m)).c svr) _ rfl 35 HX5a.out rfl zay HM3.out.one ?_; intro w5 hX hO; have HX5 := aK hX; have HO5 := aK hO; have HB5 := aK (zaz HB4.out hO HB4.out.size (fun k hk => by have := HB3.out.size; have := HG5.out; have hk' : k = g5 := hk; omega)); have HX5g := aK ((hO.block g1 (zad HX4.out) (fun e => by have := zad HX3.out; have := HG5.out; have e' : g1 = g5 := e; omega)).trans HX4.out); have HM5 := aK (zkv HM2.out HB4a.out hO HG5.out); clear hX hO) | fail)
   go_ret
   exact ⟨false, rfl, ⟨(fun h => by cases h), fun h => absurd (HQ.out.symm.trans h.2.1) (by simp)⟩, HB5.out⟩
  ·have HQ := aK hq
   clear hq
   go_enter Try.func13, Try.ntmps13
   go_wp2_with (first | ((with_reducible refine zag (N := 1) rfl ?_); refine zbf rfl 35 (.tmp 0) rfl (msgC m.c sv) rfl ?_; intro g1 w1 hg hbox hb; have HX1 := aK hbox; have HB1 := aK hb; have HCp := aK (HCP.out _ HB1.out); clear hg hbox hb) | ((with_reducible refine zag (N := 7) rfl ?_); refine zbl rfl 35 (.tmp 1) rfl g1 rfl (msgC m.c sv) 35 HX1.out _ Try.underlying35 rfl zay ?_) | (go_at_call 19; (with_reducible refine HCp.out.mono ?_); rintro e w2 ⟨hB, sv', ok, rfl, hok, hv⟩; rw [HP.out] at hok; subst hok; have HB2 := aK (HB1.out.trans (hB.mono HB1.out.size)); have HX2 := aK ((hB.block g1 (zad HX1.out)).trans HX1.out); obtain ⟨q, cq, es, hO, h3, h4, h5, h6⟩ := hv rfl; subst es; have HCr := aK (zsp _ _ cq _ w2 (own_reads' hO) h6 (zgy HS.out)); clear hO h3 h4 h5 h6 hv hB) | (go_at_call 25; (with_reducible refine HCr.out.mono ?_); rintro e w3 ⟨hB, v2, ok2, rfl, hok, svr, hM, hF⟩; obtain rfl := hM.agg; rw [HQ.out] at hok; subst hok; have HB3 := aK (HB2.out.trans (hB.mono HB2.out.size)); have HX3 := aK ((hB.block g1 (zad HX2.out)).trans HX2.out); have HM2 := aK hM; clear hF hM hB) | ((with_reducible refine zag (N := 5) rfl ?_); refine zbe rfl 35 rfl _ (zci _) ?_; intro g5 w4 hg hbox hb; have HX5a := aK hbox; have HB4a := aK hb; have HB4 := aK (HB3.out.trans (hb.mono HB3.out.size)); have HX4 := aK ((hb.block g1 (zad HX3.out)).trans HX3.out); have HM3 := aK (HM2.out.below hb); have HG5 := aK (show w3.heap.size ≤ g5 from by rw [hg]; exact Nat.le_refl _); clear hg hbox hb) | ((with_reducible refine zan (t := 35) (p := 5) rfl ?_); refine zbk rfl 35 (.tmp 5) (.tmp 16) rfl g5 rfl (msgC (rdM (payB m)).c svr) _ rfl 35 HX5a.out rfl zay HM3.out.one ?_; intro w5 hX hO; have HX5 := aK hX; have HO5 := aK hO; have HB5 := aK (zaz HB4.out hO HB4.out.size (fun k hk => by have := HB3.out.size; have := HG5.out; have hk' : k = g5 := hk; omega)); have HX5g := aK ((hO.block g1 (zad HX4.out) (fun e => by have := zad HX3.out; have := HG5.out; have e' : g1 = g5 := e; omega)).trans HX4.out); have HM5 := aK (zkv HM2.out HB4a.out hO HG5.out); clear hX hO) | ((with_reducible refine zag (N := 20) rfl ?_); (try (refine zbi (by rfl) ?_; dsimp only)); refine zbl rfl 35 (.tmp 1) rfl g1 rfl (msgC m.c sv) 35 HX5g.out _ Try.underlying35 rfl zay ?_) | ((with_reducible refine zag (N := 21) rfl ?_); (try (refine zbi (by rfl) ?_; dsimp only)); refine zbl rfl 35 (.tmp 5) rfl g5 rfl (msgC (rdM (payB m)).c svr) 35 HX5.out _ Try.underlying35 rfl zay ?_) | (go_at_call 17; (with_reducible refine (zgb w5 _ _ m (rdM (payB m)) sv svr (HM.out.below HB5.out) HM5.out HS.out.few (fun j => Nat.le_trans (rdM_len _ j) (by omega))).mono ?_); rintro e w6 ⟨r, rfl, hr, hB⟩; have HR := aK hr; have HB6 := aK (HB5.out.trans (hB.mono HB5.out.size)); clear hr hB) | fail)
   go_ret
   exact ⟨r, rfl, ⟨fun h => ⟨HP.out, HQ.out, HR.out.1 h⟩, fun h => HR.out.2 h.2.2⟩, HB6.out⟩
theorem zdb {p : Prop} (hp : p) {k : FuncId} {args : Array Value} {w : World} (h : Calls Try.prog k args w (zgj p w)) : Calls Try.prog k args w (fun e w' => e = .returned (.bool true) ∧ Below w.heap.size w w') := h.mono (by
 rintro e w' ⟨r, rfl, hr, hd⟩
 exact ⟨by rw [hr.2 hp], hd⟩)
theorem zet {p : Prop} (hp : ¬ p) {k : FuncId} {args : Array Value} {w : World} (h : Calls Try.prog k args w (zgj p w)) : Calls Try.prog k args w (fun e w' => e = .returned (.bool false) ∧ Below w.heap.size w w') := h.mono (by
 rintro e w' ⟨r, rfl, hr, hd⟩
 cases r
 ·exact ⟨rfl, hd⟩
 ·exact absurd (hr.1 rfl) hp)
def znq (l : List Int) : List Int × Int := if Ok l then (zcc l, 0) else ([], 1)
theorem sealA_c {p bs : List Int} {er : Int} (he : znq p = (bs, er)) (w : World) (v : Value) (h : BRd w v p) (hb : ∀ x ∈ p, Pk.IsB x) (hl : p.length ≤ 140737488351232) : Calls Try.prog 20 #[v] w (IsBE bs er w) := by
 have h := seal_c w v p h hb hl
 rw [show (if Ok p then (zcc p, (0 : Int)) else ([], 1)) = (bs, er) from he] at h
 exact h
theorem zta (w : World) (v : Value) (m : M) (sv : Nat → Value) (h : MsgRd w v m sv) (hs : Small m) (hr : ¬ zdk m) :
  Calls Try.prog 11 #[v] w (IsBE [] 1 w) := by
 obtain rfl := h.agg
 have HR := aK (fun (W : World) (hB : Below w.heap.size w W) => zet hr (zja W _ m sv (h.below hB) hs))
 clear h hs hr
 go_enter Try.func11, Try.ntmps11
 go_wp2_with (first | ((with_reducible refine zag (N := 1) rfl ?_); refine zbf rfl 35 (.tmp 0) rfl (msgC m.c sv) rfl ?_; intro g1 w1 hg hbox hb; have HX1 := aK hbox; have HB1 := aK hb; clear hg hbox hb) | ((with_reducible refine zag (N := 6) rfl ?_); refine zbl rfl 35 (.tmp 1) rfl g1 rfl (msgC m.c sv) 35 HX1.out _ Try.underlying35 rfl zay ?_) | (go_at_call 13; (with_reducible refine (HR.out _ HB1.out).mono ?_); rintro e w2 ⟨rfl, hB⟩; have HB2 := aK (HB1.out.trans (hB.mono HB1.out.size)); clear hB) | fail)
 go_ret2
 exact ⟨HB2.out, _, rfl, none, 0, rfl, ⟨rfl, by simp, fun h => absurd h (by simp)⟩, by simp⟩
theorem zkb (w : World) (v : Value) (m : M) (sv : Nat → Value) (h : MsgRd w v m sv) (hs : Small m) (hr : zdk m) :
  Calls Try.prog 11 #[v] w (IsBE (znq (payB m)).1 (znq (payB m)).2 w) := by
 obtain rfl := h.agg
 have HR := aK (fun (W : World) (hB : Below w.heap.size w W) => zdb hr (zja W _ m sv (h.below hB) hs))
 have HCP := aK (fun (W : World) (hB : Below w.heap.size w W) => zmi W _ m sv (h.below hB) hs)
 have HI := aK (zgy hs)
 have HP := aK hr.1
 obtain ⟨bs, er, hse⟩ : ∃ bs er, znq (payB m) = (bs, er) := ⟨_, _, rfl⟩
 rw [hse]
 have HSE := aK hse
 clear hse
 clear h hs hr
 go_enter Try.func11, Try.ntmps11
 go_wp2_with (first | ((with_reducible refine zag (N := 1) rfl ?_); refine zbf rfl 35 (.tmp 0) rfl (msgC m.c sv) rfl ?_; intro g1 w1 hg hbox hb; have HX1 := aK hbox; have HB1 := aK hb; clear hg hbox hb) | ((with_reducible refine zag (N := 6) rfl ?_); refine zbl rfl 35 (.tmp 1) rfl g1 rfl (msgC m.c sv) 35 HX1.out _ Try.underlying35 rfl zay ?_) | (go_at_call 13; (with_reducible refine (HR.out _ HB1.out).mono ?_); rintro e w2 ⟨rfl, hB⟩; have HB2 := aK (HB1.out.trans (hB.mono HB1.out.size)); have HX2 := aK ((hB.block g1 (zad HX1.out)).trans HX1.out); clear hB) | ((with_reducible refine zag (N := 10) rfl ?_); refine zbl rfl 35 (.tmp 1) rfl g1 rfl (msgC m.c sv) 35 HX2.out _ Try.underlying35 rfl zay ?_) | (go_at_call 19; (with_reducible refine (HCP.out _ HB2.out).mono ?_); rintro e w3 ⟨hB, sv', ok, rfl, hok, hv⟩; rw [HP.out] at hok; subst hok; obtain ⟨q, cq, es, hO, h3, h4, h5, h6⟩ := hv rfl; have HB3 := aK (HB2.out.trans (hB.mono HB2.out.size)); have HCs := aK (sealA_c HSE.out w3 _ (zsx es hO h3) HI.out (by omega)); subst es; clear hO h3 h4 h5 h6 hv hB) | (go_at_call 20; (with_reducible refine HCs.out.mono ?_); rintro e w4 ⟨hB, vv, rfl, hv⟩; have HB4 := aK (HB3.out.trans (hB.mono HB3.out.size)); have HV := aK hv; clear hB hv) | fail)
 go_ret2
 exact ⟨HB4.out, _, rfl, HV.out⟩
def decM (l : List Int) : M × Int := match zdf l with | some p => if rdOk p = true then (rdM p, 0) else (zcn, 2) | none => (zcn, 2)
def IsDec (l : List Int) (w : World) (e : Ending) (w' : World) : Prop := Below w.heap.size w w' ∧ ∃ v, e = .returned (.tuple #[v, .int .i64 (decM l).2]) ∧ IsMsg w.heap.size (decM l).1 w' v
theorem zjb (w : World) : MsgRd w (.agg (msgC zdu nils)) zcn nils := ⟨rfl, zea, zol, fun j fs hj => ⟨none, 0, rfl, fun _ => rfl, fun h => absurd rfl h⟩⟩
theorem ztb (B : Nat) (w : World) : IsMsg B zcn w (.agg (msgC zdu nils)) := ⟨nils, zjb w, fun j fs hj k hk h0 => absurd rfl h0⟩
theorem ztc {l p : List Int} (h : zdf l = some p) (hb : ∀ x ∈ l, Pk.IsB x) : (∀ x ∈ p, Pk.IsB x) ∧ p.length ≤ l.length := by
 obtain ⟨_, _, e⟩ := PFr.openL_some h
 subst e
 exact ⟨fun x hx => hb x (List.mem_of_mem_drop hx), by rw [List.length_drop]; omega⟩
theorem decode_c (w : World) (v : Value) (l : List Int) (h : BRd w v l) (hb : ∀ x ∈ l, Pk.IsB x) (hl : l.length ≤ 9000000000) :
  Calls Try.prog 18 #[v] w (IsDec l w) := by
 have HO := aK (fun (W : World) (hB : Below w.heap.size w W) => open_c W v l (h.below hB) hb (by omega))
 cases ho : zdf l with
 | none =>
  have HA := aK (show ansE (zdf l) = ([], 2) from by rw [ho]; rfl)
  have HD := aK (show decM l = (zcn, 2) from by unfold decM; rw [ho])
  clear h hb hl ho
  go_enter Try.func18, Try.ntmps18
  go_wp2_with (first | ((with_reducible refine zag (N := 2) rfl ?_); refine zbe rfl 35 rfl _ (zci _) ?_; intro g1 w1 hg hbox hb; have HX1 := aK hbox; have HB1 := aK hb; have HG1 := aK (show w.heap.size ≤ g1 from by rw [hg]; exact Nat.le_refl _); clear hg hbox hb) | (go_at_call 34; (with_reducible refine (HO.out _ HB1.out).mono ?_); rintro e w3 ⟨hB, vv, rfl, hv⟩; rw [HA.out]; have HB3 := aK (HB1.out.trans (hB.mono HB1.out.size)); have HX3 := aK ((hB.block g1 (zad HX1.out)).trans HX1.out); obtain ⟨A', c', es, _, _⟩ := id hv; rw [HA.out] at es; subst es; clear hB hv) | ((with_reducible refine zan (t := 35) (p := 2) rfl ?_); refine zbk rfl 35 (.tmp 2) (.tmp 15) rfl g1 rfl (msgC zdu nils) _ rfl 35 HX3.out rfl zay (zjb w).one ?_; intro w4 hX hO; have HX4 := aK hX; have HO4 := aK hO; have HB4 := aK (zaz HB3.out hO HB3.out.size (fun k hk => by have := HG1.out; have hk' : k = g1 := hk; omega)); clear hX hO) | fail)
  refine bodyPost_ret (zep (P := Try.prog) (fn := Try.f18) rfl _ _ g1 _ (msgC zdu nils) (0, 0) _ rfl HX4.out Try.underlying35 rfl zay) rfl ?_
  refine ⟨HB4.out, _, by rw [HD.out]; rfl, ?_⟩
  rw [HD.out]
  exact ztb _ _
 | some p =>
  obtain ⟨hpb, hpl⟩ := ztc ho hb
  have HA := aK (show ansE (zdf l) = (p, 0) from by rw [ho]; rfl)
  have HRD := aK (fun (W : World) (A : Option Addr) (c : Nat) (hv : (Kd.int .u8).C W A p.length p) => zsp A p.length c p W (zqn hv) (by omega) hpb)
  cases hok : rdOk p
  ·have HD := aK (show decM l = (zcn, 2) from by unfold decM; rw [ho]; simp [hok])
   have HQ := aK hok
   clear h hb hl ho hpb hpl hok
   go_enter Try.func18, Try.ntmps18
   go_wp2_with (first | ((with_reducible refine zag (N := 2) rfl ?_); refine zbe rfl 35 rfl _ (zci _) ?_; intro g1 w1 hg hbox hb; have HX1 := aK hbox; have HB1 := aK hb; have HG1 := aK (show w.heap.size ≤ g1 from by rw [hg]; exact Nat.le_refl _); clear hg hbox hb) | (go_at_call 34; (with_reducible refine (HO.out _ HB1.out).mono ?_); rintro e w3 ⟨hB, vv, rfl, hv⟩; rw [HA.out] at hv ⊢; change BRd w3 vv p at hv; have HB3 := aK (HB1.out.trans (hB.mono HB1.out.size)); have HX3 := aK ((hB.block g1 (zad HX1.out)).trans HX1.out); obtain ⟨A', c', es, hC', _⟩ := hv; subst es; have HC := aK (HRD.out w3 A' c' hC'); clear hB hC') | (go_at_call 25; (with_reducible refine HC.out.mono ?_); rintro e w4 ⟨hB, v2, ok2, rfl, hok, svr, hM, hF⟩; obtain rfl := hM.agg; rw [HQ.out] at hok; subst hok; have HB4 := aK (HB3.out.trans (hB.mono HB3.out.size)); have HX4 := aK ((hB.block g1 (zad HX3.out)).trans HX3.out); have HM4 := aK hM; have HF4a := aK hF; have HF4 := aK (fun j fs hj k hk h0 => Nat.le_trans HB3.out.size (hF j fs hj k hk h0)); clear hF hM hB) | ((with_reducible refine zag (N := 6) rfl ?_); refine zbe rfl 35 rfl _ (zci _) ?_; intro g6 w5 hg hbox hb; have HX5 := aK hbox; have HB5a := aK hb; have HB5 := aK (HB4.out.trans (hb.mono HB4.out.size)); have HX5g := aK ((hb.block g1 (zad HX4.out)).trans HX4.out); have HG6 := aK (show w4.heap.size ≤ g6 from by rw [hg]; exact Nat.le_refl _); clear hg hbox hb) | ((with_reducible refine zan (t := 35) (p := 6) rfl ?_); refine zbk rfl 35 (.tmp 6) (.tmp 19) rfl g6 rfl (msgC (rdM p).c svr) _ rfl 35 HX5.out rfl zay HM4.out.one ?_; intro w6 hX hO; have HX6 := aK hX; have HO6 := aK hO; have HB6 := aK (zaz HB5.out hO HB5.out.size (fun k hk => by have := HB4.out.size; have := HG6.out; have hk' : k = g6 := hk; omega)); have HX6g := aK ((hO.block g1 (zad HX5g.out) (fun e => by have := zad HX4.out; have := HG6.out; have e' : g1 = g6 := e; omega)).trans HX5g.out); have HM6 := aK (zkv HM4.out HB5a.out hO HG6.out); clear hX hO) | ((with_reducible refine zan (t := 35) (p := 2) rfl ?_); refine zbk rfl 35 (.tmp 2) (.tmp 23) rfl g1 rfl (msgC zdu nils) _ rfl 35 HX6g.out rfl zay (zjb w).one ?_; intro w7 hX hO; have HX7 := aK hX; have HO7 := aK hO; have HB7 := aK (zaz HB6.out hO HB6.out.size (fun k hk => by have := HG1.out; have hk' : k = g1 := hk; omega)); clear hX hO) | fail)
   refine bodyPost_ret (zep (P := Try.prog) (fn := Try.f18) rfl _ _ g1 _ (msgC zdu nils) (0, 0) _ rfl HX7.out Try.underlying35 rfl zay) rfl ?_
   refine ⟨HB7.out, _, by rw [HD.out]; rfl, ?_⟩
   rw [HD.out]
   exact ztb _ _
  ·have HD := aK (show decM l = (rdM p, 0) from by unfold decM; rw [ho]; simp [hok])
   have HQ := aK hok
   clear h hb hl ho hpb hpl hok
   go_enter Try.func18, Try.ntmps18
   go_wp2_with (first | ((with_reducible refine zag (N := 2) rfl ?_); refine zbe rfl 35 rfl _ (zci _) ?_; intro g1 w1 hg hbox hb; have HX1 := aK hbox; have HB1 := aK hb; have HG1 := aK (show w.heap.size ≤ g1 from by rw [hg]; exact Nat.le_refl _); clear hg hbox hb) | (go_at_call 34; (with_reducible refine (HO.out _ HB1.out).mono ?_); rintro e w3 ⟨hB, vv, rfl, hv⟩; rw [HA.out] at hv ⊢; change BRd w3 vv p at hv; have HB3 := aK (HB1.out.trans (hB.mono HB1.out.size)); have HX3 := aK ((hB.block g1 (zad HX1.out)).trans HX1.out); obtain ⟨A', c', es, hC', _⟩ := hv; subst es; have HC := aK (HRD.out w3 A' c' hC'); clear hB hC') | (go_at_call 25; (with_reducible refine HC.out.mono ?_); rintro e w4 ⟨hB, v2, ok2, rfl, hok, svr, hM, hF⟩; obtain rfl := hM.agg; rw [HQ.out] at hok; subst hok; have HB4 := aK (HB3.out.trans (hB.mono HB3.out.size)); have HX4 := aK ((hB.block g1 (zad HX3.out)).trans HX3.out); have HM4 := aK hM; have HF4a := aK hF; have HF4 := aK (fun j fs hj k hk h0 => Nat.le_trans HB3.out.size (hF j fs hj k hk h0)); clear hF hM hB) | ((with_reducible refine zag (N := 6) rfl ?_); refine zbe rfl 35 rfl _ (zci _) ?_; intro g6 w5 hg hbox hb; have HX5 := aK hbox; have HB5a := aK hb; have HB5 := aK (HB4.out.trans (hb.mono HB4.out.size)); have HX5g := aK ((hb.block g1 (zad HX4.out)).trans HX4.out); have HG6 := aK (show w4.heap.size ≤ g6 from by rw [hg]; exact Nat.le_refl _); clear hg hbox hb) | ((with_reducible refine zan (t := 35) (p := 6) rfl ?_); refine zbk rfl 35 (.tmp 6) (.tmp 19) rfl g6 rfl (msgC (rdM p).c svr) _ rfl 35 HX5.out rfl zay HM4.out.one ?_; intro w6 hX hO; have HX6 := aK hX; have HO6 := aK hO; have HB6 := aK (zaz HB5.out hO HB5.out.size (fun k hk => by have := HB4.out.size; have := HG6.out; have hk' : k = g6 := hk; omega)); have HX6g := aK ((hO.block g1 (zad HX5g.out) (fun e => by have := zad HX4.out; have := HG6.out; have e' : g1 = g6 := e; omega)).trans HX5g.out); have HM6 := aK (zkv HM4.out HB5a.out hO HG6.out); clear hX hO) | ((with_reducible refine zag (N := 24) rfl ?_); refine zbl rfl 35 (.tmp 6) rfl g6 rfl (msgC (rdM p).c svr) 35 HX6.out _ Try.underlying35 rfl zay ?_) | ((with_reducible refine zan (t := 35) (p := 2) rfl ?_); refine zbk rfl 35 (.tmp 2) (.tmp 24) rfl g1 rfl (msgC (rdM p).c svr) _ rfl 35 HX6g.out rfl zay HM6.out.one ?_; intro w7 hX hO; have HX7 := aK hX; have HO7 := aK hO; have HB7 := aK (zaz HB6.out hO HB6.out.size (fun k hk => by have := HG1.out; have hk' : k = g1 := hk; omega)); have HM7 := aK (HM6.out.only hO (fun j fs hj k hk h0 e => by have h1 := HF4a.out j fs hj k hk h0; have h2 := zad HX3.out; have e' : k = g1 := e; omega)); have HF7 := aK HF4.out; clear hX hO) | fail)
   refine bodyPost_ret (zep (P := Try.prog) (fn := Try.f18) rfl _ _ g1 _ (msgC (rdM p).c svr) (0, 0) _ rfl HX7.out Try.underlying35 rfl zay) rfl ?_
   refine ⟨HB7.out, _, by rw [HD.out]; rfl, ?_⟩
   rw [HD.out]
   exact ⟨svr, HM7.out, HF7.out⟩
end Go.Proofs.Ytcbehfbfaonanaa.Wr
end
section
namespace Go.Proofs.Ytcbehfbfaonanaa.Wr
open Go.RowKit Go.Proofs.YtcbehfbfaonanaaW.PrintWords Go.Proofs.YtcbehfbfaonanaaW.PrintLast Go.Proofs.YtcbehfbfaonanaaW.PrintMore Go.Proofs.Ytcbehfbfaonanaa.Pk
open Go.Proofs.Ytcbehfbfaonanaa.PFr (zcc zdf ansE Ok)
set_option linter.unusedVariables false
set_option linter.unusedSimpArgs false
def Fld.top : Fld → Nat
 | .num _ _ => 8
 | .flag => 8
 | .text most => 8 + most.toNat
def zjc : List Fld → Nat
 | [] => 0
 | f :: fs => f.top + zjc fs
def Step.top : Step → Nat
 | .row _ fs => zjc fs
 | .most => 8
 | .lst _ fs n => 8 + n * zjc fs
def ztd : List Step → Nat
 | [] => 0
 | t :: ts => t.top + ztd ts
def Kin (c : Nat) (s s' : OSt) : Prop := (s'.2.2 = false → s.2.2 = false ∧ s'.1.length ≤ s.1.length + c) ∧ s.1.length ≤ s'.1.length
theorem Kin.refl (s : OSt) : Kin 0 s s := ⟨fun h => ⟨h, Nat.le_refl _⟩, Nat.le_refl _⟩
theorem Kin.trans {c d : Nat} {s s1 s2 : OSt} (h : Kin c s s1) (k : Kin d s1 s2) : Kin (c + d) s s2 :=
 ⟨fun e => ⟨(h.1 (k.1 e).1).1, by have := (k.1 e).2; have := (h.1 (k.1 e).1).2; omega⟩, Nat.le_trans h.2 k.2⟩
theorem Kin.mono {c d : Nat} {s s1 : OSt} (h : Kin c s s1) (hc : c ≤ d) : Kin d s s1 := ⟨fun e => ⟨(h.1 e).1, by have := (h.1 e).2; omega⟩, h.2⟩
theorem zkw (n : Int) (xs : List Int) (bad : Bool) : xs.length ≤ (wnum n xs bad).1.length := by
 unfold wnum
 split
 ·exact Nat.le_refl _
 ·split
  ·exact Nat.le_refl _
  ·rw [List.length_append]; omega
theorem zte (s : OSt) (n lo hi : Int) : Kin 8 s (onum s n lo hi) := ⟨fun h => by
 simp only [onum, Bool.or_eq_false_iff] at h
 exact ⟨h.1.1, zed _ _ _⟩, zkw _ _ _⟩
theorem kin_flag (s : OSt) (x : Bool) : Kin 8 s (oflag s x) := ⟨fun h => ⟨h, zed _ _ _⟩, zkw _ _ _⟩
theorem kin_text (s : OSt) (x : ByteArray) (most : Int) : Kin (8 + most.toNat) s (zru s x most) := by
 constructor
 ·intro h
  simp only [zru, Bool.or_eq_false_iff, decide_eq_false_iff_not] at h
  refine ⟨h.1, ?_⟩
  have := wtext_le x s.1 s.2.1
  show (zcv x s.1 s.2.1).1.length ≤ _
  omega
 ·show _ ≤ (zcv x s.1 s.2.1).1.length
  have := zkw (x.size : Int) s.1 s.2.1
  unfold zcv
  split
  ·exact this
  ·rw [List.length_append]; omega
theorem ztf (s : OSt) (n most : Int) : Kin 8 s (zhn s n most) := ⟨fun h => by
 simp only [zhn, Bool.or_eq_false_iff] at h
 exact ⟨h.1, zed _ _ _⟩, zkw _ _ _⟩
theorem kin_fld (s : OSt) (f : Fld) (v : Value) : Kin f.top s ((zar 0).fld s f v).1 := by
 unfold Form.fld
 split
 ·exact zte s _ _ _
 ·exact kin_flag s _
 ·exact kin_text s _ _
 ·exact (Kin.refl s).mono (Nat.zero_le _)
theorem zkx : ∀ (fs : List Fld) (vs : List Value) (s : OSt), Kin (zjc fs) s ((zar 0).row s fs vs).1
 | [], vs, s => by cases vs <;> exact Kin.refl s
 | f :: fs, [], s => (Kin.refl s).mono (Nat.zero_le _)
 | f :: fs, v :: vs, s => (kin_fld s f v).trans (zkx fs vs _)
theorem zor (fs : List Fld) : ∀ (rs : List (List Value)) (s : OSt), Kin (rs.length * zjc fs) s ((zar 0).rows fs s rs).1
 | [], s => (show Kin ([].length * zjc fs) s s from (Kin.refl s).mono (Nat.zero_le _))
 | r :: rs, s => ((zkx fs r s).trans (zor fs rs _)).mono (by rw [List.length_cons, Nat.add_mul]; omega)
theorem kin_list (fs : List Fld) (s : OSt) (most : Nat) (rows : List (List Value)) : Kin (8 + most * zjc fs) s ((zar 0).list fs s most rows).1 := by
 refine (ztf s rows.length most).trans ((zor fs (((zar 0).listR fs s most rows).take ((zar 0).listM s most rows.length)) _).mono (Nat.mul_le_mul_right _ ?_))
 rw [List.length_take]
 unfold Form.listM
 omega
theorem kin_step (s : OSt) (m : M) (t : Step) : Kin t.top s ((zar 0).step s m t).1 := by
 cases t with
 | row i fs => exact zkx fs _ s
 | most => exact zkx [.num (zgd (m.c 6)) 128] _ s
 | lst j fs n => exact kin_list fs s n _
theorem ztg : ∀ (ts : List Step) (s : OSt) (m : M), Kin (ztd ts) s ((zar 0).run s m ts).1
 | [], s, m => Kin.refl s
 | t :: ts, s, m => (kin_step s m t).trans (ztg ts _ _)
theorem zqo (n : Int) : ztd (zbu n) ≤ 60000 := by
 unfold zbu zgt zal
 repeat' split
 all_goals decide
theorem wnum_pos {n : Int} {xs : List Int} {bad : Bool} (h : (wnum n xs bad).2 = false) : xs.length < (wnum n xs bad).1.length := by
 unfold wnum at h ⊢
 split
 ·rename_i h'; rw [if_pos h'] at h; cases h
 ·rename_i h'
  rw [if_neg h'] at h
  split
  ·rename_i h''; rw [if_pos h''] at h; cases h
  ·rw [List.length_append]; have := zis n.toNat; omega
theorem wnum_bad (n : Int) (xs : List Int) : (wnum n xs true).2 = true := by unfold wnum; split <;> simp
theorem bad_fld (s : OSt) (h : s.2.1 = true) (f : Fld) (v : Value) : ((zar 0).fld s f v).1.2.1 = true := by
 unfold Form.fld
 split
 ·show (wnum _ s.1 s.2.1).2 = true; rw [h]; exact wnum_bad _ _
 ·show (wnum _ s.1 s.2.1).2 = true; rw [h]; exact wnum_bad _ _
 ·show (zcv _ s.1 s.2.1).2 = true
  rw [h]
  unfold zcv
  rw [if_pos (wnum_bad _ _)]
 ·exact h
theorem zky : ∀ (fs : List Fld) (vs : List Value) (s : OSt), s.2.1 = true → ((zar 0).row s fs vs).1.2.1 = true
 | [], vs, s, h => by cases vs <;> exact h
 | f :: fs, [], s, h => h
 | f :: fs, v :: vs, s, h => zky fs vs _ (bad_fld s h f v)
theorem zos (fs : List Fld) : ∀ (rs : List (List Value)) (s : OSt), s.2.1 = true → ((zar 0).rows fs s rs).1.2.1 = true
 | [], s, h => h
 | r :: rs, s, h => zos fs rs _ (zky fs r s h)
theorem bad_step (s : OSt) (m : M) (t : Step) (h : s.2.1 = true) : ((zar 0).step s m t).1.2.1 = true := by
 cases t with
 | row i fs => exact zky fs _ s h
 | most => exact zky _ _ s h
 | lst j fs n => exact zos fs _ _ (show (wnum _ s.1 s.2.1).2 = true by rw [h]; exact wnum_bad _ _)
theorem zth : ∀ (ts : List Step) (s : OSt) (m : M), s.2.1 = true → ((zar 0).run s m ts).1.2.1 = true
 | [], s, m, h => h
 | t :: ts, s, m, h => zth ts _ _ (bad_step s m t h)
theorem zti {m : M} (ht : zbh m) (h : zgu m = true) : Ok (payB m) := by
 unfold zgu at h
 simp only [Bool.and_eq_true, Bool.not_eq_true'] at h
 obtain ⟨⟨⟨h1, h2⟩, h3⟩, h4⟩ := h
 obtain ⟨x, hx⟩ : ∃ x, m.c 0 = .int .i64 x := ht 0 rfl
 have e0 : ((zar 0).rowM ([], false, false) m 0 [.num 1 10]).1 = onum ([], false, false) x 1 10 := by
  show ((zar 0).row ([], false, false) [.num 1 10] (zaq m.c 0 1)).1 = _
  simp only [zaq, hx]
  rfl
 have e1 : payS m = ((zar 0).run ((zar 0).rowM ([], false, false) m 0 [.num 1 10]).1 ((zar 0).rowM ([], false, false) m 0 [.num 1 10]).2 (zbu (zbs ((zar 0).rowM ([], false, false) m 0 [.num 1 10]).2))).1 := rfl
 have k := ztg (zbu (zbs ((zar 0).rowM ([], false, false) m 0 [.num 1 10]).2)) ((zar 0).rowM ([], false, false) m 0 [.num 1 10]).1 ((zar 0).rowM ([], false, false) m 0 [.num 1 10]).2
 rw [← e1, e0] at k
 have k0 := zte ([], false, false) x 1 10
 have hb : (onum ([], false, false) x 1 10).2.1 = false := by
  cases hb : (onum ([], false, false) x 1 10).2.1 with
  | false => rfl
  | true =>
   have := zth (zbu (zbs ((zar 0).rowM ([], false, false) m 0 [.num 1 10]).2)) _ ((zar 0).rowM ([], false, false) m 0 [.num 1 10]).2 hb
   rw [← e0, ← e1, h3] at this
   cases this
 have hp : 0 < (onum ([], false, false) x 1 10).1.length := wnum_pos (n := x) (xs := []) (bad := false) hb
 have ht := zqo (zbs ((zar 0).rowM ([], false, false) m 0 [.num 1 10]).2)
 have k1 := (k.1 h4).2
 have k2 := (k0.1 (k.1 h4).1).2
 have k3 := k.2
 unfold Ok payB
 simp only [List.length_nil] at k2
 omega
theorem zot {m : M} (ht : zbh m) (h : zdk m) : znq (payB m) = (zcc (payB m), 0) := by unfold znq; rw [if_pos (zti ht h.1)]
end Go.Proofs.Ytcbehfbfaonanaa.Wr
end
section
namespace Go.Proofs.Ytcbehfbfaonanaa.Wr
open Go.RowKit PFr Go.Proofs.YtcbehfbfaonanaaW.PrintWords Go.Proofs.YtcbehfbfaonanaaW.PrintLast Go.Proofs.YtcbehfbfaonanaaW.PrintMore Go.Proofs.Ytcbehfbfaonanaa.Pk
set_option linter.unusedVariables false
set_option linter.unusedSimpArgs false
def aw : M := ⟨fun i => if i = 0 then .int .i64 6 else if i = 2 then .int .i64 3 else zdu i, fun _ => []⟩
theorem zou : payB aw = [6, 3] := by decide +kernel
theorem aw_ok : zgu aw = true := by decide +kernel
theorem ztj : rdOk [6, 3] = true := by decide +kernel
theorem zkz : zbh aw := fun i hi => by
 unfold aw
 by_cases h0 : i = 0
 ·subst h0; exact ⟨_, rfl⟩
 ·by_cases h2 : i = 2
  ·subst h2; exact ⟨_, rfl⟩
  ·simp only [h0, h2, if_false]
   exact zea i hi
theorem ztk {i : Nat} (h : scalar i = true) : i < 26 := by unfold scalar at h; simp only [Bool.and_eq_true, decide_eq_true_eq] at h; exact h.1
theorem aw_c : ∀ i, scalar i = true → aw.c i = (rdM [6, 3]).c i := fun i hi => by
 have h := ztk hi
 have : i = 0 ∨ i = 1 ∨ i = 2 ∨ i = 3 ∨ i = 4 ∨ i = 5 ∨ i = 6 ∨ i = 7 ∨ i = 8 ∨ i = 9 ∨ i = 10 ∨ i = 11 ∨ i = 12 ∨ i = 13 ∨ i = 14 ∨ i = 15 ∨ i = 16 ∨ i = 17 ∨ i = 18 ∨ i = 19 ∨ i = 20 ∨ i = 21 ∨ i = 22 ∨ i = 23 ∨ i = 24 ∨ i = 25 := by omega
 rcases this with rfl | rfl | rfl | rfl | rfl | rfl | rfl | rfl | rfl | rfl | rfl | rfl | rfl | rfl | rfl | rfl | rfl | rfl | rfl | rfl | rfl | rfl | rfl | rfl | rfl | rfl
 ·exact (by kernel_rfl : aw.c 0 = (rdM [6, 3]).c 0)
 ·exact (by kernel_rfl : aw.c 1 = (rdM [6, 3]).c 1)
 ·exact (by kernel_rfl : aw.c 2 = (rdM [6, 3]).c 2)
 ·exact absurd hi (by decide)
 ·exact (by kernel_rfl : aw.c 4 = (rdM [6, 3]).c 4)
 ·exact (by kernel_rfl : aw.c 5 = (rdM [6, 3]).c 5)
 ·exact (by kernel_rfl : aw.c 6 = (rdM [6, 3]).c 6)
 ·exact (by kernel_rfl : aw.c 7 = (rdM [6, 3]).c 7)
 ·exact absurd hi (by decide)
 ·exact absurd hi (by decide)
 ·exact absurd hi (by decide)
 ·exact (by kernel_rfl : aw.c 11 = (rdM [6, 3]).c 11)
 ·exact (by kernel_rfl : aw.c 12 = (rdM [6, 3]).c 12)
 ·exact (by kernel_rfl : aw.c 13 = (rdM [6, 3]).c 13)
 ·exact (by kernel_rfl : aw.c 14 = (rdM [6, 3]).c 14)
 ·exact (by kernel_rfl : aw.c 15 = (rdM [6, 3]).c 15)
 ·exact (by kernel_rfl : aw.c 16 = (rdM [6, 3]).c 16)
 ·exact (by kernel_rfl : aw.c 17 = (rdM [6, 3]).c 17)
 ·exact (by kernel_rfl : aw.c 18 = (rdM [6, 3]).c 18)
 ·exact (by kernel_rfl : aw.c 19 = (rdM [6, 3]).c 19)
 ·exact (by kernel_rfl : aw.c 20 = (rdM [6, 3]).c 20)
 ·exact (by kernel_rfl : aw.c 21 = (rdM [6, 3]).c 21)
 ·exact (by kernel_rfl : aw.c 22 = (rdM [6, 3]).c 22)
 ·exact (by kernel_rfl : aw.c 23 = (rdM [6, 3]).c 23)
 ·exact (by kernel_rfl : aw.c 24 = (rdM [6, 3]).c 24)
 ·exact (by kernel_rfl : aw.c 25 = (rdM [6, 3]).c 25)
theorem zla : zdk aw := ⟨aw_ok, by rw [zou]; exact ztj, by
 rw [zou]
 refine ⟨aw_c, fun j fs hj => ?_⟩
 simp only [zah, List.mem_cons, Prod.mk.injEq, List.not_mem_nil, or_false] at hj
 rcases hj with ⟨rfl, rfl⟩ | ⟨rfl, rfl⟩ | ⟨rfl, rfl⟩ | ⟨rfl, rfl⟩ <;> kernel_rfl⟩
theorem aw_seal : znq (payB aw) = (zcc [6, 3], 0) := by rw [zot zkz zla, zou]
theorem aw_dec : decM (zcc [6, 3]) = (rdM [6, 3], 0) := by
 have ho : zdf (zcc [6, 3]) = some [6, 3] := PFr.openL_sealL (by have := zti zkz aw_ok; rwa [zou] at this)
 unfold decM
 rw [ho]
 simp only [ztj, if_true]
theorem zov : Small aw := by
 refine ⟨⟨fun i => ?_, fun j r hr => nomatch hr⟩, fun j => Nat.zero_le _, fun j r hr => nomatch hr⟩
 unfold aw
 intro s hs
 by_cases h0 : i = 0
 ·simp [h0] at hs
 ·by_cases h2 : i = 2
  ·simp [h2] at hs
  ·simp only [h0, h2, if_false, zdu] at hs
   cases hk : zck i <;> rw [hk] at hs <;> first | cases hs; exact Nat.zero_le _ | cases hs
end Go.Proofs.Ytcbehfbfaonanaa.Wr
end
section
namespace Go.Proofs.Ytcbehfbfaonanaa.Wr
open Go.RowKit Go.Proofs.YtcbehfbfaonanaaW.PrintWords Go.Proofs.YtcbehfbfaonanaaW.PrintLast Go.Proofs.YtcbehfbfaonanaaW.PrintMore Go.Proofs.Ytcbehfbfaonanaa.Pk
open Go.Proofs.Ytcbehfbfaonanaa.PFr (zcc zdf ansE Ok)
set_option linter.unusedVariables false
set_option linter.unusedSimpArgs false
theorem ztl (w : World) : MsgRd w (.agg (msgC aw.c nils)) aw nils := ⟨rfl, zkz, fun _ _ _ r hr => (nomatch hr), fun j fs hj => ⟨none, 0, rfl, fun _ => rfl, fun h => absurd rfl h⟩⟩
theorem aw_enc (w : World) : Calls Try.prog 11 #[.agg (msgC aw.c nils)] w (IsBE (zcc [6, 3]) 0 w) := by
 have h := zkb w _ aw nils (ztl w) zov zla
 rw [aw_seal] at h
 exact h
theorem aw_isB : (∀ x ∈ zcc [6, 3], 0 ≤ x ∧ x < 256) ∧ (zcc [6, 3]).length ≤ 9000000000 := by decide +kernel
theorem znr : ∀ j, (rdM [6, 3]).L j = [] := fun j => by
 have : (rdM [6, 3]).L = fun _ => [] := by kernel_rfl
 rw [this]
theorem aw_ne : ¬ MEq aw zcn := fun h => by
 have := h.1 0 rfl
 simp [aw, zcn, zdu, zck] at this
theorem aw_any {w w' : World} {v : Value} {sv : Nat → Value} (h : MsgRd w v (rdM [6, 3]) sv) : MsgRd w' v (rdM [6, 3]) sv :=
 ⟨h.eq, h.typed, h.fit, fun j fs hj => by
  obtain ⟨A, c, e, h0, h1⟩ := h.rd j fs hj
  exact ⟨A, c, e, h0, fun h => absurd (znr j) h⟩⟩
def IsGot (w : World) (e : Ending) (w' : World) : Prop := Below w.heap.size w w' ∧ ∃ sv, e = .returned (.tuple #[.agg (msgC (rdM [6, 3]).c sv), .int .i64 0]) ∧ ∀ W, MsgRd W (.agg (msgC (rdM [6, 3]).c sv)) (rdM [6, 3]) sv
theorem aw_got (w : World) (v : Value) (h : BRd w v (zcc [6, 3])) : Calls Try.prog 18 #[v] w (IsGot w) := by
 refine (decode_c w v _ h aw_isB.1 aw_isB.2).mono ?_
 rintro e w' ⟨hB, v', rfl, sv, hM, _⟩
 rw [aw_dec] at hM ⊢
 obtain rfl := hM.agg
 exact ⟨hB, _, rfl, fun W => aw_any hM⟩
theorem awake_c (w : World) : Calls Try.prog 8 #[] w (zgj True w) := by
 have HME := aK (show MEq (rdM [6, 3]) aw from ⟨fun i hi => (aw_c i hi).symm, fun j _ _ => znr j⟩)
 have HS2 := aK (fun (W : World) => zdb zla (zja W _ aw nils (ztl W) zov))
 have HS3 : Aside0 (∀ W : World, Calls Try.prog 17 #[.agg (msgC aw.c nils), .agg #[.int .i64 0, .int .i64 0, .int .i64 0, .slice none 0 0, .int .i64 0, .int .i64 0, .int .i64 0, .int .i64 0, .slice none 0 0, .slice none 0 0, .slice none 0 0, .int .i64 0, .int .i64 0, .bool false, .int .i64 0, .int .i64 0, .string ⟨#[]⟩, .bool false, .string ⟨#[]⟩, .int .i64 0, .int .i64 0, .int .i64 0, .int .i64 0, .int .i64 0, .bool false, .string ⟨#[]⟩]] W (fun e w' => e = .returned (.bool false) ∧ Below W.heap.size W w')) := aK (fun (W : World) => zet aw_ne (zgb W _ _ aw zcn nils nils (ztl W) (zjb W) (fun j => Nat.zero_le _) (fun j => Nat.zero_le _)))
 go_enter Try.func8, Try.ntmps8
 go_wp2_with (first | ((with_reducible refine zag (N := 1) rfl ?_); refine zbe rfl 35 rfl _ (zci _) ?_; intro g1 w1 hg hbox hb; have HX1 := aK hbox; have HB1 := aK hb; have HG1 := aK hg; clear hg hbox hb) | ((with_reducible refine zan (t := 35) (p := 1) rfl ?_); refine zbk rfl 35 (.tmp 1) (.tmp 6) rfl g1 rfl (msgC aw.c nils) _ rfl 35 HX1.out rfl zay (ztl w).one ?_; intro w2 hX hO; have HX2 := aK hX; have HB2 := aK (zaz HB1.out hO HB1.out.size (fun k hk => by have := HG1.out; have hk' : k = g1 := hk; omega)); clear hX hO) | ((with_reducible refine zag (N := 8) rfl ?_); refine zbl rfl 35 (.tmp 1) rfl g1 rfl (msgC aw.c nils) 35 HX2.out _ Try.underlying35 rfl zay ?_) | (go_at_call 11; (with_reducible refine (aw_enc _).mono ?_); rintro e w3 ⟨hB, vv, rfl, hv⟩; have HB3 := aK (HB2.out.trans (hB.mono HB2.out.size)); obtain ⟨A', c', es, h1, h2⟩ := id hv; have HV := aK (show BRd w3 vv _ from hv); subst es; have HG := aK (aw_got w3 _ HV.out); have HX32 := aK ((hB.block g1 (zad HX2.out)).trans HX2.out); clear hB hv h1 h2 HV) | (go_at_call 18; (with_reducible refine HG.out.mono ?_); rintro e w4 ⟨hB, sv, rfl, hOne⟩; have HB4 := aK (HB3.out.trans (hB.mono HB3.out.size)); have HOn := aK hOne; have HX42 := aK ((hB.block g1 (zad HX32.out)).trans HX32.out); clear hB hOne) | ((with_reducible refine zag (N := 4) rfl ?_); refine zbe rfl 35 rfl _ (zci _) ?_; intro g4 w5 hg hbox hb; have HX5 := aK hbox; have HB5 := aK (HB4.out.trans (hb.mono HB4.out.size)); have HG5 := aK (show w.heap.size ≤ g4 from by rw [hg]; exact HB4.out.size); have HG4 := aK (show g1 ≠ g4 from by have := zad HX42.out; omega); have HX52 := aK ((hb.block g1 (zad HX42.out)).trans HX42.out); clear hg hbox hb) | ((with_reducible refine zan (t := 35) (p := 4) rfl ?_); refine zbk rfl 35 (.tmp 4) (.tmp 15) rfl g4 rfl (msgC (rdM [6, 3]).c sv) _ rfl 35 HX5.out rfl zay (HOn.out default).one ?_; intro w6 hX hO; have HX6 := aK hX; have HX62 := aK (hO.blk HX52.out (by have := HG4.out; omega)); have HB6 := aK (zaz HB5.out hO HB5.out.size (fun k hk => by have := HG5.out; have hk' : k = g4 := hk; omega)); have HS1 := aK (fun (W : World) => zdb (show MEq (rdM [6, 3]) aw from HME.out) (zgb W _ _ _ aw sv nils (HOn.out W) (ztl W) (fun j => by rw [znr]; exact Nat.zero_le _) (fun j => Nat.zero_le _))); clear hX hO) | ((with_reducible refine zag (N := 29) rfl ?_); refine zbi rfl ?_; refine zbl rfl 35 (.tmp 4) rfl g4 rfl (msgC (rdM [6, 3]).c sv) 35 HX6.out _ Try.underlying35 rfl zay ?_) | ((with_reducible refine zag (N := 30) rfl ?_); refine zbi rfl ?_; refine zbl rfl 35 (.tmp 1) rfl g1 rfl (msgC aw.c nils) 35 HX62.out _ Try.underlying35 rfl zay ?_) | (go_at_call 17; (with_reducible refine (HS1.out _).mono ?_); rintro e w7 ⟨rfl, hB⟩; have HB7 := aK (HB6.out.trans (hB.mono HB6.out.size)); have HX7 := aK ((hB.block g1 (zad HX62.out)).trans HX62.out); clear hB HS1) | ((with_reducible refine zag (N := 34) rfl ?_); refine zbi rfl ?_; refine zbl rfl 35 (.tmp 1) rfl g1 rfl (msgC aw.c nils) 35 HX7.out _ Try.underlying35 rfl zay ?_) | (go_at_call 13; (with_reducible refine (HS2.out _).mono ?_); rintro e w8 ⟨rfl, hB⟩; have HB8 := aK (HB7.out.trans (hB.mono HB7.out.size)); have HX8 := aK ((hB.block g1 (zad HX7.out)).trans HX7.out); clear hB) | ((with_reducible refine zag (N := 38) rfl ?_); refine zbi rfl ?_; refine zbl rfl 35 (.tmp 1) rfl g1 rfl (msgC aw.c nils) 35 HX8.out _ Try.underlying35 rfl zay ?_) | (go_at_call 17; (with_reducible refine (HS3.out _).mono ?_); rintro e w9 ⟨rfl, hB⟩; have HB9 := aK (HB8.out.trans (hB.mono HB8.out.size)); clear hB) | fail)
 go_ret
 exact ⟨true, rfl, by simp, HB9.out⟩
end Go.Proofs.Ytcbehfbfaonanaa.Wr
end
section
namespace Go.Proofs.Ytcbehfbfaonanaa.Wr
open Go.RowKit Go.ChangeShapes Go.WideShapes Go.ChangeAt Go.Proofs.YtcbehfbfaonanaaW.PrintWords Go.Proofs.Ytcbehfbfaonanaa.Pk
set_option linter.unusedVariables false
def ztm (P : Program) (g : TypeId → Option (List Fld)) : Nat → List Field → Option (List Fld)
 | _, [] => some []
 | o, f :: fs => match g f.type, ztm P g (o + P.cellsOf f.type) fs with
  | some a, some b => if f.offset = o ∧ P.cellsOf f.type = a.length then some (a ++ b) else none
  | _, _ => none
def flat (P : Program) : Nat → TypeId → Option (List Fld)
 | 0, _ => none
 | n + 1, t => match P.underlying t with
  | some (.int .i64) => some [.num 0 0]
  | some .bool => some [.flag]
  | some .string => some [.text 0]
  | some (.struct fs) => match ztm P (flat P n) 0 fs.toList with
   | some ks => if P.cellsOf t = ks.length then some ks else none
   | none => none
  | _ => none
def zns (N : Nat) (f : Fld) (v : Value) : Prop := f.fits v ∧ Lite N v ∧ ∀ n, v = .int .i64 n → (Lit.int .i64 n).wf = true
theorem zid {H : Type} : ∀ {ds : List (DataW H)} {d : DataW H}, d ∈ ds → Rows.uptoBulk d ≤ Rows.uptoBulkAll ds
 | e :: r, d, h => by
  have e1 : Rows.uptoBulkAll (e :: r) = Rows.uptoBulk e + Rows.uptoBulkAll r := by simp [Rows.uptoBulkAll]
  rcases List.mem_cons.1 h with rfl | h
  ·omega
  ·have := zid h; omega
theorem zow {H : Type} (ds : List (DataW H)) : Rows.uptoBulk (.agg ds) = Rows.uptoBulkAll ds + 1 := by simp [Rows.uptoBulk]
section
variable {H : Type} {enc : TypeId × Value → H} {P : Program} {W : World} {base : Nat} {spare : Nat → Bool} {held : Bool}
theorem zjd {N n : Nat} (ih : ∀ t ks, flat P n t = some ks → ∀ fuel cs x, DataW.trod enc P W base spare held fuel t cs = some x → Rows.uptoBulk x.1 ≤ N → cs.length = ks.length ∧ ∀ (i : Nat) f v, ks[i]? = some f → cs[i]? = some v → zns N f v) :
  ∀ (fs : List Field) (o : Nat) (ks : List Fld), ztm P (flat P n) o fs = some ks → ∀ cs : List Value, (∀ f, f ∈ fs → ∃ fuel x, DataW.trod enc P W base spare held fuel f.type ((cs.drop f.offset).take (P.cellsOf f.type)) = some x ∧ Rows.uptoBulk x.1 ≤ N) →
   ∀ (i : Nat) f v, ks[i]? = some f → cs[o + i]? = some v → zns N f v
 | [], o, ks, h, cs, _, i, f, v, hi, _ => by
  unfold ztm at h
  injection h with h
  subst h
  simp at hi
 | g :: fs, o, ks, h, cs, ht, i, f, v, hi, hv => by
  unfold ztm at h
  split at h
  ·rename_i a b ha hb
   split at h
   ·rename_i hc
    injection h with h
    subst h
    obtain ⟨h1, h2⟩ := hc
    obtain ⟨fuel, x, hx, hN⟩ := ht g (List.mem_cons_self ..)
    obtain ⟨hl, hk⟩ := ih _ _ ha _ _ _ hx hN
    by_cases hia : i < a.length
    ·rw [List.getElem?_append_left hia] at hi
     refine hk i f v hi ?_
     rw [List.getElem?_take, if_pos (by omega), List.getElem?_drop, h1]
     exact hv
    ·rw [List.getElem?_append_right (by omega)] at hi
     refine zjd ih fs (o + P.cellsOf g.type) b hb cs (fun f' hf' => ht f' (List.mem_cons_of_mem _ hf')) (i - a.length) f v hi ?_
     rw [show o + P.cellsOf g.type + (i - a.length) = o + i by omega]
     exact hv
   ·cases h
  ·cases h
theorem zje {N : Nat} : ∀ (n : Nat) (t : TypeId) (ks : List Fld), flat P n t = some ks → ∀ fuel cs x, DataW.trod enc P W base spare held fuel t cs = some x → Rows.uptoBulk x.1 ≤ N → cs.length = ks.length ∧ ∀ (i : Nat) f v, ks[i]? = some f → cs[i]? = some v → zns N f v
 | 0, t, ks, h => by unfold flat at h; cases h
 | n + 1, t, ks, h => by
  intro fuel cs x hx hN
  unfold flat at h
  split at h
  ·rename_i hu
   injection h with h
   subst h
   obtain ⟨z, rfl, _, hw⟩ := DataW.trod_int hu hx
   refine ⟨rfl, fun i f v hi hv => ?_⟩
   match i, hi, hv with
   | 0, hi, hv =>
    simp only [List.getElem?_cons_zero, Option.some.injEq] at hi hv
    subst hi hv
    exact ⟨⟨_, rfl⟩, (fun s hs => by cases hs), (fun m hm => by cases hm; exact hw)⟩
   | i + 1, hi, _ => simp at hi
  ·rename_i hu
   injection h with h
   subst h
   obtain ⟨z, rfl, _⟩ := DataW.trod_bool hu hx
   refine ⟨rfl, fun i f v hi hv => ?_⟩
   match i, hi, hv with
   | 0, hi, hv =>
    simp only [List.getElem?_cons_zero, Option.some.injEq] at hi hv
    subst hi hv
    exact ⟨⟨_, rfl⟩, (fun s hs => by cases hs), (fun m hm => by cases hm)⟩
   | i + 1, hi, _ => simp at hi
  ·rename_i hu
   injection h with h
   subst h
   obtain ⟨z, rfl, rfl, _⟩ := DataW.trod_string hu hx
   refine ⟨rfl, fun i f v hi hv => ?_⟩
   match i, hi, hv with
   | 0, hi, hv =>
    simp only [List.getElem?_cons_zero, Option.some.injEq] at hi hv
    subst hi hv
    refine ⟨⟨_, rfl⟩, (fun s hs => ?_), (fun m hm => by cases hm)⟩
    cases hs
    have e : Rows.uptoBulk (.lit (.string z.data.toList) : DataW H) = z.data.toList.length + 1 := by simp [Rows.uptoBulk]
    rw [e] at hN
    have : z.size = z.data.toList.length := (Array.length_toList (xs := z.data)).symm
    omega
   | i + 1, hi, _ => simp at hi
  ·rename_i fs hu
   split at h
   ·rename_i ks' hks
    split at h
    ·rename_i hc
     injection h with h
     subst h
     obtain ⟨xs, m, rfl, rfl, hl, hxl, hf⟩ := DataW.trod_struct hu hx
     refine ⟨hl.trans hc, fun i f v hi hv => ?_⟩
     refine zjd (zje n) fs.toList 0 ks' hks cs (fun g hg => ?_) i f v hi (by rwa [Nat.zero_add])
     obtain ⟨j, hj⟩ := List.mem_iff_getElem?.1 hg
     have hj' : fs[j]? = some g := by simpa using hj
     have hjl : j < xs.length := by rw [hxl]; exact (Array.getElem?_eq_some_iff.1 hj').1
     have h1 := hf j g hj'
     rw [List.getElem?_eq_getElem hjl] at h1
     refine ⟨m, _, h1, ?_⟩
     have hN' : Rows.uptoBulkAll (xs.map (·.1)) + 1 ≤ N := by rw [← zow]; exact hN
     have := zid (List.mem_map_of_mem (f := (·.1)) (List.getElem_mem hjl))
     omega
    ·cases h
   ·cases h
  ·cases h
end
end Go.Proofs.Ytcbehfbfaonanaa.Wr
end
section
namespace Go.Proofs.Ytcbehfbfaonanaa.Wr
open Go.RowKit Go.ChangeShapes Go.WideShapes Go.ChangeAt Go.Deep Go.Proofs.YtcbehfbfaonanaaW.PrintWords Go.Proofs.Ytcbehfbfaonanaa.Pk
set_option linter.unusedVariables false
theorem bulk_pos {H : Type} (d : DataW H) : 1 ≤ Rows.uptoBulk d := by
 cases d with
 | lit l => cases l <;> simp [Rows.uptoBulk]
 | nil => simp [Rows.uptoBulk]
 | ptr d => simp [Rows.uptoBulk]
 | slice a b => simp [Rows.uptoBulk]
 | agg a => simp [Rows.uptoBulk]
 | iface a d => simp [Rows.uptoBulk]
 | map a => simp [Rows.uptoBulk]
 | held a => simp [Rows.uptoBulk]
theorem zox {H : Type} : ∀ ds : List (DataW H), ds.length ≤ Rows.uptoBulkAll ds
 | [] => Nat.zero_le _
 | d :: r => by
  have h1 := bulk_pos d
  have h2 := zox r
  have e : Rows.uptoBulkAll (d :: r) = Rows.uptoBulk d + Rows.uptoBulkAll r := by simp [Rows.uptoBulkAll]
  rw [e, List.length_cons]
  omega
def GoodR (N : Nat) (fs : List Fld) (r : List Value) : Prop := r.length = fs.length ∧ ∀ (i : Nat) f v, fs[i]? = some f → r[i]? = some v → zns N f v
def zmk : List Fld → List Fld → Bool
 | [], [] => true
 | f :: fs, g :: gs => f.like g && zmk fs gs
 | _, _ => false
theorem zgz : ∀ {a b : List Fld}, zmk a b = true → a.length = b.length
 | [], [], _ => rfl
 | f :: fs, g :: gs, h => by
  unfold zmk at h
  rw [Bool.and_eq_true] at h
  rw [List.length_cons, List.length_cons, zgz h.2]
theorem zoy : ∀ {a b : List Fld}, zmk a b = true → ∀ (i : Nat) f g, a[i]? = some f → b[i]? = some g → f.like g = true
 | [], [], _, i, f, g, h, _ => by simp at h
 | f :: fs, g :: gs, h, 0, f', g', h1, h2 => by
  unfold zmk at h
  rw [Bool.and_eq_true] at h
  simp only [List.getElem?_cons_zero, Option.some.injEq] at h1 h2
  subst h1 h2
  exact h.1
 | f :: fs, g :: gs, h, i + 1, f', g', h1, h2 => by
  unfold zmk at h
  rw [Bool.and_eq_true] at h
  exact zoy h.2 i f' g' (by simpa using h1) (by simpa using h2)
theorem GoodR.like {N : Nat} {a b : List Fld} {r : List Value} (h : GoodR N a r) (hl : zmk a b = true) : GoodR N b r := by
 refine ⟨h.1.trans (zgz hl), fun i g v hg hv => ?_⟩
 have hi : i < a.length := by rw [zgz hl]; exact (List.getElem?_eq_some_iff.1 hg).1
 have ha := List.getElem?_eq_getElem hi
 obtain ⟨h1, h2, h3⟩ := h.2 i _ v ha hv
 exact ⟨Fld.like_fits (zoy hl i _ g ha hg) h1, h2, h3⟩
theorem GoodR.fits {N : Nat} : ∀ {a : List Fld} {r : List Value}, GoodR N a r → Wr.fits a r
 | [], [], _ => trivial
 | [], _ :: _, h => by have := h.1; simp at this
 | _ :: _, [], h => by have := h.1; simp at this
 | f :: fs, v :: r, h => ⟨(h.2 0 f v rfl rfl).1, GoodR.fits (a := fs) (r := r) ⟨by have := h.1; simpa using this, fun i g u hg hu => h.2 (i + 1) g u (by simpa using hg) (by simpa using hu)⟩⟩
theorem GoodR.lites {N : Nat} {a : List Fld} {r : List Value} (h : GoodR N a r) : Lites N r := fun v hv => by
 obtain ⟨i, hi⟩ := List.mem_iff_getElem?.1 hv
 have hl : i < a.length := by rw [← h.1]; exact (List.getElem?_eq_some_iff.1 hi).1
 exact (h.2 i _ v (List.getElem?_eq_getElem hl) hi).2.1
theorem ztn {α : Type} {p : Nat → α → Prop} : ∀ n : Nat, (∀ i, i < n → ∃ e, p i e) → ∃ l : List α, l.length = n ∧ ∀ i e, l[i]? = some e → p i e
 | 0, _ => ⟨[], rfl, fun i e h => by simp at h⟩
 | n + 1, key => by
  obtain ⟨l, h1, h2⟩ := ztn n (fun i hi => key i (by omega))
  obtain ⟨e, he⟩ := key n (by omega)
  refine ⟨l ++ [e], by simp [h1], fun i e' h => ?_⟩
  rcases Nat.lt_or_ge i l.length with hlt | hge
  ·rw [List.getElem?_append_left hlt] at h
   exact h2 i e' h
  ·have hil : i = l.length := by
    have := (List.getElem?_eq_some_iff.1 h).1
    simp at this
    omega
   subst hil
   simp at h
   subst h
   rw [h1]
   exact he
theorem getD_some {cs : List Value} {i : Nat} (h : i < cs.length) : cs[i]? = some (cs.getD i undef) := by
 rw [List.getD_eq_getElem?_getD, List.getElem?_eq_getElem h]
 rfl
section
variable {H : Type} {enc : TypeId × Value → H} {P : Program} {W : World} {base : Nat} {spare : Nat → Bool} {held : Bool}
theorem zto {N n : Nat} {t e : TypeId} {ks : List Fld} {fuel : Nat} {cs : List Value} {x : DataW H × List MemPlace} (ht : P.underlying t = some (.slice e)) (hk : flat P n e = some ks) (hC : P.cellsOf e = ks.length)
  (h : DataW.trod enc P W base spare held fuel t cs = some x) (hN : Rows.uptoBulk x.1 ≤ N) :
  ∃ sv rows, cs = [sv] ∧ ListRd W sv ks.length rows ∧ rows.length ≤ N ∧ ∀ r, r ∈ rows → GoodR N ks r := by
 rcases open_slice ht h with ⟨rfl, _⟩ | ⟨a, len, cap, m, n', D, Pl, rfl, hb, hl, hm, hmm, rfl, hx⟩
 ·exact ⟨_, [], rfl, ⟨none, 0, rfl, fun _ => rfl, fun h => absurd rfl h⟩, Nat.zero_le _, fun r hr => nomatch hr⟩
 have hlm : len ≤ m := by rw [hmm]; split <;> omega
 have hB : Rows.uptoBulkAll ((List.range len).map D) + 1 ≤ N := by
  have e : Rows.uptoBulk (.slice ((List.range len).map D) ((List.range (m - len)).map fun j => D (len + j)) : DataW H) = Rows.uptoBulkAll ((List.range len).map D) + Rows.uptoBulkAll ((List.range (m - len)).map fun j => D (len + j)) + 1 := by simp [Rows.uptoBulk]
  have h2 : Rows.uptoBulk (.slice ((List.range len).map D) ((List.range (m - len)).map fun j => D (len + j)) : DataW H) ≤ N := hN
  rw [e] at h2
  omega
 have hlen : len ≤ N := by
  have := zox ((List.range len).map D)
  rw [List.length_map, List.length_range] at this
  omega
 obtain ⟨rows, h1, h2⟩ := ztn (p := fun i r => (∀ (j : Nat) v, r[j]? = some v → W.cell? (a.add (i * ks.length + j)) = some v) ∧ GoodR N ks r) len (fun i hi => by
  obtain ⟨cs', hc, ht'⟩ := hx i (by omega)
  obtain ⟨_, hcl, hat⟩ := World.cells?_some hc
  have hD := zid (ds := (List.range len).map D) (d := D i) (List.mem_map.2 ⟨i, List.mem_range.2 hi, rfl⟩)
  obtain ⟨_, hg⟩ := zje n e ks hk _ _ _ ht' (show Rows.uptoBulk (D i) ≤ N by omega)
  refine ⟨cs', fun j v hv => ?_, hcl.trans hC, hg⟩
  have hj := (List.getElem?_eq_some_iff.1 hv).1
  rw [← Go.Deep.add_add, ← hC, hat j (by omega), hv])
 subst h1
 refine ⟨_, rows, rfl, ⟨some a, cap, rfl, (fun h => nomatch h), fun _ => ⟨a, rfl, fun k r hr j v hv => (h2 k r hr).1 j v hv⟩⟩, hlen, fun r hr => ?_⟩
 obtain ⟨i, hi⟩ := List.mem_iff_getElem?.1 hr
 exact (h2 i r hi).2
structure Lying (W : World) (N : Nat) (cs : List Value) : Prop where
 len : cs.length = 26
 good : ∀ i, scalar i = true → ∀ v, cs[i]? = some v → zns N (zck i) v
 list : ∀ j fs, (j, fs) ∈ zah → ∃ sv rows, cs[j]? = some sv ∧ ListRd W sv fs.length rows ∧ rows.length ≤ N ∧ ∀ r, r ∈ rows → GoodR N fs r
theorem ztp {N : Nat} {fuel : Nat} {cs : List Value} {x : DataW H × List MemPlace} (h : DataW.trod enc Try.prog W base spare held fuel 32 cs = some x) (hN : Rows.uptoBulk x.1 ≤ N) : Lying W N cs := by
 obtain ⟨xs, n, rfl, rfl, hl, hxl, hf⟩ := DataW.trod_struct Try.underlying32 h
 have hlen : cs.length = 26 := hl.trans (by kernel_rfl)
 have hN' : Rows.uptoBulkAll (xs.map (·.1)) + 1 ≤ N := by rw [← zow]; exact hN
 have get : ∀ (j : Nat) (f : Field), DataW.trod enc Try.prog W base spare held n f.type ((cs.drop f.offset).take (Try.prog.cellsOf f.type)) = xs[j]? → j < xs.length → ∃ y, DataW.trod enc Try.prog W base spare held n f.type ((cs.drop f.offset).take (Try.prog.cellsOf f.type)) = some y ∧ Rows.uptoBulk y.1 ≤ N := by
  intro j f he hj
  rw [List.getElem?_eq_getElem hj] at he
  have := zid (List.mem_map_of_mem (f := (·.1)) (List.getElem_mem hj))
  exact ⟨_, he, by omega⟩
 have flatAt : ∀ (j : Nat) (f : Field) (ks : List Fld), DataW.trod enc Try.prog W base spare held n f.type ((cs.drop f.offset).take (Try.prog.cellsOf f.type)) = xs[j]? → j < xs.length → flat Try.prog 4 f.type = some ks → ∀ (i o : Nat) g v, ks[i]? = some g → f.offset + i = o → cs[o]? = some v → zns N g v := by
  intro j f ks he hj hk i o g v hi ho hv
  obtain ⟨y, hy, hb⟩ := get j f he hj
  obtain ⟨h1, h2⟩ := zje 4 _ ks hk _ _ _ hy hb
  refine h2 i g v hi ?_
  have hil := (List.getElem?_eq_some_iff.1 hi).1
  rw [List.length_take] at h1
  rw [List.getElem?_take, if_pos (by omega), List.getElem?_drop, ho]
  exact hv
 have listAt : ∀ (j : Nat) (f : Field) (e : TypeId) (ks fs : List Fld), DataW.trod enc Try.prog W base spare held n f.type ((cs.drop f.offset).take (Try.prog.cellsOf f.type)) = xs[j]? → j < xs.length → Try.prog.underlying f.type = some (.slice e) → flat Try.prog 4 e = some ks → Try.prog.cellsOf e = ks.length → zmk ks fs = true → ∃ sv rows, cs[f.offset]? = some sv ∧ ListRd W sv fs.length rows ∧ rows.length ≤ N ∧ ∀ r, r ∈ rows → GoodR N fs r := by
  intro j f e ks fs he hj hu hk hC hlk
  obtain ⟨y, hy, hb⟩ := get j f he hj
  obtain ⟨sv, rows, h1, h2, h3, h4⟩ := zto hu hk hC hy hb
  refine ⟨sv, rows, ?_, zgz hlk ▸ h2, h3, fun r hr => (h4 r hr).like hlk⟩
  have h5 : ((cs.drop f.offset).take (Try.prog.cellsOf f.type))[0]? = some sv := by rw [h1]; rfl
  rw [List.getElem?_take] at h5
  split at h5
  ·rw [List.getElem?_drop, Nat.add_zero] at h5
   exact h5
  ·cases h5
 have hxs : xs.length = 20 := hxl
 refine ⟨hlen, fun i hi v hv => ?_, fun j fs hj => ?_⟩
 ·match i, hi with
  | 0, _ => exact flatAt 0 _ [.num 0 0] (hf 0 _ rfl) (by omega) (by kernel_rfl) 0 0 _ v rfl rfl hv
  | 1, _ => exact flatAt 1 _ [.num 0 0] (hf 1 _ rfl) (by omega) (by kernel_rfl) 0 1 _ v rfl rfl hv
  | 2, _ => exact flatAt 2 _ [.num 0 0] (hf 2 _ rfl) (by omega) (by kernel_rfl) 0 2 _ v rfl rfl hv
  | 3, hi => exact absurd hi (by decide)
  | 4, _ => exact flatAt 4 _ [.num 0 0, .num 0 0] (hf 4 _ rfl) (by omega) (by kernel_rfl) 0 4 _ v rfl rfl hv
  | 5, _ => exact flatAt 4 _ [.num 0 0, .num 0 0] (hf 4 _ rfl) (by omega) (by kernel_rfl) 1 5 _ v rfl rfl hv
  | 6, _ => exact flatAt 5 _ [.num 0 0] (hf 5 _ rfl) (by omega) (by kernel_rfl) 0 6 _ v rfl rfl hv
  | 7, _ => exact flatAt 6 _ [.num 0 0] (hf 6 _ rfl) (by omega) (by kernel_rfl) 0 7 _ v rfl rfl hv
  | 8, hi => exact absurd hi (by decide)
  | 9, hi => exact absurd hi (by decide)
  | 10, hi => exact absurd hi (by decide)
  | 11, _ => exact flatAt 10 _ [.num 0 0, .num 0 0] (hf 10 _ rfl) (by omega) (by kernel_rfl) 0 11 _ v rfl rfl hv
  | 12, _ => exact flatAt 10 _ [.num 0 0, .num 0 0] (hf 10 _ rfl) (by omega) (by kernel_rfl) 1 12 _ v rfl rfl hv
  | 13, _ => exact flatAt 11 _ [.flag] (hf 11 _ rfl) (by omega) (by kernel_rfl) 0 13 _ v rfl rfl hv
  | 14, _ => exact flatAt 12 _ [.num 0 0] (hf 12 _ rfl) (by omega) (by kernel_rfl) 0 14 _ v rfl rfl hv
  | 15, _ => exact flatAt 13 _ [.num 0 0] (hf 13 _ rfl) (by omega) (by kernel_rfl) 0 15 _ v rfl rfl hv
  | 16, _ => exact flatAt 14 _ [.text 0] (hf 14 _ rfl) (by omega) (by kernel_rfl) 0 16 _ v rfl rfl hv
  | 17, _ => exact flatAt 15 _ [.flag] (hf 15 _ rfl) (by omega) (by kernel_rfl) 0 17 _ v rfl rfl hv
  | 18, _ => exact flatAt 16 _ [.text 0] (hf 16 _ rfl) (by omega) (by kernel_rfl) 0 18 _ v rfl rfl hv
  | 19, _ => exact flatAt 17 _ [.num 0 0, .num 0 0] (hf 17 _ rfl) (by omega) (by kernel_rfl) 0 19 _ v rfl rfl hv
  | 20, _ => exact flatAt 17 _ [.num 0 0, .num 0 0] (hf 17 _ rfl) (by omega) (by kernel_rfl) 1 20 _ v rfl rfl hv
  | 21, _ => exact flatAt 18 _ [.num 0 0] (hf 18 _ rfl) (by omega) (by kernel_rfl) 0 21 _ v rfl rfl hv
  | 22, _ => exact flatAt 19 _ [.num 0 0, .num 0 0, .flag, .text 0] (hf 19 _ rfl) (by omega) (by kernel_rfl) 0 22 _ v rfl rfl hv
  | 23, _ => exact flatAt 19 _ [.num 0 0, .num 0 0, .flag, .text 0] (hf 19 _ rfl) (by omega) (by kernel_rfl) 1 23 _ v rfl rfl hv
  | 24, _ => exact flatAt 19 _ [.num 0 0, .num 0 0, .flag, .text 0] (hf 19 _ rfl) (by omega) (by kernel_rfl) 2 24 _ v rfl rfl hv
  | 25, _ => exact flatAt 19 _ [.num 0 0, .num 0 0, .flag, .text 0] (hf 19 _ rfl) (by omega) (by kernel_rfl) 3 25 _ v rfl rfl hv
  | i + 26, hi => exfalso; unfold scalar at hi; rw [Bool.and_eq_true] at hi; have := of_decide_eq_true hi.1; omega
 ·simp only [zah, List.mem_cons, Prod.mk.injEq, List.not_mem_nil, or_false] at hj
  rcases hj with ⟨rfl, rfl⟩ | ⟨rfl, rfl⟩ | ⟨rfl, rfl⟩ | ⟨rfl, rfl⟩
  ·exact listAt 3 _ 66 [.num 0 0, .num 0 0, .num 0 0, .num 0 0, .text 0, .flag, .text 0] zak (hf 3 _ rfl) (by omega) Try.underlying22 (by kernel_rfl) (by kernel_rfl) rfl
  ·exact listAt 7 _ 68 [.text 0, .num 0 0, .num 0 0, .flag, .text 0] zat (hf 7 _ rfl) (by omega) Try.underlying25 (by kernel_rfl) (by kernel_rfl) rfl
  ·exact listAt 8 _ 70 [.num 0 0, .num 0 0, .num 0 0, .num 0 0] zau (hf 8 _ rfl) (by omega) Try.underlying26 (by kernel_rfl) (by kernel_rfl) rfl
  ·exact listAt 9 _ 72 [.num 0 0, .num 0 0, .flag] zaj (hf 9 _ rfl) (by omega) Try.underlying27 (by kernel_rfl) (by kernel_rfl) rfl
def zqp (cs : List Value) (L : Nat → List (List Value)) : M := ⟨fun i => if scalar i = true then cs.getD i undef else undef, L⟩
structure Neat (m : M) : Prop where
 off : ∀ i, scalar i = false → m.c i = undef
 none : ∀ j, (∀ fs, (j, fs) ∉ zah) → m.L j = []
 wf : ∀ i n, m.c i = .int .i64 n → (Lit.int .i64 n).wf = true
 wfs : ∀ j r, r ∈ m.L j → ∀ v, v ∈ r → ∀ n, v = .int .i64 n → (Lit.int .i64 n).wf = true
theorem list26 {cs : List Value} (h : cs.length = 26) : cs = [cs.getD 0 undef, cs.getD 1 undef, cs.getD 2 undef, cs.getD 3 undef, cs.getD 4 undef, cs.getD 5 undef, cs.getD 6 undef, cs.getD 7 undef, cs.getD 8 undef, cs.getD 9 undef, cs.getD 10 undef, cs.getD 11 undef, cs.getD 12 undef, cs.getD 13 undef, cs.getD 14 undef, cs.getD 15 undef, cs.getD 16 undef, cs.getD 17 undef, cs.getD 18 undef, cs.getD 19 undef, cs.getD 20 undef, cs.getD 21 undef, cs.getD 22 undef, cs.getD 23 undef, cs.getD 24 undef, cs.getD 25 undef] := by
 apply List.ext_getElem?
 intro i
 rcases Nat.lt_or_ge i 26 with hi | hi
 ·match i, hi with
  | 0, _ => exact getD_some (by omega)
  | 1, _ => exact getD_some (by omega)
  | 2, _ => exact getD_some (by omega)
  | 3, _ => exact getD_some (by omega)
  | 4, _ => exact getD_some (by omega)
  | 5, _ => exact getD_some (by omega)
  | 6, _ => exact getD_some (by omega)
  | 7, _ => exact getD_some (by omega)
  | 8, _ => exact getD_some (by omega)
  | 9, _ => exact getD_some (by omega)
  | 10, _ => exact getD_some (by omega)
  | 11, _ => exact getD_some (by omega)
  | 12, _ => exact getD_some (by omega)
  | 13, _ => exact getD_some (by omega)
  | 14, _ => exact getD_some (by omega)
  | 15, _ => exact getD_some (by omega)
  | 16, _ => exact getD_some (by omega)
  | 17, _ => exact getD_some (by omega)
  | 18, _ => exact getD_some (by omega)
  | 19, _ => exact getD_some (by omega)
  | 20, _ => exact getD_some (by omega)
  | 21, _ => exact getD_some (by omega)
  | 22, _ => exact getD_some (by omega)
  | 23, _ => exact getD_some (by omega)
  | 24, _ => exact getD_some (by omega)
  | 25, _ => exact getD_some (by omega)
  | i + 26, hi => omega
 ·rw [List.getElem?_eq_none (by omega), List.getElem?_eq_none (by simpa using hi)]
theorem open_msg {N : Nat} {b0 : Nat} {v : Value} {d : DataW H} {p : List MemPlace} (hv : Value.okWide Try.prog W .any b0 32 v) (h : DataW.Trod enc Try.prog W base spare held 32 v d p) (hN : Rows.uptoBulk d ≤ N) (hN1 : N ≤ 1048576) :
  ∃ m sv, MsgRd W v m sv ∧ Small m ∧ Neat m := by
 obtain ⟨arr, rfl, _⟩ := okWide_struct Try.underlying32 hv
 obtain ⟨fuel, hf⟩ := h
 have hL : Lying W N arr.toList := ztp hf hN
 obtain ⟨cs, rfl⟩ : ∃ cs : List Value, arr = cs.toArray := ⟨arr.toList, by simp⟩
 have hL : Lying W N cs := by simpa using hL
 have hlist : ∀ j, ∃ rows : List (List Value), (∀ fs, (j, fs) ∈ zah → ListRd W (cs.getD j undef) fs.length rows ∧ rows.length ≤ N ∧ ∀ r, r ∈ rows → GoodR N fs r) ∧ ((∀ fs, (j, fs) ∉ zah) → rows = []) := by
  intro j
  by_cases hj : ∃ fs, (j, fs) ∈ zah
  ·obtain ⟨fs, hj⟩ := hj
   obtain ⟨sv, rows, h1, h2, h3, h4⟩ := hL.list j fs hj
   have e : cs.getD j undef = sv := by rw [List.getD_eq_getElem?_getD, h1]; rfl
   refine ⟨rows, fun fs' hj' => ?_, fun hn => absurd hj (hn fs)⟩
   obtain rfl : fs' = fs := zlx hj' hj
   rw [e]
   exact ⟨h2, h3, h4⟩
  ·exact ⟨[], fun fs hf => absurd ⟨fs, hf⟩ hj, fun _ => rfl⟩
 obtain ⟨L, hLs⟩ : ∃ L : Nat → List (List Value), ∀ j, (∀ fs, (j, fs) ∈ zah → ListRd W (cs.getD j undef) fs.length (L j) ∧ (L j).length ≤ N ∧ ∀ r, r ∈ L j → GoodR N fs r) ∧ ((∀ fs, (j, fs) ∉ zah) → L j = []) :=
  ⟨fun j => Classical.choose (hlist j), fun j => Classical.choose_spec (hlist j)⟩
 have hcell : ∀ i, scalar i = true → zns N (zck i) (cs.getD i undef) := fun i hi => by
  have hl : i < cs.length := by
   rw [hL.len]
   unfold scalar at hi
   rw [Bool.and_eq_true] at hi
   exact of_decide_eq_true hi.1
  exact hL.good i hi _ (getD_some hl)
 have hrow : ∀ j r, r ∈ L j → ∃ fs, (j, fs) ∈ zah ∧ GoodR N fs r := fun j r hr => by
  by_cases hj : ∃ fs, (j, fs) ∈ zah
  ·obtain ⟨fs, hj⟩ := hj
   exact ⟨fs, hj, ((hLs j).1 fs hj).2.2 r hr⟩
  ·rw [(hLs j).2 (fun fs hf => hj ⟨fs, hf⟩)] at hr
   nomatch hr
 have c_of : ∀ i, scalar i = true → (zqp cs L).c i = cs.getD i undef := fun i hi => if_pos hi
 have hFit : Fit (zqp cs L) := fun j fs hj r hr => (((hLs j).1 fs hj).2.2 r hr).fits
 refine ⟨zqp cs L, fun j => cs.getD j undef, ⟨?_, fun i hi => ?_, hFit, fun j fs hj => ((hLs j).1 fs hj).1⟩, ⟨⟨fun i => ?_, fun j r hr => ?_⟩, fun j => ?_, Fit.wide hFit (fun j hj => (hLs j).2 hj)⟩, ⟨fun i hi => ?_, fun j hj => (hLs j).2 hj, fun i n hn => ?_, fun j r hr v hv n hn => ?_⟩⟩
 ·show Value.agg cs.toArray = Value.agg (msgC (zqp cs L).c fun j => cs.getD j undef)
  unfold msgC
  rw [c_of 0 rfl, c_of 1 rfl, c_of 2 rfl, c_of 4 rfl, c_of 5 rfl, c_of 6 rfl, c_of 7 rfl, c_of 11 rfl, c_of 12 rfl, c_of 13 rfl, c_of 14 rfl, c_of 15 rfl, c_of 16 rfl, c_of 17 rfl, c_of 18 rfl, c_of 19 rfl, c_of 20 rfl, c_of 21 rfl, c_of 22 rfl, c_of 23 rfl, c_of 24 rfl, c_of 25 rfl]
  exact congrArg (fun l : List Value => Value.agg l.toArray) (list26 hL.len)
 ·rw [c_of i hi]
  exact (hcell i hi).1
 ·cases hi : scalar i with
  | true =>
   rw [c_of i hi]
   intro s hs
   exact Nat.le_trans ((hcell i hi).2.1 s hs) hN1
  | false =>
   have e : (zqp cs L).c i = undef := by show (if scalar i = true then _ else _) = _; rw [hi]; rfl
   rw [e]
   intro s hs
   nomatch hs
 ·obtain ⟨fs, hj, hg⟩ := hrow j r hr
  intro v hv s hs
  exact Nat.le_trans (hg.lites v hv s hs) hN1
 ·by_cases hj : ∃ fs, (j, fs) ∈ zah
  ·obtain ⟨fs, hj⟩ := hj
   exact Nat.le_trans ((hLs j).1 fs hj).2.1 hN1
  ·show (L j).length ≤ _
   rw [(hLs j).2 (fun fs hf => hj ⟨fs, hf⟩)]
   exact Nat.zero_le _
 ·show (if scalar i = true then _ else _) = _
  rw [hi]
  rfl
 ·cases hi : scalar i with
  | true => rw [c_of i hi] at hn; exact (hcell i hi).2.2 n hn
  | false =>
   have e : (zqp cs L).c i = undef := by show (if scalar i = true then _ else _) = _; rw [hi]; rfl
   rw [e] at hn
   nomatch hn
 ·obtain ⟨fs, hj, hg⟩ := hrow j r hr
  obtain ⟨i, hi⟩ := List.mem_iff_getElem?.1 hv
  have hl : i < fs.length := by rw [← hg.1]; exact (List.getElem?_eq_some_iff.1 hi).1
  exact (hg.2 i _ v (List.getElem?_eq_getElem hl) hi).2.2 n hn
end
end Go.Proofs.Ytcbehfbfaonanaa.Wr
end
section
namespace Go.Proofs.Ytcbehfbfaonanaa.Wr
open Go.RowKit Go.Proofs.YtcbehfbfaonanaaW.PrintWords Go.Proofs.YtcbehfbfaonanaaW.PrintLast Go.Proofs.YtcbehfbfaonanaaW.PrintMore Go.Proofs.Ytcbehfbfaonanaa.Pk
set_option linter.unusedVariables false
set_option linter.unusedSimpArgs false
theorem zdq {P : Program} (w : World) (t ty e : TypeId) (z : Value) (size bytes : Nat) (ht : P.underlying t = some (.slice e)) (hinfo : (P.info? e).map (fun i => (i.zero, i.size, i.bytes)) = some (some z, size, bytes)) (hz : z.cells.size = size) (hs0 : 0 < size) (hb0 : 0 < bytes)
  (g : Nat) (sv : Value) (rows : List (List Value)) (fs : List Fld) (hfs : fs.length = size) (hR : ListRd w sv size rows) (hf : ∀ r, r ∈ rows → fits fs r) (hl : rows.length * bytes ≤ 140737488355328) :
  ∃ v' w', (Builtin.append_ #[t, t] ty #[.slice (some ⟨g, 0, none⟩) 0 0, sv]).run P w = .ok v' w' ∧ Below w.heap.size w w' ∧ ListRd w' v' size rows ∧ ∀ k, arr v' = some k → rows ≠ [] → w.heap.size ≤ k := by
 obtain ⟨i0, hi, hzz⟩ := Option.map_eq_some_iff.1 hinfo
 simp only [Prod.mk.injEq] at hzz
 obtain ⟨hz0, hz1, hz2⟩ := hzz
 have hlr : ∀ r, r ∈ rows → r.length = size := fun r hr => (zax (hf r hr)).trans hfs
 have hlen : rows.length ≤ 140737488355328 := Nat.le_trans (Nat.le_mul_of_pos_right _ hb0) hl
 obtain ⟨A, c, rfl, h0, h3⟩ := hR
 by_cases hn : rows = []
 ·subst hn
  refine ⟨.slice (some ⟨g, 0, none⟩) 0 0, w, ?_, Below.refl _ _, ⟨_, 0, rfl, fun h => (by cases h), fun h => absurd rfl h⟩, fun _ _ h => absurd rfl h⟩
  cases A with
  | none =>
   rw [h0 rfl]
   simp [Builtin.append_, run_underlying ht, sizeOf, typeInfo, hi, Builtin.lenOf, Builtin.firstCells, storeCells]
  | some ad => simp [Builtin.append_, run_underlying ht, sizeOf, typeInfo, hi, Builtin.lenOf, Builtin.firstCells, storeCells, loadCells, loadCellsFrom]
 ·obtain ⟨ad, rfl, h4⟩ := h3 hn
  have hm : 0 < rows.length := List.length_pos_iff.2 hn
  obtain ⟨v', w', hrun, hO, hg⟩ := run_append_arg_grows (P := P) w t ty e i0 z size bytes ht hi hz0 hz1 hz2 hz hs0 ⟨g, 0, none⟩ 0 0 [] (by simp) (by simp) ad rows.length c rows.flatten (zgi hlr) (fun i u hu => by obtain ⟨k, r, j, k1, k2, k3⟩ := zko hlr hu; subst k3; exact h4 k r k1 j u k2) (by omega) (by simp only [maxLen]; omega) (by simpa using hl)
  refine ⟨v', w', hrun, (Below.refl _ _).grown hg (Nat.le_refl _) (fun k hk => by cases hk), ?_⟩
  rw [Nat.zero_add, List.nil_append] at hO
  exact ⟨(zdz hlr hO).2.1, fun k hk _ => (zdz hlr hO).2.2 k hk⟩
def zfl : Array Oper := #[{ dst := some 3, op := Go.Op.fieldAddr 32 (Go.Operand.tmp 1) 0, type := 0, pos := "law.go:21", after := #[], guard := none }, { dst := some 4, op := Go.Op.load 3 (Go.Operand.tmp 3), type := 3, pos := "law.go:21", after := #[{ on := 0, ground := Go.Ground.data }], guard := none }, { dst := some 5, op := Go.Op.fieldAddr 32 (Go.Operand.tmp 1) 1, type := 0, pos := "law.go:21", after := #[], guard := none }, { dst := some 6, op := Go.Op.load 3 (Go.Operand.tmp 5), type := 3, pos := "law.go:21", after := #[{ on := 2, ground := Go.Ground.data }], guard := none }, { dst := some 7, op := Go.Op.fieldAddr 32 (Go.Operand.tmp 1) 2, type := 0, pos := "law.go:21", after := #[], guard := none }, { dst := some 8, op := Go.Op.load 3 (Go.Operand.tmp 7), type := 3, pos := "law.go:21", after := #[{ on := 4, ground := Go.Ground.data }], guard := none }, { dst := some 9, op := Go.Op.buildSlice 22 0 #[], type := 22, pos := "law.go:21", after := #[], guard := none }, { dst := some 10, op := Go.Op.fieldAddr 32 (Go.Operand.tmp 1) 3, type := 0, pos := "law.go:21", after := #[], guard := none }, { dst := some 11, op := Go.Op.load 22 (Go.Operand.tmp 10), type := 22, pos := "law.go:21", after := #[{ on := 7, ground := Go.Ground.data }], guard := none }, { dst := some 12, op := Go.Op.call { callee := Go.Callee.builtin Go.Builtin.append, args := #[Go.Operand.tmp 9, Go.Operand.tmp 11], argTypes := #[22, 22] }, type := 22, pos := "law.go:21", after := #[{ on := 6, ground := Go.Ground.data }, { on := 8, ground := Go.Ground.data }], guard := none }, { dst := some 13, op := Go.Op.fieldAddr 32 (Go.Operand.tmp 1) 4, type := 0, pos := "law.go:21", after := #[], guard := none }, { dst := some 14, op := Go.Op.load 24 (Go.Operand.tmp 13), type := 24, pos := "law.go:21", after := #[{ on := 10, ground := Go.Ground.data }], guard := none }, { dst := some 15, op := Go.Op.fieldAddr 32 (Go.Operand.tmp 1) 5, type := 0, pos := "law.go:21", after := #[], guard := none }, { dst := some 16, op := Go.Op.load 3 (Go.Operand.tmp 15), type := 3, pos := "law.go:21", after := #[{ on := 12, ground := Go.Ground.data }], guard := none }, { dst := some 17, op := Go.Op.fieldAddr 32 (Go.Operand.tmp 1) 6, type := 0, pos := "law.go:21", after := #[], guard := none }, { dst := some 18, op := Go.Op.load 3 (Go.Operand.tmp 17), type := 3, pos := "law.go:21", after := #[{ on := 14, ground := Go.Ground.data }], guard := none }, { dst := some 19, op := Go.Op.buildSlice 25 0 #[], type := 25, pos := "law.go:21", after := #[], guard := none }, { dst := some 20, op := Go.Op.fieldAddr 32 (Go.Operand.tmp 1) 7, type := 0, pos := "law.go:21", after := #[], guard := none }, { dst := some 21, op := Go.Op.load 25 (Go.Operand.tmp 20), type := 25, pos := "law.go:21", after := #[{ on := 17, ground := Go.Ground.data }], guard := none }, { dst := some 22, op := Go.Op.call { callee := Go.Callee.builtin Go.Builtin.append, args := #[Go.Operand.tmp 19, Go.Operand.tmp 21], argTypes := #[25, 25] }, type := 25, pos := "law.go:21", after := #[{ on := 16, ground := Go.Ground.data }, { on := 18, ground := Go.Ground.data }, { on := 9, ground := Go.Ground.chain }], guard := none }, { dst := some 23, op := Go.Op.buildSlice 26 0 #[], type := 26, pos := "law.go:21", after := #[], guard := none }, { dst := some 24, op := Go.Op.fieldAddr 32 (Go.Operand.tmp 1) 8, type := 0, pos := "law.go:21", after := #[], guard := none }, { dst := some 25, op := Go.Op.load 26 (Go.Operand.tmp 24), type := 26, pos := "law.go:21", after := #[{ on := 21, ground := Go.Ground.data }], guard := none }, { dst := some 26, op := Go.Op.call { callee := Go.Callee.builtin Go.Builtin.append, args := #[Go.Operand.tmp 23, Go.Operand.tmp 25], argTypes := #[26, 26] }, type := 26, pos := "law.go:21", after := #[{ on := 20, ground := Go.Ground.data }, { on := 22, ground := Go.Ground.data }, { on := 19, ground := Go.Ground.chain }], guard := none }, { dst := some 27, op := Go.Op.buildSlice 27 0 #[], type := 27, pos := "law.go:21", after := #[], guard := none }, { dst := some 28, op := Go.Op.fieldAddr 32 (Go.Operand.tmp 1) 9, type := 0, pos := "law.go:21", after := #[], guard := none }, { dst := some 29, op := Go.Op.load 27 (Go.Operand.tmp 28), type := 27, pos := "law.go:21", after := #[{ on := 25, ground := Go.Ground.data }], guard := none }, { dst := some 30, op := Go.Op.call { callee := Go.Callee.builtin Go.Builtin.append, args := #[Go.Operand.tmp 27, Go.Operand.tmp 29], argTypes := #[27, 27] }, type := 27, pos := "law.go:21", after := #[{ on := 24, ground := Go.Ground.data }, { on := 26, ground := Go.Ground.data }, { on := 23, ground := Go.Ground.chain }], guard := none }, { dst := some 31, op := Go.Op.fieldAddr 32 (Go.Operand.tmp 1) 10, type := 0, pos := "law.go:21", after := #[], guard := none }, { dst := some 32, op := Go.Op.load 24 (Go.Operand.tmp 31), type := 24, pos := "law.go:21", after := #[{ on := 28, ground := Go.Ground.data }], guard := none }, { dst := some 33, op := Go.Op.fieldAddr 32 (Go.Operand.tmp 1) 11, type := 0, pos := "law.go:21", after := #[], guard := none }, { dst := some 34, op := Go.Op.load 4 (Go.Operand.tmp 33), type := 4, pos := "law.go:21", after := #[{ on := 30, ground := Go.Ground.data }], guard := none }, { dst := some 35, op := Go.Op.fieldAddr 32 (Go.Operand.tmp 1) 12, type := 0, pos := "law.go:21", after := #[], guard := none }, { dst := some 36, op := Go.Op.load 3 (Go.Operand.tmp 35), type := 3, pos := "law.go:21", after := #[{ on := 32, ground := Go.Ground.data }], guard := none }, { dst := some 37, op := Go.Op.fieldAddr 32 (Go.Operand.tmp 1) 13, type := 0, pos := "law.go:21", after := #[], guard := none }, { dst := some 38, op := Go.Op.load 3 (Go.Operand.tmp 37), type := 3, pos := "law.go:21", after := #[{ on := 34, ground := Go.Ground.data }], guard := none }, { dst := some 39, op := Go.Op.fieldAddr 32 (Go.Operand.tmp 1) 14, type := 0, pos := "law.go:21", after := #[], guard := none }, { dst := some 40, op := Go.Op.load 9 (Go.Operand.tmp 39), type := 9, pos := "law.go:21", after := #[{ on := 36, ground := Go.Ground.data }], guard := none }, { dst := some 41, op := Go.Op.fieldAddr 32 (Go.Operand.tmp 1) 15, type := 0, pos := "law.go:21", after := #[], guard := none }, { dst := some 42, op := Go.Op.load 4 (Go.Operand.tmp 41), type := 4, pos := "law.go:21", after := #[{ on := 38, ground := Go.Ground.data }], guard := none }, { dst := some 43, op := Go.Op.fieldAddr 32 (Go.Operand.tmp 1) 16, type := 0, pos := "law.go:21", after := #[], guard := none }, { dst := some 44, op := Go.Op.load 9 (Go.Operand.tmp 43), type := 9, pos := "law.go:21", after := #[{ on := 40, ground := Go.Ground.data }], guard := none }, { dst := some 45, op := Go.Op.fieldAddr 32 (Go.Operand.tmp 1) 17, type := 0, pos := "law.go:21", after := #[], guard := none }, { dst := some 46, op := Go.Op.load 24 (Go.Operand.tmp 45), type := 24, pos := "law.go:21", after := #[{ on := 42, ground := Go.Ground.data }], guard := none }, { dst := some 47, op := Go.Op.fieldAddr 32 (Go.Operand.tmp 1) 18, type := 0, pos := "law.go:21", after := #[], guard := none }, { dst := some 48, op := Go.Op.load 28 (Go.Operand.tmp 47), type := 28, pos := "law.go:21", after := #[{ on := 44, ground := Go.Ground.data }], guard := none }, { dst := some 49, op := Go.Op.fieldAddr 32 (Go.Operand.tmp 1) 19, type := 0, pos := "law.go:21", after := #[], guard := none }, { dst := some 50, op := Go.Op.load 30 (Go.Operand.tmp 49), type := 30, pos := "law.go:21", after := #[{ on := 46, ground := Go.Ground.data }], guard := none }, { dst := some 51, op := Go.Op.build 35 #[(0, Go.Operand.tmp 4), (1, Go.Operand.tmp 6), (2, Go.Operand.tmp 8), (3, Go.Operand.tmp 12), (4, Go.Operand.tmp 14), (5, Go.Operand.tmp 16), (6, Go.Operand.tmp 18), (7, Go.Operand.tmp 22), (8, Go.Operand.tmp 26), (9, Go.Operand.tmp 30), (10, Go.Operand.tmp 32), (11, Go.Operand.tmp 34), (12, Go.Operand.tmp 36), (13, Go.Operand.tmp 38), (14, Go.Operand.tmp 40), (15, Go.Operand.tmp 42), (16, Go.Operand.tmp 44), (17, Go.Operand.tmp 46), (18, Go.Operand.tmp 48), (19, Go.Operand.tmp 50)], type := 35, pos := "law.go:21", after := #[{ on := 1, ground := Go.Ground.data }, { on := 3, ground := Go.Ground.data }, { on := 5, ground := Go.Ground.data }, { on := 9, ground := Go.Ground.data }, { on := 11, ground := Go.Ground.data }, { on := 13, ground := Go.Ground.data }, { on := 15, ground := Go.Ground.data }, { on := 19, ground := Go.Ground.data }, { on := 23, ground := Go.Ground.data }, { on := 27, ground := Go.Ground.data }, { on := 29, ground := Go.Ground.data }, { on := 31, ground := Go.Ground.data }, { on := 33, ground := Go.Ground.data }, { on := 35, ground := Go.Ground.data }, { on := 37, ground := Go.Ground.data }, { on := 39, ground := Go.Ground.data }, { on := 41, ground := Go.Ground.data }, { on := 43, ground := Go.Ground.data }, { on := 45, ground := Go.Ground.data }, { on := 47, ground := Go.Ground.data }], guard := none }, { dst := none, op := Go.Op.store 35 (Go.Operand.tmp 2) (Go.Operand.tmp 51), type := 0, pos := "law.go:21", after := #[{ on := 48, ground := Go.Ground.data }, { on := 27, ground := Go.Ground.chain }, { on := 0, ground := Go.Ground.phase }, { on := 1, ground := Go.Ground.phase }, { on := 2, ground := Go.Ground.phase }, { on := 3, ground := Go.Ground.phase }, { on := 4, ground := Go.Ground.phase }, { on := 5, ground := Go.Ground.phase }, { on := 6, ground := Go.Ground.phase }, { on := 7, ground := Go.Ground.phase }, { on := 8, ground := Go.Ground.phase }, { on := 9, ground := Go.Ground.phase }, { on := 10, ground := Go.Ground.phase }, { on := 11, ground := Go.Ground.phase }, { on := 12, ground := Go.Ground.phase }, { on := 13, ground := Go.Ground.phase }, { on := 14, ground := Go.Ground.phase }, { on := 15, ground := Go.Ground.phase }, { on := 16, ground := Go.Ground.phase }, { on := 17, ground := Go.Ground.phase }, { on := 18, ground := Go.Ground.phase }, { on := 19, ground := Go.Ground.phase }, { on := 20, ground := Go.Ground.phase }, { on := 21, ground := Go.Ground.phase }, { on := 22, ground := Go.Ground.phase }, { on := 23, ground := Go.Ground.phase }, { on := 24, ground := Go.Ground.phase }, { on := 25, ground := Go.Ground.phase }, { on := 26, ground := Go.Ground.phase }, { on := 27, ground := Go.Ground.phase }, { on := 28, ground := Go.Ground.phase }, { on := 29, ground := Go.Ground.phase }, { on := 30, ground := Go.Ground.phase }, { on := 31, ground := Go.Ground.phase }, { on := 32, ground := Go.Ground.phase }, { on := 33, ground := Go.Ground.phase }, { on := 34, ground := Go.Ground.phase }, { on := 35, ground := Go.Ground.phase }, { on := 36, ground := Go.Ground.phase }, { on := 37, ground := Go.Ground.phase }, { on := 38, ground := Go.Ground.phase }, { on := 39, ground := Go.Ground.phase }, { on := 40, ground := Go.Ground.phase }, { on := 41, ground := Go.Ground.phase }, { on := 42, ground := Go.Ground.phase }, { on := 43, ground := Go.Ground.phase }, { on := 44, ground := Go.Ground.phase }, { on := 45, ground := Go.Ground.phase }, { on := 46, ground := Go.Ground.phase }, { on := 47, ground := Go.Ground.phase }, { on := 48, ground := Go.Ground.phase }], guard := none }]
def plB : Nat → Nat
 | 0 => 6
 | 1 => 16
 | 2 => 20
 | _ => 24
def slB : Nat → Nat
 | 0 => 9
 | 1 => 19
 | 2 => 23
 | _ => 27
def plA : Nat → Nat
 | 0 => 9
 | 1 => 19
 | 2 => 23
 | _ => 27
def slA : Nat → Nat
 | 0 => 12
 | 1 => 22
 | 2 => 26
 | _ => 30
def slL : Nat → Nat
 | 0 => 11
 | 1 => 21
 | 2 => 25
 | _ => 29
def plC : Nat → Nat
 | 0 => 3
 | 1 => 8
 | 2 => 9
 | _ => 10
def plF : Nat → List Fld
 | 0 => zak
 | 1 => zat
 | 2 => zau
 | _ => zaj
theorem plB_0 {Q : Exit → Act → World → Prop} {a : Act} {w : World} {K : Act → World → Prop} (h : ∀ g w', Below w.heap.size w w' → K (a.put (some (slB 0)) (.slice (some ⟨g, 0, none⟩) 0 0)) w') : wpOp Try.prog zfl Q (plB 0) K a w := by
 refine wpOp_step (o := { dst := some 9, op := Go.Op.buildSlice 22 0 #[], type := 22, pos := "law.go:21", after := #[], guard := none }) rfl (fun K' hK => ?_)
 rw [if_pos (by rfl)]
 have hrun : (execOp a.eval { dst := some 9, op := Go.Op.buildSlice 22 0 #[], type := 22, pos := "law.go:21", after := #[], guard := none }).run Try.prog w = .ok (.value (.slice (some ⟨w.heap.size, 0, none⟩) 0 0)) (w.alloc (.cells #[] 66)) := by go_simp
 unfold Oper.wp
 rw [hrun]
 exact hK _ _ (h _ _ (zaa (Below.refl _ _) _))
theorem plA_0 {Q : Exit → Act → World → Prop} {a : Act} {w : World} {K : Act → World → Prop} {g : Nat} {sv : Value} {rows : List (List Value)} (hs : Has a (slB 0) (.slice (some ⟨g, 0, none⟩) 0 0)) (hx : Has a (slL 0) sv) (hR : ListRd w sv (plF 0).length rows) (hf : ∀ r, r ∈ rows → fits (plF 0) r) (hn : rows.length ≤ 1048576)
  (h : ∀ v' w', Below w.heap.size w w' → ListRd w' v' (plF 0).length rows → (∀ k, arr v' = some k → rows ≠ [] → w.heap.size ≤ k) → K (a.put (some (slA 0)) v') w') : wpOp Try.prog zfl Q (plA 0) K a w := by
 refine wpOp_step (o := { dst := some 12, op := Go.Op.call { callee := Go.Callee.builtin Go.Builtin.append, args := #[Go.Operand.tmp 9, Go.Operand.tmp 11], argTypes := #[22, 22] }, type := 22, pos := "law.go:21", after := #[{ on := 6, ground := Go.Ground.data }, { on := 8, ground := Go.Ground.data }], guard := none }) rfl (fun K' hK => ?_)
 rw [if_pos (by rfl)]
 obtain ⟨v', w', hrun, hB, hR', hF'⟩ := zdq (P := Try.prog) w 22 22 66 _ 7 72 Try.underlying22 zly rfl (by omega) (by omega) g sv rows zak rfl hR hf (by omega)
 unfold Oper.wp execOp
 have e1 : a.eval (.tmp 9) = .slice (some ⟨g, 0, none⟩) 0 0 := hs.eval
 have e2 : a.eval (.tmp 11) = sv := hx.eval
 simp only [resolve, invoke, builtin, Sem.run_bind, Sem.run_pure, Result.andThen_ok, List.map_toArray, List.map_cons, List.map_nil, e1, e2, hrun]
 exact hK _ _ (h v' w' hB hR' hF')
theorem plB_1 {Q : Exit → Act → World → Prop} {a : Act} {w : World} {K : Act → World → Prop} (h : ∀ g w', Below w.heap.size w w' → K (a.put (some (slB 1)) (.slice (some ⟨g, 0, none⟩) 0 0)) w') : wpOp Try.prog zfl Q (plB 1) K a w := by
 refine wpOp_step (o := { dst := some 19, op := Go.Op.buildSlice 25 0 #[], type := 25, pos := "law.go:21", after := #[], guard := none }) rfl (fun K' hK => ?_)
 rw [if_pos (by rfl)]
 have hrun : (execOp a.eval { dst := some 19, op := Go.Op.buildSlice 25 0 #[], type := 25, pos := "law.go:21", after := #[], guard := none }).run Try.prog w = .ok (.value (.slice (some ⟨w.heap.size, 0, none⟩) 0 0)) (w.alloc (.cells #[] 68)) := by go_simp
 unfold Oper.wp
 rw [hrun]
 exact hK _ _ (h _ _ (zaa (Below.refl _ _) _))
theorem plA_1 {Q : Exit → Act → World → Prop} {a : Act} {w : World} {K : Act → World → Prop} {g : Nat} {sv : Value} {rows : List (List Value)} (hs : Has a (slB 1) (.slice (some ⟨g, 0, none⟩) 0 0)) (hx : Has a (slL 1) sv) (hR : ListRd w sv (plF 1).length rows) (hf : ∀ r, r ∈ rows → fits (plF 1) r) (hn : rows.length ≤ 1048576)
  (h : ∀ v' w', Below w.heap.size w w' → ListRd w' v' (plF 1).length rows → (∀ k, arr v' = some k → rows ≠ [] → w.heap.size ≤ k) → K (a.put (some (slA 1)) v') w') : wpOp Try.prog zfl Q (plA 1) K a w := by
 refine wpOp_step (o := { dst := some 22, op := Go.Op.call { callee := Go.Callee.builtin Go.Builtin.append, args := #[Go.Operand.tmp 19, Go.Operand.tmp 21], argTypes := #[25, 25] }, type := 25, pos := "law.go:21", after := #[{ on := 16, ground := Go.Ground.data }, { on := 18, ground := Go.Ground.data }, { on := 9, ground := Go.Ground.chain }], guard := none }) rfl (fun K' hK => ?_)
 rw [if_pos (by rfl)]
 obtain ⟨v', w', hrun, hB, hR', hF'⟩ := zdq (P := Try.prog) w 25 25 68 _ 5 56 Try.underlying25 zof rfl (by omega) (by omega) g sv rows zat rfl hR hf (by omega)
 unfold Oper.wp execOp
 have e1 : a.eval (.tmp 19) = .slice (some ⟨g, 0, none⟩) 0 0 := hs.eval
 have e2 : a.eval (.tmp 21) = sv := hx.eval
 simp only [resolve, invoke, builtin, Sem.run_bind, Sem.run_pure, Result.andThen_ok, List.map_toArray, List.map_cons, List.map_nil, e1, e2, hrun]
 exact hK _ _ (h v' w' hB hR' hF')
theorem plB_2 {Q : Exit → Act → World → Prop} {a : Act} {w : World} {K : Act → World → Prop} (h : ∀ g w', Below w.heap.size w w' → K (a.put (some (slB 2)) (.slice (some ⟨g, 0, none⟩) 0 0)) w') : wpOp Try.prog zfl Q (plB 2) K a w := by
 refine wpOp_step (o := { dst := some 23, op := Go.Op.buildSlice 26 0 #[], type := 26, pos := "law.go:21", after := #[], guard := none }) rfl (fun K' hK => ?_)
 rw [if_pos (by rfl)]
 have hrun : (execOp a.eval { dst := some 23, op := Go.Op.buildSlice 26 0 #[], type := 26, pos := "law.go:21", after := #[], guard := none }).run Try.prog w = .ok (.value (.slice (some ⟨w.heap.size, 0, none⟩) 0 0)) (w.alloc (.cells #[] 70)) := by go_simp
 unfold Oper.wp
 rw [hrun]
 exact hK _ _ (h _ _ (zaa (Below.refl _ _) _))
theorem plA_2 {Q : Exit → Act → World → Prop} {a : Act} {w : World} {K : Act → World → Prop} {g : Nat} {sv : Value} {rows : List (List Value)} (hs : Has a (slB 2) (.slice (some ⟨g, 0, none⟩) 0 0)) (hx : Has a (slL 2) sv) (hR : ListRd w sv (plF 2).length rows) (hf : ∀ r, r ∈ rows → fits (plF 2) r) (hn : rows.length ≤ 1048576)
  (h : ∀ v' w', Below w.heap.size w w' → ListRd w' v' (plF 2).length rows → (∀ k, arr v' = some k → rows ≠ [] → w.heap.size ≤ k) → K (a.put (some (slA 2)) v') w') : wpOp Try.prog zfl Q (plA 2) K a w := by
 refine wpOp_step (o := { dst := some 26, op := Go.Op.call { callee := Go.Callee.builtin Go.Builtin.append, args := #[Go.Operand.tmp 23, Go.Operand.tmp 25], argTypes := #[26, 26] }, type := 26, pos := "law.go:21", after := #[{ on := 20, ground := Go.Ground.data }, { on := 22, ground := Go.Ground.data }, { on := 19, ground := Go.Ground.chain }], guard := none }) rfl (fun K' hK => ?_)
 rw [if_pos (by rfl)]
 obtain ⟨v', w', hrun, hB, hR', hF'⟩ := zdq (P := Try.prog) w 26 26 70 _ 4 32 Try.underlying26 zog rfl (by omega) (by omega) g sv rows zau rfl hR hf (by omega)
 unfold Oper.wp execOp
 have e1 : a.eval (.tmp 23) = .slice (some ⟨g, 0, none⟩) 0 0 := hs.eval
 have e2 : a.eval (.tmp 25) = sv := hx.eval
 simp only [resolve, invoke, builtin, Sem.run_bind, Sem.run_pure, Result.andThen_ok, List.map_toArray, List.map_cons, List.map_nil, e1, e2, hrun]
 exact hK _ _ (h v' w' hB hR' hF')
theorem plB_3 {Q : Exit → Act → World → Prop} {a : Act} {w : World} {K : Act → World → Prop} (h : ∀ g w', Below w.heap.size w w' → K (a.put (some (slB 3)) (.slice (some ⟨g, 0, none⟩) 0 0)) w') : wpOp Try.prog zfl Q (plB 3) K a w := by
 refine wpOp_step (o := { dst := some 27, op := Go.Op.buildSlice 27 0 #[], type := 27, pos := "law.go:21", after := #[], guard := none }) rfl (fun K' hK => ?_)
 rw [if_pos (by rfl)]
 have hrun : (execOp a.eval { dst := some 27, op := Go.Op.buildSlice 27 0 #[], type := 27, pos := "law.go:21", after := #[], guard := none }).run Try.prog w = .ok (.value (.slice (some ⟨w.heap.size, 0, none⟩) 0 0)) (w.alloc (.cells #[] 72)) := by go_simp
 unfold Oper.wp
 rw [hrun]
 exact hK _ _ (h _ _ (zaa (Below.refl _ _) _))
theorem plA_3 {Q : Exit → Act → World → Prop} {a : Act} {w : World} {K : Act → World → Prop} {g : Nat} {sv : Value} {rows : List (List Value)} (hs : Has a (slB 3) (.slice (some ⟨g, 0, none⟩) 0 0)) (hx : Has a (slL 3) sv) (hR : ListRd w sv (plF 3).length rows) (hf : ∀ r, r ∈ rows → fits (plF 3) r) (hn : rows.length ≤ 1048576)
  (h : ∀ v' w', Below w.heap.size w w' → ListRd w' v' (plF 3).length rows → (∀ k, arr v' = some k → rows ≠ [] → w.heap.size ≤ k) → K (a.put (some (slA 3)) v') w') : wpOp Try.prog zfl Q (plA 3) K a w := by
 refine wpOp_step (o := { dst := some 30, op := Go.Op.call { callee := Go.Callee.builtin Go.Builtin.append, args := #[Go.Operand.tmp 27, Go.Operand.tmp 29], argTypes := #[27, 27] }, type := 27, pos := "law.go:21", after := #[{ on := 24, ground := Go.Ground.data }, { on := 26, ground := Go.Ground.data }, { on := 23, ground := Go.Ground.chain }], guard := none }) rfl (fun K' hK => ?_)
 rw [if_pos (by rfl)]
 obtain ⟨v', w', hrun, hB, hR', hF'⟩ := zdq (P := Try.prog) w 27 27 72 _ 3 24 Try.underlying27 zma rfl (by omega) (by omega) g sv rows zaj rfl hR hf (by omega)
 unfold Oper.wp execOp
 have e1 : a.eval (.tmp 27) = .slice (some ⟨g, 0, none⟩) 0 0 := hs.eval
 have e2 : a.eval (.tmp 29) = sv := hx.eval
 simp only [resolve, invoke, builtin, Sem.run_bind, Sem.run_pure, Result.andThen_ok, List.map_toArray, List.map_cons, List.map_nil, e1, e2, hrun]
 exact hK _ _ (h v' w' hB hR' hF')
def lst (p c : Nat) : Array Bool := ((List.range 50).map fun i => if i = 48 ∨ i = 49 then false else if i = 6 then c.testBit 0 else if i = 16 then c.testBit 1 else if i = 20 then c.testBit 2 else if i = 24 then c.testBit 3 else if i = 9 then decide (0 < p) else if i = 19 then decide (1 < p) else if i = 23 then decide (2 < p) else if i = 27 then decide (3 < p) else true).toArray
def pop (c : Nat) : Nat := (if c.testBit 0 then 1 else 0) + (if c.testBit 1 then 1 else 0) + (if c.testBit 2 then 1 else 0) + (if c.testBit 3 then 1 else 0)
def okPC (p c : Nat) : Bool := (List.range 4).all fun j => !(decide (j < p)) || c.testBit j
theorem ztq : ((List.range 5).all fun p => (List.range 16).all fun c => !(okPC p c) || !(decide (p + pop c < 8)) || (!(Region.ready .any zfl (lst p c)).isEmpty && (Region.ready .any zfl (lst p c)).all fun i => ((List.range 4).any fun j => !(c.testBit j) && i == plB j) || (decide (p < 4) && c.testBit p && i == plA p))) = true := by decide +kernel
theorem pl_ready (p : Nat) (hp : p < 5) (c : Nat) (hc : c < 16) (ho : okPC p c = true) (hl : p + pop c < 8) : Region.ready .any zfl (lst p c) ≠ [] ∧ ∀ i ∈ Region.ready .any zfl (lst p c), (∃ j, j < 4 ∧ c.testBit j = false ∧ i = plB j) ∨ (p < 4 ∧ c.testBit p = true ∧ i = plA p) := by
 have h := List.all_eq_true.1 (List.all_eq_true.1 ztq p (by simpa using hp)) c (by simpa using hc)
 simp only [ho, decide_eq_true hl, Bool.not_true, Bool.false_or, Bool.and_eq_true, Bool.not_eq_true', List.isEmpty_eq_false_iff] at h
 refine ⟨h.1, fun i hi => ?_⟩
 have h2 := List.all_eq_true.1 h.2 i hi
 simp only [Bool.or_eq_true, List.any_eq_true, Bool.and_eq_true, decide_eq_true_eq, beq_iff_eq, List.mem_range, Bool.not_eq_true'] at h2
 rcases h2 with ⟨j, hj, hb, he⟩ | ⟨⟨hp, hb⟩, he⟩
 ·exact .inl ⟨j, hj, hb, he⟩
 ·exact .inr ⟨hp, hb, he⟩
theorem pl_setBB : ((List.range 5).all fun p => (List.range 16).all fun c => (List.range 4).all fun j => c.testBit j || ((lst p c).setIfInBounds (plB j) true == lst p (c + 2 ^ j) && decide (c + 2 ^ j < 16) && pop (c + 2 ^ j) == pop c + 1 && (List.range 4).all fun i => (c + 2 ^ j).testBit i == (c.testBit i || decide (i = j)))) = true := by decide +kernel
theorem pl_setB (p : Nat) (hp : p < 5) (c : Nat) (hc : c < 16) (j : Nat) (hj : j < 4) (hb : c.testBit j = false) : (lst p c).setIfInBounds (plB j) true = lst p (c + 2 ^ j) ∧ c + 2 ^ j < 16 ∧ pop (c + 2 ^ j) = pop c + 1 ∧ ∀ i, i < 4 → (c + 2 ^ j).testBit i = (c.testBit i || decide (i = j)) := by
 have h := List.all_eq_true.1 (List.all_eq_true.1 (List.all_eq_true.1 pl_setBB p (by simpa using hp)) c (by simpa using hc)) j (by simpa using hj)
 rw [hb, Bool.false_or] at h
 simp only [Bool.and_eq_true, decide_eq_true_eq, beq_iff_eq] at h
 refine ⟨h.1.1.1, h.1.1.2, h.1.2, fun i hi => ?_⟩
 have h2 := List.all_eq_true.1 h.2 i (by simpa using hi)
 exact beq_iff_eq.1 h2
theorem pl_setAB : ((List.range 4).all fun p => (List.range 16).all fun c => (lst p c).setIfInBounds (plA p) true == lst (p + 1) c) = true := by decide +kernel
theorem pl_setA (p : Nat) (hp : p < 4) (c : Nat) (hc : c < 16) : (lst p c).setIfInBounds (plA p) true = lst (p + 1) c :=
 beq_iff_eq.1 (List.all_eq_true.1 (List.all_eq_true.1 pl_setAB p (by simpa using hp)) c (by simpa using hc))
theorem pl_all : ∀ p, p < 5 → ∀ c, c < 16 → p + pop c = 8 → p = 4 ∧ c = 15 := by decide +kernel
def zoz (i : Nat) : Bool := !(i == 9 || i == 19 || i == 23 || i == 27 || i == 12 || i == 22 || i == 26 || i == 30)
structure Jp (a0 : Act) (w0 : World) (m : M) (p c : Nat) (a : Act) (w : World) : Prop where
 bel : Below w0.heap.size w0 w
 size : a.tmps.size = 52
 defers : a.defers = a0.defers
 old : ∀ i v, zoz i = true → Has a0 i v → Has a i v
 lit : ∀ j, j < 4 → c.testBit j = true → ∃ g, Has a (slB j) (.slice (some ⟨g, 0, none⟩) 0 0)
 app : ∀ j, j < p → ∃ v, Has a (slA j) v ∧ ListRd w v (plF j).length (m.L (plC j)) ∧ ∀ k, arr v = some k → m.L (plC j) ≠ [] → w0.heap.size ≤ k
theorem plB_any {Q : Exit → Act → World → Prop} {a : Act} {w : World} {K : Act → World → Prop} (j : Nat) (hj : j < 4) (h : ∀ g w', Below w.heap.size w w' → K (a.put (some (slB j)) (.slice (some ⟨g, 0, none⟩) 0 0)) w') : wpOp Try.prog zfl Q (plB j) K a w := by
 have : j = 0 ∨ j = 1 ∨ j = 2 ∨ j = 3 := by omega
 rcases this with rfl | rfl | rfl | rfl
 ·exact plB_0 h
 ·exact plB_1 h
 ·exact plB_2 h
 ·exact plB_3 h
theorem plA_any {Q : Exit → Act → World → Prop} {a : Act} {w : World} {K : Act → World → Prop} (j : Nat) (hj : j < 4) {g : Nat} {sv : Value} {rows : List (List Value)} (hs : Has a (slB j) (.slice (some ⟨g, 0, none⟩) 0 0)) (hx : Has a (slL j) sv) (hR : ListRd w sv (plF j).length rows) (hf : ∀ r, r ∈ rows → fits (plF j) r) (hn : rows.length ≤ 1048576)
  (h : ∀ v' w', Below w.heap.size w w' → ListRd w' v' (plF j).length rows → (∀ k, arr v' = some k → rows ≠ [] → w.heap.size ≤ k) → K (a.put (some (slA j)) v') w') : wpOp Try.prog zfl Q (plA j) K a w := by
 have : j = 0 ∨ j = 1 ∨ j = 2 ∨ j = 3 := by omega
 rcases this with rfl | rfl | rfl | rfl
 ·exact plA_0 hs hx hR hf hn h
 ·exact plA_1 hs hx hR hf hn h
 ·exact plA_2 hs hx hR hf hn h
 ·exact plA_3 hs hx hR hf hn h
theorem znt (j : Nat) : 0 < (plF j).length := by unfold plF; split <;> simp [zak, zat, zau, zaj]
theorem zlb {j : Nat} (hj : j < 4) : (plC j, plF j) ∈ zah := by
 have : j = 0 ∨ j = 1 ∨ j = 2 ∨ j = 3 := by omega
 rcases this with rfl | rfl | rfl | rfl <;> simp [plC, plF, zah]
theorem sl_ok {j : Nat} (hj : j < 4) : zoz (slL j) = true ∧ zoz (slB j) = false ∧ zoz (slA j) = false ∧ slB j < 52 ∧ slA j < 52 := by
 have : j = 0 ∨ j = 1 ∨ j = 2 ∨ j = 3 := by omega
 rcases this with rfl | rfl | rfl | rfl <;> decide
theorem sl_ne : ∀ i, i < 4 → ∀ j, j < 4 → (i ≠ j → slB i ≠ slB j ∧ slA i ≠ slA j) ∧ slB i ≠ slA j := by decide
theorem ztr {a0 : Act} {w0 : World} {m : M} {sv : Nat → Value} {Q : Exit → Act → World → Prop} {S : World → Prop} (hS : ∀ w, Below w0.heap.size w0 w → S w) (hL : ∀ j, j < 4 → Has a0 (slL j) (sv (plC j)) ∧ ListRd w0 (sv (plC j)) (plF j).length (m.L (plC j))) (hf : Fit m) (hn : ∀ j, (m.L j).length ≤ 1048576)
  (hend : ∀ a w, Jp a0 w0 m 4 15 a w → wpAnyH Try.prog .any zfl Q S 2 (lst 4 15) a w) :
  ∀ (k p c : Nat) (a : Act) (w : World), k + (p + pop c) = 8 → p < 5 → c < 16 → okPC p c = true → Jp a0 w0 m p c a w → wpAnyH Try.prog .any zfl Q S (k + 2) (lst p c) a w := by
 intro k
 induction k with
 | zero =>
  intro p c a w hk hp hc ho hJ
  obtain ⟨rfl, rfl⟩ := pl_all p hp c hc (by omega)
  exact hend a w hJ
 | succ k ih =>
  intro p c a w hk hp hc ho hJ
  obtain ⟨hne, hm⟩ := pl_ready p hp c hc ho (by omega)
  refine wpAnyH_all rfl hne (fun i hi => ?_)
  rcases hm i hi with ⟨j, hj, hb, rfl⟩ | ⟨hp4, hb, rfl⟩
  ·obtain ⟨q1, q2, q3, q4⟩ := pl_setB p hp c hc j hj hb
   obtain ⟨s1, s2, s3, s4, s5⟩ := sl_ok hj
   refine plB_any j hj (fun g w' hB => ⟨hS _ (hJ.bel.trans (hB.mono hJ.bel.size)), ?_⟩)
   rw [q1]
   refine ih p (c + 2 ^ j) _ w' (by omega) hp q2 ?_ ⟨hJ.bel.trans (hB.mono hJ.bel.size), (zkt _ _ _).trans hJ.size, (zfz _ _ _).trans hJ.defers, fun i v h1 h2 => (hJ.old i v h1 h2).far (fun e => by rw [e, h1] at s2; cases s2), fun i hi hb' => ?_, fun i hi => ?_⟩
   ·unfold okPC at ho ⊢
    rw [List.all_eq_true] at ho ⊢
    intro i hi
    have h := ho i hi
    rw [q4 i (by simpa using hi)]
    cases h1 : c.testBit i <;> simp_all
   ·by_cases e : i = j
    ·subst e
     exact ⟨g, Has.same (by rw [hJ.size]; exact s4)⟩
    ·rw [q4 i hi] at hb'
     simp only [e, decide_false, Bool.or_false] at hb'
     obtain ⟨g', hg'⟩ := hJ.lit i hi hb'
     exact ⟨g', hg'.far (fun e' => ((sl_ne i hi j hj).1 e).1 e'.symm)⟩
   ·obtain ⟨v, hv, hR, hF⟩ := hJ.app i hi
    exact ⟨v, hv.far ((sl_ne j hj i (by omega)).2), hR.below (znt i) (fitl hf (zlb (by omega))) hB, hF⟩
  ·obtain ⟨s1, s2, s3, s4, s5⟩ := sl_ok hp4
   obtain ⟨g, hg⟩ := hJ.lit p hp4 hb
   obtain ⟨hx, hR⟩ := hL p hp4
   refine plA_any p hp4 hg (hJ.old _ _ s1 hx) (hR.below (znt p) (fitl hf (zlb hp4)) hJ.bel) (hf _ _ (zlb hp4)) (hn _) (fun v' w' hB hR' hF' => ⟨hS _ (hJ.bel.trans (hB.mono hJ.bel.size)), ?_⟩)
   rw [pl_setA p hp4 c hc]
   refine ih (p + 1) c _ w' (by omega) (by omega) hc ?_ ⟨hJ.bel.trans (hB.mono hJ.bel.size), (zkt _ _ _).trans hJ.size, (zfz _ _ _).trans hJ.defers, fun i v h1 h2 => (hJ.old i v h1 h2).far (fun e => by rw [e, h1] at s3; cases s3), fun i hi hb' => ?_, fun i hi => ?_⟩
   ·unfold okPC at ho ⊢
    rw [List.all_eq_true] at ho ⊢
    intro i hi
    have h := ho i hi
    by_cases e : i = p
    ·subst e; rw [hb]; simp
    ·by_cases h1 : i < p
     ·simp_all
     ·have : ¬ i < p + 1 := by omega
      simp [this]
   ·obtain ⟨g', hg'⟩ := hJ.lit i hi hb'
    exact ⟨g', hg'.far (fun e' => (sl_ne i hi p hp4).2 e'.symm)⟩
   ·by_cases e : i = p
    ·subst e
     exact ⟨v', Has.same (by rw [hJ.size]; exact s5), hR', fun k h1 h2 => Nat.le_trans hJ.bel.size (hF' k h1 h2)⟩
    ·obtain ⟨v, hv, hR2, hF2⟩ := hJ.app i (by omega)
     exact ⟨v, hv.far (fun e' => ((sl_ne i (by omega) p hp4).1 e).2 e'.symm), hR2.below (znt i) (fitl hf (zlb (by omega))) hB, hF2⟩
theorem zas {P : Program} {o : Oper} {a : Act} {W : World} {T : TypeId} {x : Operand} (ho : o.op = .load T x) {g off : Nat} (hx : a.eval x = .pointer (some ⟨g, off, none⟩)) (cells : List Value) (hc : ∀ j v, cells[j]? = some v → W.cell? ⟨g, off + j, none⟩ = some v)
  {d : TypeDesc} (hu : P.underlying T = some d) (hd : d.isRow = true) (hi : (P.info? T).map (·.size) = some cells.length) : (execOp a.eval o).run P W = .ok (.value (.agg cells.toArray)) W := by
 have h := run_loadVar_mid (P := P) W g off T cells d hc hu hd hi
 unfold execOp
 simp only [ho, hx, Instr.loadAt, Instr.sureAddr, Sem.run_bind, Sem.run_pure, Result.andThen_ok, h]
theorem zek (c sv : Nat → Value) (off n : Nat) (h : (List.range n).all (fun j => scalar (off + j)) = true) (j : Nat) (v : Value) (hj : ((List.range n).map fun j => c (off + j))[j]? = some v) : (msgC c sv)[off + j]? = some v := by
 have hjn : j < n := by
  have := (List.getElem?_eq_some_iff.1 hj).1
  simpa using this
 rw [List.getElem?_map, List.getElem?_range hjn] at hj
 injection hj with hj
 subst hj
 exact zfc c sv _ (List.all_eq_true.1 h j (by simpa using hjn))
theorem zts {a : Act} {W : World} {m : M} {sv' : Nat → Value} (hT : zbh m) (hs : ∀ j fs, (j, fs) ∈ zah → ∃ A n c, sv' j = .slice A n c) (h4 : a.eval (.tmp 4) = m.c 0) (h6 : a.eval (.tmp 6) = m.c 1) (h8 : a.eval (.tmp 8) = m.c 2) (h12 : a.eval (.tmp 12) = sv' 3) (h14 : a.eval (.tmp 14) = .agg #[m.c 4, m.c 5]) (h16 : a.eval (.tmp 16) = m.c 6) (h18 : a.eval (.tmp 18) = m.c 7) (h22 : a.eval (.tmp 22) = sv' 8) (h26 : a.eval (.tmp 26) = sv' 9) (h30 : a.eval (.tmp 30) = sv' 10) (h32 : a.eval (.tmp 32) = .agg #[m.c 11, m.c 12]) (h34 : a.eval (.tmp 34) = m.c 13) (h36 : a.eval (.tmp 36) = m.c 14) (h38 : a.eval (.tmp 38) = m.c 15) (h40 : a.eval (.tmp 40) = m.c 16) (h42 : a.eval (.tmp 42) = m.c 17) (h44 : a.eval (.tmp 44) = m.c 18) (h46 : a.eval (.tmp 46) = .agg #[m.c 19, m.c 20]) (h48 : a.eval (.tmp 48) = m.c 21) (h50 : a.eval (.tmp 50) = .agg #[m.c 22, m.c 23, m.c 24, m.c 25]) :
  (execOp a.eval { dst := some 51, op := Go.Op.build 35 #[(0, Go.Operand.tmp 4), (1, Go.Operand.tmp 6), (2, Go.Operand.tmp 8), (3, Go.Operand.tmp 12), (4, Go.Operand.tmp 14), (5, Go.Operand.tmp 16), (6, Go.Operand.tmp 18), (7, Go.Operand.tmp 22), (8, Go.Operand.tmp 26), (9, Go.Operand.tmp 30), (10, Go.Operand.tmp 32), (11, Go.Operand.tmp 34), (12, Go.Operand.tmp 36), (13, Go.Operand.tmp 38), (14, Go.Operand.tmp 40), (15, Go.Operand.tmp 42), (16, Go.Operand.tmp 44), (17, Go.Operand.tmp 46), (18, Go.Operand.tmp 48), (19, Go.Operand.tmp 50)], type := 35, pos := "law.go:21", after := #[{ on := 1, ground := Go.Ground.data }, { on := 3, ground := Go.Ground.data }, { on := 5, ground := Go.Ground.data }, { on := 9, ground := Go.Ground.data }, { on := 11, ground := Go.Ground.data }, { on := 13, ground := Go.Ground.data }, { on := 15, ground := Go.Ground.data }, { on := 19, ground := Go.Ground.data }, { on := 23, ground := Go.Ground.data }, { on := 27, ground := Go.Ground.data }, { on := 29, ground := Go.Ground.data }, { on := 31, ground := Go.Ground.data }, { on := 33, ground := Go.Ground.data }, { on := 35, ground := Go.Ground.data }, { on := 37, ground := Go.Ground.data }, { on := 39, ground := Go.Ground.data }, { on := 41, ground := Go.Ground.data }, { on := 43, ground := Go.Ground.data }, { on := 45, ground := Go.Ground.data }, { on := 47, ground := Go.Ground.data }], guard := none }).run Try.prog W = .ok (.value (.agg (msgC m.c sv'))) W := by
 obtain ⟨x0, e0⟩ : ∃ x, m.c 0 = .int .i64 x := hT 0 rfl
 obtain ⟨x1, e1⟩ : ∃ x, m.c 1 = .int .i64 x := hT 1 rfl
 obtain ⟨x2, e2⟩ : ∃ x, m.c 2 = .int .i64 x := hT 2 rfl
 obtain ⟨x4, e4⟩ : ∃ x, m.c 4 = .int .i64 x := hT 4 rfl
 obtain ⟨x5, e5⟩ : ∃ x, m.c 5 = .int .i64 x := hT 5 rfl
 obtain ⟨x6, e6⟩ : ∃ x, m.c 6 = .int .i64 x := hT 6 rfl
 obtain ⟨x7, e7⟩ : ∃ x, m.c 7 = .int .i64 x := hT 7 rfl
 obtain ⟨x11, e11⟩ : ∃ x, m.c 11 = .int .i64 x := hT 11 rfl
 obtain ⟨x12, e12⟩ : ∃ x, m.c 12 = .int .i64 x := hT 12 rfl
 obtain ⟨x13, e13⟩ : ∃ x, m.c 13 = .bool x := hT 13 rfl
 obtain ⟨x14, e14⟩ : ∃ x, m.c 14 = .int .i64 x := hT 14 rfl
 obtain ⟨x15, e15⟩ : ∃ x, m.c 15 = .int .i64 x := hT 15 rfl
 obtain ⟨x16, e16⟩ : ∃ x, m.c 16 = .string x := hT 16 rfl
 obtain ⟨x17, e17⟩ : ∃ x, m.c 17 = .bool x := hT 17 rfl
 obtain ⟨x18, e18⟩ : ∃ x, m.c 18 = .string x := hT 18 rfl
 obtain ⟨x19, e19⟩ : ∃ x, m.c 19 = .int .i64 x := hT 19 rfl
 obtain ⟨x20, e20⟩ : ∃ x, m.c 20 = .int .i64 x := hT 20 rfl
 obtain ⟨x21, e21⟩ : ∃ x, m.c 21 = .int .i64 x := hT 21 rfl
 obtain ⟨x22, e22⟩ : ∃ x, m.c 22 = .int .i64 x := hT 22 rfl
 obtain ⟨x23, e23⟩ : ∃ x, m.c 23 = .int .i64 x := hT 23 rfl
 obtain ⟨x24, e24⟩ : ∃ x, m.c 24 = .bool x := hT 24 rfl
 obtain ⟨x25, e25⟩ : ∃ x, m.c 25 = .string x := hT 25 rfl
 obtain ⟨A3, n3, c3, s3⟩ := hs 3 zak (by simp [zah])
 obtain ⟨A8, n8, c8, s8⟩ := hs 8 zat (by simp [zah])
 obtain ⟨A9, n9, c9, s9⟩ := hs 9 zau (by simp [zah])
 obtain ⟨A10, n10, c10, s10⟩ := hs 10 zaj (by simp [zah])
 simp only [e0, e1, e2, e4, e5, e6, e7, e11, e12, e13, e14, e15, e16, e17, e18, e19, e20, e21, e22, e23, e24, e25, s3, s8, s9, s10] at h4 h6 h8 h12 h14 h16 h18 h22 h26 h30 h32 h34 h36 h38 h40 h42 h44 h46 h48 h50
 simp only [msgC, e0, e1, e2, e4, e5, e6, e7, e11, e12, e13, e14, e15, e16, e17, e18, e19, e20, e21, e22, e23, e24, e25, s3, s8, s9, s10]
 clear hT hs e0 e1 e2 e4 e5 e6 e7 e11 e12 e13 e14 e15 e16 e17 e18 e19 e20 e21 e22 e23 e24 e25 s3 s8 s9 s10
 unfold execOp
 simp only [List.map_toArray, List.map_cons, List.map_nil, h4, h6, h8, h12, h14, h16, h18, h22, h26, h30, h32, h34, h36, h38, h40, h42, h44, h46, h48, h50]
 go_simp
theorem pl_go {ops : Array Oper} {fuel : Nat} {listed : Array Bool} {Q : Exit → Act → World → Prop} {S : World → Prop} {a : Act} {w : World} (h1 : ops = zfl) (h2 : fuel = 10) (h3 : listed = lst 0 0) (h : wpAnyH Try.prog .any zfl Q S 10 (lst 0 0) a w) : wpAnyH Try.prog .any ops Q S fuel listed a w := by
 subst h1 h2 h3
 exact h
theorem plain_c (w : World) (v : Value) (m : M) (sv : Nat → Value) (h : MsgRd w v m sv) (hs : ∀ j, (m.L j).length ≤ 1048576) :
  Calls Try.prog 10 #[v] w (fun e w' => ∃ v' sv', e = .returned v' ∧ MsgRd w' v' m sv' ∧ Below w.heap.size w w' ∧ ∀ j fs, (j, fs) ∈ zah → ∀ k, arr (sv' j) = some k → m.L j ≠ [] → w.heap.size ≤ k) := by
 rw [h.agg]
 have HM := aK h
 have HN := aK hs
 clear h hs
 go_enter Try.func10, Try.ntmps10
 go_upto_region 1 with (first | ((with_reducible refine zag (N := 1) rfl ?_); refine zbf rfl 32 (.tmp 0) rfl (msgC m.c sv) rfl ?_; intro g1 w1 hg hbox hb; have HB1 := aK hb; have HX0 := aK hbox; clear hb hbox hg) | ((with_reducible refine zag (N := 2) rfl ?_); refine zbe rfl 35 rfl _ (zci _) ?_; intro g2 w2 hg hbox hb; have HX1 := aK ((hb.block g1 (zad HX0.out)).trans HX0.out); have HX2 := aK hbox; have HBW := aK (HB1.out.trans (hb.mono HB1.out.size)); have HG2 := aK hg; have HNE := aK (show g1 ≠ g2 ∧ w.heap.size ≤ g2 ∧ g2 < w2.heap.size from by have := zad HX0.out; have := HB1.out.size; have := zad hbox; omega); clear hb hbox hg HB1 HX0))
 refine wp_region_held_drew (S := (fun W => W.heap[g1]? = some (.cells (msgC m.c sv) 32 (0, 0)))) (by kernel_rfl) HX1.out (fun hHeld => ?_)
 refine wpAnyH_take (i := 0) (oi := { dst := some 3, op := Go.Op.fieldAddr 32 (Go.Operand.tmp 1) 0, type := 0, pos := "law.go:21", after := #[], guard := none }) (v := .pointer (some ⟨g1, 0, none⟩)) rfl (by kernel_rfl) (by kernel_rfl) (by kernel_rfl) (fun _ _ _ h => h) (Or.inl ⟨by rfl, ?_⟩) (by assumption) ?_
 ·(intro W hSW; go_simp; (try with_reducible rfl))
 try simp only [Act.put, aS, aZ, aC]
 refine wpAnyH_take (i := 1) (oi := { dst := some 4, op := Go.Op.load 3 (Go.Operand.tmp 3), type := 3, pos := "law.go:21", after := #[{ on := 0, ground := Go.Ground.data }], guard := none }) (v := m.c 0) rfl (by kernel_rfl) (by kernel_rfl) (by kernel_rfl) (fun _ _ _ h => h) (Or.inl ⟨by rfl, ?_⟩) (by assumption) ?_
 ·(intro W hSW; have hc := (zab hSW 0).trans (rfl : _ = some (m.c 0)); go_simp; (try with_reducible rfl))
 try simp only [Act.put, aS, aZ, aC]
 refine wpAnyH_take (i := 2) (oi := { dst := some 5, op := Go.Op.fieldAddr 32 (Go.Operand.tmp 1) 1, type := 0, pos := "law.go:21", after := #[], guard := none }) (v := .pointer (some ⟨g1, 1, none⟩)) rfl (by kernel_rfl) (by kernel_rfl) (by kernel_rfl) (fun _ _ _ h => h) (Or.inl ⟨by rfl, ?_⟩) (by assumption) ?_
 ·(intro W hSW; go_simp; (try with_reducible rfl))
 try simp only [Act.put, aS, aZ, aC]
 refine wpAnyH_take (i := 3) (oi := { dst := some 6, op := Go.Op.load 3 (Go.Operand.tmp 5), type := 3, pos := "law.go:21", after := #[{ on := 2, ground := Go.Ground.data }], guard := none }) (v := m.c 1) rfl (by kernel_rfl) (by kernel_rfl) (by kernel_rfl) (fun _ _ _ h => h) (Or.inl ⟨by rfl, ?_⟩) (by assumption) ?_
 ·(intro W hSW; have hc := (zab hSW 1).trans (rfl : _ = some (m.c 1)); go_simp; (try with_reducible rfl))
 try simp only [Act.put, aS, aZ, aC]
 refine wpAnyH_take (i := 4) (oi := { dst := some 7, op := Go.Op.fieldAddr 32 (Go.Operand.tmp 1) 2, type := 0, pos := "law.go:21", after := #[], guard := none }) (v := .pointer (some ⟨g1, 2, none⟩)) rfl (by kernel_rfl) (by kernel_rfl) (by kernel_rfl) (fun _ _ _ h => h) (Or.inl ⟨by rfl, ?_⟩) (by assumption) ?_
 ·(intro W hSW; go_simp; (try with_reducible rfl))
 try simp only [Act.put, aS, aZ, aC]
 refine wpAnyH_take (i := 5) (oi := { dst := some 8, op := Go.Op.load 3 (Go.Operand.tmp 7), type := 3, pos := "law.go:21", after := #[{ on := 4, ground := Go.Ground.data }], guard := none }) (v := m.c 2) rfl (by kernel_rfl) (by kernel_rfl) (by kernel_rfl) (fun _ _ _ h => h) (Or.inl ⟨by rfl, ?_⟩) (by assumption) ?_
 ·(intro W hSW; have hc := (zab hSW 2).trans (rfl : _ = some (m.c 2)); go_simp; (try with_reducible rfl))
 try simp only [Act.put, aS, aZ, aC]
 refine wpAnyH_take (i := 7) (oi := { dst := some 10, op := Go.Op.fieldAddr 32 (Go.Operand.tmp 1) 3, type := 0, pos := "law.go:21", after := #[], guard := none }) (v := .pointer (some ⟨g1, 3, none⟩)) rfl (by kernel_rfl) (by kernel_rfl) (by kernel_rfl) (fun _ _ _ h => h) (Or.inl ⟨by rfl, ?_⟩) (by assumption) ?_
 ·(intro W hSW; go_simp; (try with_reducible rfl))
 try simp only [Act.put, aS, aZ, aC]
 refine wpAnyH_take (i := 8) (oi := { dst := some 11, op := Go.Op.load 22 (Go.Operand.tmp 10), type := 22, pos := "law.go:21", after := #[{ on := 7, ground := Go.Ground.data }], guard := none }) (v := sv 3) rfl (by kernel_rfl) (by kernel_rfl) (by kernel_rfl) (fun _ _ _ h => h) (Or.inl ⟨by rfl, ?_⟩) (by assumption) ?_
 ·(intro W hSW; have hc := (zab hSW 3).trans (rfl : _ = some (sv 3)); go_simp; (try with_reducible rfl))
 try simp only [Act.put, aS, aZ, aC]
 refine wpAnyH_take (i := 10) (oi := { dst := some 13, op := Go.Op.fieldAddr 32 (Go.Operand.tmp 1) 4, type := 0, pos := "law.go:21", after := #[], guard := none }) (v := .pointer (some ⟨g1, 4, none⟩)) rfl (by kernel_rfl) (by kernel_rfl) (by kernel_rfl) (fun _ _ _ h => h) (Or.inl ⟨by rfl, ?_⟩) (by assumption) ?_
 ·(intro W hSW; go_simp; (try with_reducible rfl))
 try simp only [Act.put, aS, aZ, aC]
 refine wpAnyH_take (i := 11) (oi := { dst := some 14, op := Go.Op.load 24 (Go.Operand.tmp 13), type := 24, pos := "law.go:21", after := #[{ on := 10, ground := Go.Ground.data }], guard := none }) (v := .agg #[m.c 4, m.c 5]) rfl (by kernel_rfl) (by kernel_rfl) (by kernel_rfl) (fun _ _ _ h => h) (Or.inl ⟨by rfl, ?_⟩) (by assumption) ?_
 ·exact fun W hSW => zas rfl (g := g1) (off := 4) rfl [m.c 4, m.c 5] (fun j v hj => (zab hSW (4 + j)).trans (zek m.c sv 4 2 (by decide) j v hj)) Try.underlying24 rfl (by kernel_rfl)
 try simp only [Act.put, aS, aZ, aC]
 refine wpAnyH_take (i := 12) (oi := { dst := some 15, op := Go.Op.fieldAddr 32 (Go.Operand.tmp 1) 5, type := 0, pos := "law.go:21", after := #[], guard := none }) (v := .pointer (some ⟨g1, 6, none⟩)) rfl (by kernel_rfl) (by kernel_rfl) (by kernel_rfl) (fun _ _ _ h => h) (Or.inl ⟨by rfl, ?_⟩) (by assumption) ?_
 ·(intro W hSW; go_simp; (try with_reducible rfl))
 try simp only [Act.put, aS, aZ, aC]
 refine wpAnyH_take (i := 13) (oi := { dst := some 16, op := Go.Op.load 3 (Go.Operand.tmp 15), type := 3, pos := "law.go:21", after := #[{ on := 12, ground := Go.Ground.data }], guard := none }) (v := m.c 6) rfl (by kernel_rfl) (by kernel_rfl) (by kernel_rfl) (fun _ _ _ h => h) (Or.inl ⟨by rfl, ?_⟩) (by assumption) ?_
 ·(intro W hSW; have hc := (zab hSW 6).trans (rfl : _ = some (m.c 6)); go_simp; (try with_reducible rfl))
 try simp only [Act.put, aS, aZ, aC]
 refine wpAnyH_take (i := 14) (oi := { dst := some 17, op := Go.Op.fieldAddr 32 (Go.Operand.tmp 1) 6, type := 0, pos := "law.go:21", after := #[], guard := none }) (v := .pointer (some ⟨g1, 7, none⟩)) rfl (by kernel_rfl) (by kernel_rfl) (by kernel_rfl) (fun _ _ _ h => h) (Or.inl ⟨by rfl, ?_⟩) (by assumption) ?_
 ·(intro W hSW; go_simp; (try with_reducible rfl))
 try simp only [Act.put, aS, aZ, aC]
 refine wpAnyH_take (i := 15) (oi := { dst := some 18, op := Go.Op.load 3 (Go.Operand.tmp 17), type := 3, pos := "law.go:21", after := #[{ on := 14, ground := Go.Ground.data }], guard := none }) (v := m.c 7) rfl (by kernel_rfl) (by kernel_rfl) (by kernel_rfl) (fun _ _ _ h => h) (Or.inl ⟨by rfl, ?_⟩) (by assumption) ?_
 ·(intro W hSW; have hc := (zab hSW 7).trans (rfl : _ = some (m.c 7)); go_simp; (try with_reducible rfl))
 try simp only [Act.put, aS, aZ, aC]
 refine wpAnyH_take (i := 17) (oi := { dst := some 20, op := Go.Op.fieldAddr 32 (Go.Operand.tmp 1) 7, type := 0, pos := "law.go:21", after := #[], guard := none }) (v := .pointer (some ⟨g1, 8, none⟩)) rfl (by kernel_rfl) (by kernel_rfl) (by kernel_rfl) (fun _ _ _ h => h) (Or.inl ⟨by rfl, ?_⟩) (by assumption) ?_
 ·(intro W hSW; go_simp; (try with_reducible rfl))
 try simp only [Act.put, aS, aZ, aC]
 refine wpAnyH_take (i := 18) (oi := { dst := some 21, op := Go.Op.load 25 (Go.Operand.tmp 20), type := 25, pos := "law.go:21", after := #[{ on := 17, ground := Go.Ground.data }], guard := none }) (v := sv 8) rfl (by kernel_rfl) (by kernel_rfl) (by kernel_rfl) (fun _ _ _ h => h) (Or.inl ⟨by rfl, ?_⟩) (by assumption) ?_
 ·(intro W hSW; have hc := (zab hSW 8).trans (rfl : _ = some (sv 8)); go_simp; (try with_reducible rfl))
 try simp only [Act.put, aS, aZ, aC]
 refine wpAnyH_take (i := 21) (oi := { dst := some 24, op := Go.Op.fieldAddr 32 (Go.Operand.tmp 1) 8, type := 0, pos := "law.go:21", after := #[], guard := none }) (v := .pointer (some ⟨g1, 9, none⟩)) rfl (by kernel_rfl) (by kernel_rfl) (by kernel_rfl) (fun _ _ _ h => h) (Or.inl ⟨by rfl, ?_⟩) (by assumption) ?_
 ·(intro W hSW; go_simp; (try with_reducible rfl))
 try simp only [Act.put, aS, aZ, aC]
 refine wpAnyH_take (i := 22) (oi := { dst := some 25, op := Go.Op.load 26 (Go.Operand.tmp 24), type := 26, pos := "law.go:21", after := #[{ on := 21, ground := Go.Ground.data }], guard := none }) (v := sv 9) rfl (by kernel_rfl) (by kernel_rfl) (by kernel_rfl) (fun _ _ _ h => h) (Or.inl ⟨by rfl, ?_⟩) (by assumption) ?_
 ·(intro W hSW; have hc := (zab hSW 9).trans (rfl : _ = some (sv 9)); go_simp; (try with_reducible rfl))
 try simp only [Act.put, aS, aZ, aC]
 refine wpAnyH_take (i := 25) (oi := { dst := some 28, op := Go.Op.fieldAddr 32 (Go.Operand.tmp 1) 9, type := 0, pos := "law.go:21", after := #[], guard := none }) (v := .pointer (some ⟨g1, 10, none⟩)) rfl (by kernel_rfl) (by kernel_rfl) (by kernel_rfl) (fun _ _ _ h => h) (Or.inl ⟨by rfl, ?_⟩) (by assumption) ?_
 ·(intro W hSW; go_simp; (try with_reducible rfl))
 try simp only [Act.put, aS, aZ, aC]
 refine wpAnyH_take (i := 26) (oi := { dst := some 29, op := Go.Op.load 27 (Go.Operand.tmp 28), type := 27, pos := "law.go:21", after := #[{ on := 25, ground := Go.Ground.data }], guard := none }) (v := sv 10) rfl (by kernel_rfl) (by kernel_rfl) (by kernel_rfl) (fun _ _ _ h => h) (Or.inl ⟨by rfl, ?_⟩) (by assumption) ?_
 ·(intro W hSW; have hc := (zab hSW 10).trans (rfl : _ = some (sv 10)); go_simp; (try with_reducible rfl))
 try simp only [Act.put, aS, aZ, aC]
 refine wpAnyH_take (i := 28) (oi := { dst := some 31, op := Go.Op.fieldAddr 32 (Go.Operand.tmp 1) 10, type := 0, pos := "law.go:21", after := #[], guard := none }) (v := .pointer (some ⟨g1, 11, none⟩)) rfl (by kernel_rfl) (by kernel_rfl) (by kernel_rfl) (fun _ _ _ h => h) (Or.inl ⟨by rfl, ?_⟩) (by assumption) ?_
 ·(intro W hSW; go_simp; (try with_reducible rfl))
 try simp only [Act.put, aS, aZ, aC]
 refine wpAnyH_take (i := 29) (oi := { dst := some 32, op := Go.Op.load 24 (Go.Operand.tmp 31), type := 24, pos := "law.go:21", after := #[{ on := 28, ground := Go.Ground.data }], guard := none }) (v := .agg #[m.c 11, m.c 12]) rfl (by kernel_rfl) (by kernel_rfl) (by kernel_rfl) (fun _ _ _ h => h) (Or.inl ⟨by rfl, ?_⟩) (by assumption) ?_
 ·exact fun W hSW => zas rfl (g := g1) (off := 11) rfl [m.c 11, m.c 12] (fun j v hj => (zab hSW (11 + j)).trans (zek m.c sv 11 2 (by decide) j v hj)) Try.underlying24 rfl (by kernel_rfl)
 try simp only [Act.put, aS, aZ, aC]
 refine wpAnyH_take (i := 30) (oi := { dst := some 33, op := Go.Op.fieldAddr 32 (Go.Operand.tmp 1) 11, type := 0, pos := "law.go:21", after := #[], guard := none }) (v := .pointer (some ⟨g1, 13, none⟩)) rfl (by kernel_rfl) (by kernel_rfl) (by kernel_rfl) (fun _ _ _ h => h) (Or.inl ⟨by rfl, ?_⟩) (by assumption) ?_
 ·(intro W hSW; go_simp; (try with_reducible rfl))
 try simp only [Act.put, aS, aZ, aC]
 refine wpAnyH_take (i := 31) (oi := { dst := some 34, op := Go.Op.load 4 (Go.Operand.tmp 33), type := 4, pos := "law.go:21", after := #[{ on := 30, ground := Go.Ground.data }], guard := none }) (v := m.c 13) rfl (by kernel_rfl) (by kernel_rfl) (by kernel_rfl) (fun _ _ _ h => h) (Or.inl ⟨by rfl, ?_⟩) (by assumption) ?_
 ·(intro W hSW; have hc := (zab hSW 13).trans (rfl : _ = some (m.c 13)); go_simp; (try with_reducible rfl))
 try simp only [Act.put, aS, aZ, aC]
 refine wpAnyH_take (i := 32) (oi := { dst := some 35, op := Go.Op.fieldAddr 32 (Go.Operand.tmp 1) 12, type := 0, pos := "law.go:21", after := #[], guard := none }) (v := .pointer (some ⟨g1, 14, none⟩)) rfl (by kernel_rfl) (by kernel_rfl) (by kernel_rfl) (fun _ _ _ h => h) (Or.inl ⟨by rfl, ?_⟩) (by assumption) ?_
 ·(intro W hSW; go_simp; (try with_reducible rfl))
 try simp only [Act.put, aS, aZ, aC]
 refine wpAnyH_take (i := 33) (oi := { dst := some 36, op := Go.Op.load 3 (Go.Operand.tmp 35), type := 3, pos := "law.go:21", after := #[{ on := 32, ground := Go.Ground.data }], guard := none }) (v := m.c 14) rfl (by kernel_rfl) (by kernel_rfl) (by kernel_rfl) (fun _ _ _ h => h) (Or.inl ⟨by rfl, ?_⟩) (by assumption) ?_
 ·(intro W hSW; have hc := (zab hSW 14).trans (rfl : _ = some (m.c 14)); go_simp; (try with_reducible rfl))
 try simp only [Act.put, aS, aZ, aC]
 refine wpAnyH_take (i := 34) (oi := { dst := some 37, op := Go.Op.fieldAddr 32 (Go.Operand.tmp 1) 13, type := 0, pos := "law.go:21", after := #[], guard := none }) (v := .pointer (some ⟨g1, 15, none⟩)) rfl (by kernel_rfl) (by kernel_rfl) (by kernel_rfl) (fun _ _ _ h => h) (Or.inl ⟨by rfl, ?_⟩) (by assumption) ?_
 ·(intro W hSW; go_simp; (try with_reducible rfl))
 try simp only [Act.put, aS, aZ, aC]
 refine wpAnyH_take (i := 35) (oi := { dst := some 38, op := Go.Op.load 3 (Go.Operand.tmp 37), type := 3, pos := "law.go:21", after := #[{ on := 34, ground := Go.Ground.data }], guard := none }) (v := m.c 15) rfl (by kernel_rfl) (by kernel_rfl) (by kernel_rfl) (fun _ _ _ h => h) (Or.inl ⟨by rfl, ?_⟩) (by assumption) ?_
 ·(intro W hSW; have hc := (zab hSW 15).trans (rfl : _ = some (m.c 15)); go_simp; (try with_reducible rfl))
 try simp only [Act.put, aS, aZ, aC]
 refine wpAnyH_take (i := 36) (oi := { dst := some 39, op := Go.Op.fieldAddr 32 (Go.Operand.tmp 1) 14, type := 0, pos := "law.go:21", after := #[], guard := none }) (v := .pointer (some ⟨g1, 16, none⟩)) rfl (by kernel_rfl) (by kernel_rfl) (by kernel_rfl) (fun _ _ _ h => h) (Or.inl ⟨by rfl, ?_⟩) (by assumption) ?_
 ·(intro W hSW; go_simp; (try with_reducible rfl))
 try simp only [Act.put, aS, aZ, aC]
 refine wpAnyH_take (i := 37) (oi := { dst := some 40, op := Go.Op.load 9 (Go.Operand.tmp 39), type := 9, pos := "law.go:21", after := #[{ on := 36, ground := Go.Ground.data }], guard := none }) (v := m.c 16) rfl (by kernel_rfl) (by kernel_rfl) (by kernel_rfl) (fun _ _ _ h => h) (Or.inl ⟨by rfl, ?_⟩) (by assumption) ?_
 ·(intro W hSW; have hc := (zab hSW 16).trans (rfl : _ = some (m.c 16)); go_simp; (try with_reducible rfl))
 try simp only [Act.put, aS, aZ, aC]
 refine wpAnyH_take (i := 38) (oi := { dst := some 41, op := Go.Op.fieldAddr 32 (Go.Operand.tmp 1) 15, type := 0, pos := "law.go:21", after := #[], guard := none }) (v := .pointer (some ⟨g1, 17, none⟩)) rfl (by kernel_rfl) (by kernel_rfl) (by kernel_rfl) (fun _ _ _ h => h) (Or.inl ⟨by rfl, ?_⟩) (by assumption) ?_
 ·(intro W hSW; go_simp; (try with_reducible rfl))
 try simp only [Act.put, aS, aZ, aC]
 refine wpAnyH_take (i := 39) (oi := { dst := some 42, op := Go.Op.load 4 (Go.Operand.tmp 41), type := 4, pos := "law.go:21", after := #[{ on := 38, ground := Go.Ground.data }], guard := none }) (v := m.c 17) rfl (by kernel_rfl) (by kernel_rfl) (by kernel_rfl) (fun _ _ _ h => h) (Or.inl ⟨by rfl, ?_⟩) (by assumption) ?_
 ·(intro W hSW; have hc := (zab hSW 17).trans (rfl : _ = some (m.c 17)); go_simp; (try with_reducible rfl))
 try simp only [Act.put, aS, aZ, aC]
 refine wpAnyH_take (i := 40) (oi := { dst := some 43, op := Go.Op.fieldAddr 32 (Go.Operand.tmp 1) 16, type := 0, pos := "law.go:21", after := #[], guard := none }) (v := .pointer (some ⟨g1, 18, none⟩)) rfl (by kernel_rfl) (by kernel_rfl) (by kernel_rfl) (fun _ _ _ h => h) (Or.inl ⟨by rfl, ?_⟩) (by assumption) ?_
 ·(intro W hSW; go_simp; (try with_reducible rfl))
 try simp only [Act.put, aS, aZ, aC]
 refine wpAnyH_take (i := 41) (oi := { dst := some 44, op := Go.Op.load 9 (Go.Operand.tmp 43), type := 9, pos := "law.go:21", after := #[{ on := 40, ground := Go.Ground.data }], guard := none }) (v := m.c 18) rfl (by kernel_rfl) (by kernel_rfl) (by kernel_rfl) (fun _ _ _ h => h) (Or.inl ⟨by rfl, ?_⟩) (by assumption) ?_
 ·(intro W hSW; have hc := (zab hSW 18).trans (rfl : _ = some (m.c 18)); go_simp; (try with_reducible rfl))
 try simp only [Act.put, aS, aZ, aC]
 refine wpAnyH_take (i := 42) (oi := { dst := some 45, op := Go.Op.fieldAddr 32 (Go.Operand.tmp 1) 17, type := 0, pos := "law.go:21", after := #[], guard := none }) (v := .pointer (some ⟨g1, 19, none⟩)) rfl (by kernel_rfl) (by kernel_rfl) (by kernel_rfl) (fun _ _ _ h => h) (Or.inl ⟨by rfl, ?_⟩) (by assumption) ?_
 ·(intro W hSW; go_simp; (try with_reducible rfl))
 try simp only [Act.put, aS, aZ, aC]
 refine wpAnyH_take (i := 43) (oi := { dst := some 46, op := Go.Op.load 24 (Go.Operand.tmp 45), type := 24, pos := "law.go:21", after := #[{ on := 42, ground := Go.Ground.data }], guard := none }) (v := .agg #[m.c 19, m.c 20]) rfl (by kernel_rfl) (by kernel_rfl) (by kernel_rfl) (fun _ _ _ h => h) (Or.inl ⟨by rfl, ?_⟩) (by assumption) ?_
 ·exact fun W hSW => zas rfl (g := g1) (off := 19) rfl [m.c 19, m.c 20] (fun j v hj => (zab hSW (19 + j)).trans (zek m.c sv 19 2 (by decide) j v hj)) Try.underlying24 rfl (by kernel_rfl)
 try simp only [Act.put, aS, aZ, aC]
 refine wpAnyH_take (i := 44) (oi := { dst := some 47, op := Go.Op.fieldAddr 32 (Go.Operand.tmp 1) 18, type := 0, pos := "law.go:21", after := #[], guard := none }) (v := .pointer (some ⟨g1, 21, none⟩)) rfl (by kernel_rfl) (by kernel_rfl) (by kernel_rfl) (fun _ _ _ h => h) (Or.inl ⟨by rfl, ?_⟩) (by assumption) ?_
 ·(intro W hSW; go_simp; (try with_reducible rfl))
 try simp only [Act.put, aS, aZ, aC]
 refine wpAnyH_take (i := 45) (oi := { dst := some 48, op := Go.Op.load 28 (Go.Operand.tmp 47), type := 28, pos := "law.go:21", after := #[{ on := 44, ground := Go.Ground.data }], guard := none }) (v := m.c 21) rfl (by kernel_rfl) (by kernel_rfl) (by kernel_rfl) (fun _ _ _ h => h) (Or.inl ⟨by rfl, ?_⟩) (by assumption) ?_
 ·(intro W hSW; have hc := (zab hSW 21).trans (rfl : _ = some (m.c 21)); go_simp; (try with_reducible rfl))
 try simp only [Act.put, aS, aZ, aC]
 refine wpAnyH_take (i := 46) (oi := { dst := some 49, op := Go.Op.fieldAddr 32 (Go.Operand.tmp 1) 19, type := 0, pos := "law.go:21", after := #[], guard := none }) (v := .pointer (some ⟨g1, 22, none⟩)) rfl (by kernel_rfl) (by kernel_rfl) (by kernel_rfl) (fun _ _ _ h => h) (Or.inl ⟨by rfl, ?_⟩) (by assumption) ?_
 ·(intro W hSW; go_simp; (try with_reducible rfl))
 try simp only [Act.put, aS, aZ, aC]
 refine wpAnyH_take (i := 47) (oi := { dst := some 50, op := Go.Op.load 30 (Go.Operand.tmp 49), type := 30, pos := "law.go:21", after := #[{ on := 46, ground := Go.Ground.data }], guard := none }) (v := .agg #[m.c 22, m.c 23, m.c 24, m.c 25]) rfl (by kernel_rfl) (by kernel_rfl) (by kernel_rfl) (fun _ _ _ h => h) (Or.inl ⟨by rfl, ?_⟩) (by assumption) ?_
 ·exact fun W hSW => zas rfl (g := g1) (off := 22) rfl [m.c 22, m.c 23, m.c 24, m.c 25] (fun j v hj => (zab hSW (22 + j)).trans (zek m.c sv 22 4 (by decide) j v hj)) Try.underlying30 rfl (by kernel_rfl)
 try simp only [Act.put, aS, aZ, aC]
 refine pl_go rfl (by kernel_rfl) (by kernel_rfl) ?_
 refine ztr (w0 := w2.drew) (m := m) (sv := sv) (S := (fun W => W.heap[g1]? = some (.cells (msgC m.c sv) 32 (0, 0)))) (fun W hB => (hB.block g1 (zad HX1.out)).trans HX1.out) (fun j hj => ?_) HM.out.fit HN.out (fun a W hJ => ?_) 8 0 0 _ _ rfl (by decide) (by decide) (by decide) ⟨Below.refl _ _, rfl, rfl, fun _ _ _ h => h, fun j hj h => absurd h (by simp), fun j hj => absurd hj (Nat.not_lt_zero _)⟩
 ·have : j = 0 ∨ j = 1 ∨ j = 2 ∨ j = 3 := by omega
  have hMs := HM.out.below HBW.out
  rcases this with rfl | rfl | rfl | rfl
  ·exact ⟨rfl, hMs.rd 3 zak (by simp [zah])⟩
  ·exact ⟨rfl, hMs.rd 8 zat (by simp [zah])⟩
  ·exact ⟨rfl, hMs.rd 9 zau (by simp [zah])⟩
  ·exact ⟨rfl, hMs.rd 10 zaj (by simp [zah])⟩
 obtain ⟨v3, q3, r3, f3⟩ := hJ.app 0 (by decide)
 obtain ⟨v8, q8, r8, f8⟩ := hJ.app 1 (by decide)
 obtain ⟨v9, q9, r9, f9⟩ := hJ.app 2 (by decide)
 obtain ⟨v10, q10, r10, f10⟩ := hJ.app 3 (by decide)
 obtain ⟨sv', t3, t8, t9, t10⟩ : ∃ s : Nat → Value, v3 = s 3 ∧ v8 = s 8 ∧ v9 = s 9 ∧ v10 = s 10 := ⟨fun j => if j = 3 then v3 else if j = 8 then v8 else if j = 9 then v9 else v10, rfl, rfl, rfl, rfl⟩
 subst t3 t8 t9 t10
 have hMW : MsgRd W (msgV m.c sv') m sv' := ⟨rfl, HM.out.typed, HM.out.fit, fun j fs hj => by
  simp only [zah, List.mem_cons, Prod.mk.injEq, List.not_mem_nil, or_false] at hj
  rcases hj with ⟨rfl, rfl⟩ | ⟨rfl, rfl⟩ | ⟨rfl, rfl⟩ | ⟨rfl, rfl⟩
  ·exact r3
  ·exact r8
  ·exact r9
  ·exact r10⟩
 have hS : W.heap[g1]? = some (.cells (msgC m.c sv) 32 (0, 0)) := (hJ.bel.block g1 (zad HX1.out)).trans HX1.out
 have hX : W.heap[g2]? = some (.cells (msgC zdu nils) 35 (0, 0)) := (hJ.bel.block g2 (zad HX2.out)).trans HX2.out
 have p2 : Has a 2 (.pointer (some ⟨g2, 0, none⟩)) := hJ.old 2 _ rfl rfl
 refine wpAnyH_take (i := 48) (oi := { dst := some 51, op := Go.Op.build 35 #[(0, Go.Operand.tmp 4), (1, Go.Operand.tmp 6), (2, Go.Operand.tmp 8), (3, Go.Operand.tmp 12), (4, Go.Operand.tmp 14), (5, Go.Operand.tmp 16), (6, Go.Operand.tmp 18), (7, Go.Operand.tmp 22), (8, Go.Operand.tmp 26), (9, Go.Operand.tmp 30), (10, Go.Operand.tmp 32), (11, Go.Operand.tmp 34), (12, Go.Operand.tmp 36), (13, Go.Operand.tmp 38), (14, Go.Operand.tmp 40), (15, Go.Operand.tmp 42), (16, Go.Operand.tmp 44), (17, Go.Operand.tmp 46), (18, Go.Operand.tmp 48), (19, Go.Operand.tmp 50)], type := 35, pos := "law.go:21", after := #[{ on := 1, ground := Go.Ground.data }, { on := 3, ground := Go.Ground.data }, { on := 5, ground := Go.Ground.data }, { on := 9, ground := Go.Ground.data }, { on := 11, ground := Go.Ground.data }, { on := 13, ground := Go.Ground.data }, { on := 15, ground := Go.Ground.data }, { on := 19, ground := Go.Ground.data }, { on := 23, ground := Go.Ground.data }, { on := 27, ground := Go.Ground.data }, { on := 29, ground := Go.Ground.data }, { on := 31, ground := Go.Ground.data }, { on := 33, ground := Go.Ground.data }, { on := 35, ground := Go.Ground.data }, { on := 37, ground := Go.Ground.data }, { on := 39, ground := Go.Ground.data }, { on := 41, ground := Go.Ground.data }, { on := 43, ground := Go.Ground.data }, { on := 45, ground := Go.Ground.data }, { on := 47, ground := Go.Ground.data }], guard := none }) (v := .agg (msgC m.c sv')) rfl (by kernel_rfl) (by kernel_rfl) (by kernel_rfl) (fun _ _ _ h => h) (Or.inl ⟨by rfl, fun W' _ => zts HM.out.typed (fun j fs hj => by obtain ⟨A, c, e, _⟩ := hMW.rd j fs hj; exact ⟨_, _, _, e⟩) (hJ.old 4 _ rfl rfl).eval (hJ.old 6 _ rfl rfl).eval (hJ.old 8 _ rfl rfl).eval q3.eval (hJ.old 14 _ rfl rfl).eval (hJ.old 16 _ rfl rfl).eval (hJ.old 18 _ rfl rfl).eval q8.eval q9.eval q10.eval (hJ.old 32 _ rfl rfl).eval (hJ.old 34 _ rfl rfl).eval (hJ.old 36 _ rfl rfl).eval (hJ.old 38 _ rfl rfl).eval (hJ.old 40 _ rfl rfl).eval (hJ.old 42 _ rfl rfl).eval (hJ.old 44 _ rfl rfl).eval (hJ.old 46 _ rfl rfl).eval (hJ.old 48 _ rfl rfl).eval (hJ.old 50 _ rfl rfl).eval⟩) hS ?_
 refine wpAnyH_ready (rs := [49]) (by kernel_rfl) (by simp) ?_
 refine AllReadyH.cons (o := { dst := none, op := Go.Op.store 35 (Go.Operand.tmp 2) (Go.Operand.tmp 51), type := 0, pos := "law.go:21", after := #[{ on := 48, ground := Go.Ground.data }, { on := 27, ground := Go.Ground.chain }, { on := 0, ground := Go.Ground.phase }, { on := 1, ground := Go.Ground.phase }, { on := 2, ground := Go.Ground.phase }, { on := 3, ground := Go.Ground.phase }, { on := 4, ground := Go.Ground.phase }, { on := 5, ground := Go.Ground.phase }, { on := 6, ground := Go.Ground.phase }, { on := 7, ground := Go.Ground.phase }, { on := 8, ground := Go.Ground.phase }, { on := 9, ground := Go.Ground.phase }, { on := 10, ground := Go.Ground.phase }, { on := 11, ground := Go.Ground.phase }, { on := 12, ground := Go.Ground.phase }, { on := 13, ground := Go.Ground.phase }, { on := 14, ground := Go.Ground.phase }, { on := 15, ground := Go.Ground.phase }, { on := 16, ground := Go.Ground.phase }, { on := 17, ground := Go.Ground.phase }, { on := 18, ground := Go.Ground.phase }, { on := 19, ground := Go.Ground.phase }, { on := 20, ground := Go.Ground.phase }, { on := 21, ground := Go.Ground.phase }, { on := 22, ground := Go.Ground.phase }, { on := 23, ground := Go.Ground.phase }, { on := 24, ground := Go.Ground.phase }, { on := 25, ground := Go.Ground.phase }, { on := 26, ground := Go.Ground.phase }, { on := 27, ground := Go.Ground.phase }, { on := 28, ground := Go.Ground.phase }, { on := 29, ground := Go.Ground.phase }, { on := 30, ground := Go.Ground.phase }, { on := 31, ground := Go.Ground.phase }, { on := 32, ground := Go.Ground.phase }, { on := 33, ground := Go.Ground.phase }, { on := 34, ground := Go.Ground.phase }, { on := 35, ground := Go.Ground.phase }, { on := 36, ground := Go.Ground.phase }, { on := 37, ground := Go.Ground.phase }, { on := 38, ground := Go.Ground.phase }, { on := 39, ground := Go.Ground.phase }, { on := 40, ground := Go.Ground.phase }, { on := 41, ground := Go.Ground.phase }, { on := 42, ground := Go.Ground.phase }, { on := 43, ground := Go.Ground.phase }, { on := 44, ground := Go.Ground.phase }, { on := 45, ground := Go.Ground.phase }, { on := 46, ground := Go.Ground.phase }, { on := 47, ground := Go.Ground.phase }, { on := 48, ground := Go.Ground.phase }], guard := none }) rfl (fun K hK => ?_) AllReadyH.nil
 rw [if_pos (by rfl)]
 refine zfq 35 (.tmp 2) (.tmp 51) rfl g2 (p2.far (by decide)).eval (msgC m.c sv') _ (Has.same (by rw [hJ.size]; decide)).eval _ hX rfl zay hMW.one (fun w13 hX13 hO13 => ?_)
 refine hK _ _ (hO13.blk hS HNE.out.1) (fun _ => ?_)
 refine wpAnyH_done (by kernel_rfl) ?_ _
 go_wp2
 refine bodyPost_ret (results_cell_row rfl _ _ g2 _ (msgC m.c sv') (0, 0) _ (((p2.far (by decide)).eval : _)) hX13 Try.underlying35 rfl zay) ?_ ?_
 ·exact hJ.defers
 have hn : ∀ k, w2.heap.size ≤ k → ¬ k = g2 := fun k h e => by have := HNE.out.2.2; omega
 refine ⟨_, sv', rfl, hMW.only hO13 (fun j fs hj => by
  simp only [zah, List.mem_cons, Prod.mk.injEq, List.not_mem_nil, or_false] at hj
  rcases hj with ⟨rfl, rfl⟩ | ⟨rfl, rfl⟩ | ⟨rfl, rfl⟩ | ⟨rfl, rfl⟩
  ·exact fun k h1 h2 => hn k (f3 k h1 h2)
  ·exact fun k h1 h2 => hn k (f8 k h1 h2)
  ·exact fun k h1 h2 => hn k (f9 k h1 h2)
  ·exact fun k h1 h2 => hn k (f10 k h1 h2)), ?_⟩
 have hBw : Below w.heap.size w W := (HBW.out.drew).trans (hJ.bel.mono HBW.out.size)
 refine ⟨zaz hBw hO13 hBw.size (fun k hk => by have hk' : k = g2 := hk; have := HNE.out.2.1; omega), fun j fs hj => ?_⟩
 simp only [zah, List.mem_cons, Prod.mk.injEq, List.not_mem_nil, or_false] at hj
 have h02 := HBW.out.size
 rcases hj with ⟨rfl, rfl⟩ | ⟨rfl, rfl⟩ | ⟨rfl, rfl⟩ | ⟨rfl, rfl⟩
 ·exact fun k h1 h2 => Nat.le_trans h02 (f3 k h1 h2)
 ·exact fun k h1 h2 => Nat.le_trans h02 (f8 k h1 h2)
 ·exact fun k h1 h2 => Nat.le_trans h02 (f9 k h1 h2)
 ·exact fun k h1 h2 => Nat.le_trans h02 (f10 k h1 h2)
def zml (m : M) : Prop := (m.L 3).length ≤ 1000 ∧ (m.L 8).length ≤ 1000 ∧ (m.L 9).length ≤ 1000 ∧ (m.L 10).length ≤ 1000
theorem ztt (w : World) (v : Value) (m : M) (sv : Nat → Value) (h : MsgRd w v m sv) :
  Calls Try.prog 9 #[v] w (zgj (zml m) w) := by
 obtain rfl := h.agg
 obtain ⟨A3, c3, s3, _⟩ := h.rd 3 zak (by simp [zah])
 obtain ⟨A8, c8, s8, _⟩ := h.rd 8 zat (by simp [zah])
 obtain ⟨A9, c9, s9, _⟩ := h.rd 9 zau (by simp [zah])
 obtain ⟨A10, c10, s10, _⟩ := h.rd 10 zaj (by simp [zah])
 unfold zml
 generalize (m.L 3).length = n3 at *
 generalize (m.L 8).length = n8 at *
 generalize (m.L 9).length = n9 at *
 generalize (m.L 10).length = n10 at *
 clear h
 have S3 := aK s3
 have S8 := aK s8
 have S9 := aK s9
 have S10 := aK s10
 clear s3 s8 s9 s10
 have key : ∀ n : Nat, (n ≤ 1000 ∧ decide ((n : Int) ≤ 1000) = true) ∨ (¬ n ≤ 1000 ∧ decide ((n : Int) ≤ 1000) = false) := fun n => by
  by_cases h : n ≤ 1000
  ·exact .inl ⟨h, by simpa using (by omega : (n : Int) ≤ 1000)⟩
  ·exact .inr ⟨h, by simpa using (by omega : ¬ (n : Int) ≤ 1000)⟩
 rcases key n3 with ⟨k3, d3⟩ | ⟨k3, d3⟩ <;> rcases key n8 with ⟨k8, d8⟩ | ⟨k8, d8⟩ <;> rcases key n9 with ⟨k9, d9⟩ | ⟨k9, d9⟩ <;> rcases key n10 with ⟨k10, d10⟩ | ⟨k10, d10⟩ <;> clear key <;>
 ·go_enter Try.func9, Try.ntmps9
  go_upto_region 1 with (first | ((with_reducible refine zag (N := 1) rfl ?_); refine zbf rfl 32 (.tmp 0) rfl (msgC m.c sv) rfl ?_; intro g1 w1 hg hbox hb; have HB1 := aK hb; have H3 : w1.cell? ⟨g1, 3, none⟩ = some (.slice A3 n3 c3) := (zab hbox 3).trans (by rw [← S3.out]; rfl); have H8 : w1.cell? ⟨g1, 8, none⟩ = some (.slice A8 n8 c8) := (zab hbox 8).trans (by rw [← S8.out]; rfl); have H9 : w1.cell? ⟨g1, 9, none⟩ = some (.slice A9 n9 c9) := (zab hbox 9).trans (by rw [← S9.out]; rfl); have H10 : w1.cell? ⟨g1, 10, none⟩ = some (.slice A10 n10 c10) := (zab hbox 10).trans (by rw [← S10.out]; rfl); clear hb hbox hg))
  go_wp2
  go_ret
  exact ⟨_, rfl, by simp [k3, k8, k9, k10], HB1.out⟩
end Go.Proofs.Ytcbehfbfaonanaa.Wr
end
section
namespace Go.Proofs.Ytcbehfbfaonanaa.Wr
open Go.RowKit Go.Proofs.YtcbehfbfaonanaaW.PrintWords Go.Proofs.YtcbehfbfaonanaaW.PrintLast Go.Proofs.YtcbehfbfaonanaaW.PrintMore Go.Proofs.Ytcbehfbfaonanaa.Pk
open Go.Proofs.Ytcbehfbfaonanaa.PFr (zcc zdf ansE Ok)
set_option linter.unusedVariables false
set_option linter.unusedSimpArgs false
def OwnB (W : World) (base : Nat) (v : Value) (l : List Int) : Prop := W.ownsRow base 5 1 v l.length (nums .u8 l)
theorem OwnB.rd {W : World} {base : Nat} {v : Value} {l : List Int} (h : OwnB W base v l) : BRd W v l := by
 rcases h.2 with ⟨rfl, h0⟩ | ⟨g, cap, cur, e, hb, hg, hc, _⟩
 ·obtain rfl : l = [] := List.length_eq_zero_iff.1 h0
  exact ⟨none, 0, rfl, ⟨rfl, by simp, fun h => absurd h (by simp)⟩, Nat.le_refl _⟩
 ·exact zsx e h hc
def zlc (w : World) (e : Ending) (w' : World) : Prop := e = .returned (.bool true) ∧ Below w.heap.size w w'
theorem ztu (w : World) : Calls Try.prog 8 #[] w (zlc w) := zdb trivial (awake_c w)
end Go.Proofs.Ytcbehfbfaonanaa.Wr
end
section
namespace Go.Proofs.Ytcbehfbfaonanaa.PFr
open Go.RowKit Go.Proofs.YtcbehfbfaonanaaW.PrintWords Go.Proofs.YtcbehfbfaonanaaW.PrintLast Go.Proofs.YtcbehfbfaonanaaW.PrintMore
set_option linter.unusedVariables false
set_option linter.unusedSimpArgs false
def x2 (a b : Int) : Int := Go.bits .xor .u8 a b
end Go.Proofs.Ytcbehfbfaonanaa.PFr
end
section
namespace Go.Proofs.Ytcbehfbfaonanaa.Wr
open Go.RowKit Go.Proofs.YtcbehfbfaonanaaW.PrintWords Go.Proofs.YtcbehfbfaonanaaW.PrintLast Go.Proofs.YtcbehfbfaonanaaW.PrintMore Go.Proofs.Ytcbehfbfaonanaa.Pk
open Go.Proofs.Ytcbehfbfaonanaa.PFr (zcc zdf ansE Ok)
set_option linter.unusedVariables false
set_option linter.unusedSimpArgs false
theorem zbp : (Try.prog.info? 32).map (·.size) = some 26 := by kernel_rfl
end Go.Proofs.Ytcbehfbfaonanaa.Wr
end
section
namespace Go.Proofs.Ytcbehfbfaonanaa.Wr
open Go.RowKit Go.Proofs.YtcbehfbfaonanaaW.PrintWords Go.Proofs.YtcbehfbfaonanaaW.PrintLast Go.Proofs.YtcbehfbfaonanaaW.PrintMore Go.Proofs.Ytcbehfbfaonanaa.Pk
set_option linter.unusedVariables false
set_option linter.unusedSimpArgs false
theorem zfs (W : World) : (zeroValue 32).run Try.prog W = .ok (.agg (msgC zdu nils)) W := (zero_of_info (n := 26) (by kernel_rfl)).1 W
theorem zca {P : Program} {o : Oper} {ρ : Operand → Value} {W : World} {T : TypeId} {x : Operand} (ho : o.op = .load T x) {g off : Nat} (hx : ρ x = .pointer (some ⟨g, off, none⟩)) {v : Value} (hc : W.cell? ⟨g, off, none⟩ = some v)
  {d : TypeDesc} (hu : P.underlying T = some d) (hd : d.isRow = false) : (execOp ρ o).run P W = .ok (.value v) W := by
 unfold execOp
 simp only [ho, hx, Instr.loadAt, Instr.sureAddr, Sem.run_bind, Sem.run_pure, Result.andThen_ok]
 unfold loadVar isAgg
 simp only [Sem.run_bind, run_underlying hu, Result.andThen_ok]
 cases d <;> first | (exact Bool.noConfusion hd) | (simp [load, hc]; done) | (go_simp; done)
theorem TuI : Try.prog.underlying 3 = some (.int .i64) := Try.underlying3
theorem TuB : Try.prog.underlying 4 = some .bool := Try.underlying4
theorem TuX : Try.prog.underlying 9 = some .string := Try.underlying9
theorem TuN : Try.prog.underlying 28 = some (.int .i64) := Try.underlying28
theorem TuE : Try.prog.underlying 22 = some (.slice 66) := Try.underlying22
theorem TuP : Try.prog.underlying 25 = some (.slice 68) := Try.underlying25
theorem TuS : Try.prog.underlying 26 = some (.slice 70) := Try.underlying26
theorem TuT : Try.prog.underlying 27 = some (.slice 72) := Try.underlying27
theorem told_run {a : Act} {W : World} {m : M} {sv' : Nat → Value} (hT : zbh m) (hs : ∀ j fs, (j, fs) ∈ zah → ∃ A n c, sv' j = .slice A n c) (h4 : a.eval (.tmp 4) = m.c 0) (h6 : a.eval (.tmp 6) = m.c 1) (h8 : a.eval (.tmp 8) = m.c 2) (h12 : a.eval (.tmp 10) = sv' 3) (h14 : a.eval (.tmp 12) = .agg #[m.c 4, m.c 5]) (h16 : a.eval (.tmp 14) = m.c 6) (h18 : a.eval (.tmp 16) = m.c 7) (h22 : a.eval (.tmp 18) = sv' 8) (h26 : a.eval (.tmp 20) = sv' 9) (h30 : a.eval (.tmp 22) = sv' 10) (h32 : a.eval (.tmp 24) = .agg #[m.c 11, m.c 12]) (h34 : a.eval (.tmp 26) = m.c 13) (h36 : a.eval (.tmp 28) = m.c 14) (h38 : a.eval (.tmp 30) = m.c 15) (h40 : a.eval (.tmp 32) = m.c 16) (h42 : a.eval (.tmp 34) = m.c 17) (h44 : a.eval (.tmp 36) = m.c 18) (h46 : a.eval (.tmp 38) = .agg #[m.c 19, m.c 20]) (h48 : a.eval (.tmp 40) = m.c 21) (h50 : a.eval (.tmp 42) = .agg #[m.c 22, m.c 23, m.c 24, m.c 25]) :
  (execOp a.eval { dst := some 43, op := Go.Op.build 32 #[(0, Go.Operand.tmp 4), (1, Go.Operand.tmp 6), (2, Go.Operand.tmp 8), (3, Go.Operand.tmp 10), (4, Go.Operand.tmp 12), (5, Go.Operand.tmp 14), (6, Go.Operand.tmp 16), (7, Go.Operand.tmp 18), (8, Go.Operand.tmp 20), (9, Go.Operand.tmp 22), (10, Go.Operand.tmp 24), (11, Go.Operand.tmp 26), (12, Go.Operand.tmp 28), (13, Go.Operand.tmp 30), (14, Go.Operand.tmp 32), (15, Go.Operand.tmp 34), (16, Go.Operand.tmp 36), (17, Go.Operand.tmp 38), (18, Go.Operand.tmp 40), (19, Go.Operand.tmp 42)], type := 32, pos := "law.go:26", after := #[{ on := 1, ground := Go.Ground.data }, { on := 3, ground := Go.Ground.data }, { on := 5, ground := Go.Ground.data }, { on := 7, ground := Go.Ground.data }, { on := 9, ground := Go.Ground.data }, { on := 11, ground := Go.Ground.data }, { on := 13, ground := Go.Ground.data }, { on := 15, ground := Go.Ground.data }, { on := 17, ground := Go.Ground.data }, { on := 19, ground := Go.Ground.data }, { on := 21, ground := Go.Ground.data }, { on := 23, ground := Go.Ground.data }, { on := 25, ground := Go.Ground.data }, { on := 27, ground := Go.Ground.data }, { on := 29, ground := Go.Ground.data }, { on := 31, ground := Go.Ground.data }, { on := 33, ground := Go.Ground.data }, { on := 35, ground := Go.Ground.data }, { on := 37, ground := Go.Ground.data }, { on := 39, ground := Go.Ground.data }], guard := none }).run Try.prog W = .ok (.value (.agg (msgC m.c sv'))) W := by
 obtain ⟨x0, e0⟩ : ∃ x, m.c 0 = .int .i64 x := hT 0 rfl
 obtain ⟨x1, e1⟩ : ∃ x, m.c 1 = .int .i64 x := hT 1 rfl
 obtain ⟨x2, e2⟩ : ∃ x, m.c 2 = .int .i64 x := hT 2 rfl
 obtain ⟨x4, e4⟩ : ∃ x, m.c 4 = .int .i64 x := hT 4 rfl
 obtain ⟨x5, e5⟩ : ∃ x, m.c 5 = .int .i64 x := hT 5 rfl
 obtain ⟨x6, e6⟩ : ∃ x, m.c 6 = .int .i64 x := hT 6 rfl
 obtain ⟨x7, e7⟩ : ∃ x, m.c 7 = .int .i64 x := hT 7 rfl
 obtain ⟨x11, e11⟩ : ∃ x, m.c 11 = .int .i64 x := hT 11 rfl
 obtain ⟨x12, e12⟩ : ∃ x, m.c 12 = .int .i64 x := hT 12 rfl
 obtain ⟨x13, e13⟩ : ∃ x, m.c 13 = .bool x := hT 13 rfl
 obtain ⟨x14, e14⟩ : ∃ x, m.c 14 = .int .i64 x := hT 14 rfl
 obtain ⟨x15, e15⟩ : ∃ x, m.c 15 = .int .i64 x := hT 15 rfl
 obtain ⟨x16, e16⟩ : ∃ x, m.c 16 = .string x := hT 16 rfl
 obtain ⟨x17, e17⟩ : ∃ x, m.c 17 = .bool x := hT 17 rfl
 obtain ⟨x18, e18⟩ : ∃ x, m.c 18 = .string x := hT 18 rfl
 obtain ⟨x19, e19⟩ : ∃ x, m.c 19 = .int .i64 x := hT 19 rfl
 obtain ⟨x20, e20⟩ : ∃ x, m.c 20 = .int .i64 x := hT 20 rfl
 obtain ⟨x21, e21⟩ : ∃ x, m.c 21 = .int .i64 x := hT 21 rfl
 obtain ⟨x22, e22⟩ : ∃ x, m.c 22 = .int .i64 x := hT 22 rfl
 obtain ⟨x23, e23⟩ : ∃ x, m.c 23 = .int .i64 x := hT 23 rfl
 obtain ⟨x24, e24⟩ : ∃ x, m.c 24 = .bool x := hT 24 rfl
 obtain ⟨x25, e25⟩ : ∃ x, m.c 25 = .string x := hT 25 rfl
 obtain ⟨A3, n3, c3, s3⟩ := hs 3 zak (by simp [zah])
 obtain ⟨A8, n8, c8, s8⟩ := hs 8 zat (by simp [zah])
 obtain ⟨A9, n9, c9, s9⟩ := hs 9 zau (by simp [zah])
 obtain ⟨A10, n10, c10, s10⟩ := hs 10 zaj (by simp [zah])
 simp only [e0, e1, e2, e4, e5, e6, e7, e11, e12, e13, e14, e15, e16, e17, e18, e19, e20, e21, e22, e23, e24, e25, s3, s8, s9, s10] at h4 h6 h8 h12 h14 h16 h18 h22 h26 h30 h32 h34 h36 h38 h40 h42 h44 h46 h48 h50
 simp only [msgC, e0, e1, e2, e4, e5, e6, e7, e11, e12, e13, e14, e15, e16, e17, e18, e19, e20, e21, e22, e23, e24, e25, s3, s8, s9, s10]
 clear hT hs e0 e1 e2 e4 e5 e6 e7 e11 e12 e13 e14 e15 e16 e17 e18 e19 e20 e21 e22 e23 e24 e25 s3 s8 s9 s10
 unfold execOp
 simp only [List.map_toArray, List.map_cons, List.map_nil, h4, h6, h8, h12, h14, h16, h18, h22, h26, h30, h32, h34, h36, h38, h40, h42, h44, h46, h48, h50]
 go_simp
theorem told_c (w : World) (v : Value) (m : M) (sv : Nat → Value) (h : MsgRd w v m sv) : Calls Try.prog 16 #[v] w (fun e w' => e = .returned (.agg (msgC m.c sv)) ∧ Below w.heap.size w w') := by
 have HT := aK h.typed
 have HO := aK h.one
 have HS := aK (fun j fs (hj : (j, fs) ∈ zah) => (by obtain ⟨A, c, e, _⟩ := h.rd j fs hj; exact ⟨A, _, c, e⟩ : ∃ A n c, sv j = .slice A n c))
 obtain rfl := h.agg
 clear h
 go_enter Try.func16, Try.ntmps16
 go_wp2_with (first | ((with_reducible refine zag (N := 1) rfl ?_); refine zbf rfl 35 (.tmp 0) rfl (msgC m.c sv) rfl ?_; intro g1 w1 hg hbox hb; have HX1 := aK hbox; have HB1 := aK hb; clear hg hbox hb) | ((with_reducible refine zag (N := 2) rfl ?_); refine zbe rfl 32 rfl _ (zfs _) ?_; intro g2 w2 hg hbox hb; have HX2 := aK hbox; have HX12 := aK ((hb.block g1 (zad HX1.out)).trans HX1.out); have HB2 := aK (HB1.out.trans (hb.mono HB1.out.size)); have HG2 := aK (show w.heap.size ≤ g2 from by rw [hg]; exact HB1.out.size); clear hg hbox hb) | ((with_reducible refine zag (N := 4) rfl ?_); refine Kd.event_run rfl (v := m.c 0) (w1 := w2) (zca rfl (g := g1) (off := 0) rfl ((zab HX12.out 0).trans (rfl : _ = some (m.c 0))) (TuI) rfl) ?_) | ((with_reducible refine zag (N := 6) rfl ?_); refine Kd.event_run rfl (v := m.c 1) (w1 := w2) (zca rfl (g := g1) (off := 1) rfl ((zab HX12.out 1).trans (rfl : _ = some (m.c 1))) (TuI) rfl) ?_) | ((with_reducible refine zag (N := 8) rfl ?_); refine Kd.event_run rfl (v := m.c 2) (w1 := w2) (zca rfl (g := g1) (off := 2) rfl ((zab HX12.out 2).trans (rfl : _ = some (m.c 2))) (TuI) rfl) ?_) | ((with_reducible refine zag (N := 10) rfl ?_); refine Kd.event_run rfl (v := sv 3) (w1 := w2) (zca rfl (g := g1) (off := 3) rfl ((zab HX12.out 3).trans (rfl : _ = some (sv 3))) (TuE) rfl) ?_) | ((with_reducible refine zag (N := 12) rfl ?_); refine Kd.event_run rfl (v := .agg #[m.c 4, m.c 5]) (w1 := w2) (zas rfl (g := g1) (off := 4) rfl [m.c 4, m.c 5] (fun j v hj => (zab HX12.out (4 + j)).trans (zek m.c sv 4 2 (by decide) j v hj)) Try.underlying24 rfl (by kernel_rfl)) ?_) | ((with_reducible refine zag (N := 14) rfl ?_); refine Kd.event_run rfl (v := m.c 6) (w1 := w2) (zca rfl (g := g1) (off := 6) rfl ((zab HX12.out 6).trans (rfl : _ = some (m.c 6))) (TuI) rfl) ?_) | ((with_reducible refine zag (N := 16) rfl ?_); refine Kd.event_run rfl (v := m.c 7) (w1 := w2) (zca rfl (g := g1) (off := 7) rfl ((zab HX12.out 7).trans (rfl : _ = some (m.c 7))) (TuI) rfl) ?_) | ((with_reducible refine zag (N := 18) rfl ?_); refine Kd.event_run rfl (v := sv 8) (w1 := w2) (zca rfl (g := g1) (off := 8) rfl ((zab HX12.out 8).trans (rfl : _ = some (sv 8))) (TuP) rfl) ?_) | ((with_reducible refine zag (N := 20) rfl ?_); refine Kd.event_run rfl (v := sv 9) (w1 := w2) (zca rfl (g := g1) (off := 9) rfl ((zab HX12.out 9).trans (rfl : _ = some (sv 9))) (TuS) rfl) ?_) | ((with_reducible refine zag (N := 22) rfl ?_); refine Kd.event_run rfl (v := sv 10) (w1 := w2) (zca rfl (g := g1) (off := 10) rfl ((zab HX12.out 10).trans (rfl : _ = some (sv 10))) (TuT) rfl) ?_) | ((with_reducible refine zag (N := 24) rfl ?_); refine Kd.event_run rfl (v := .agg #[m.c 11, m.c 12]) (w1 := w2) (zas rfl (g := g1) (off := 11) rfl [m.c 11, m.c 12] (fun j v hj => (zab HX12.out (11 + j)).trans (zek m.c sv 11 2 (by decide) j v hj)) Try.underlying24 rfl (by kernel_rfl)) ?_) | ((with_reducible refine zag (N := 26) rfl ?_); refine Kd.event_run rfl (v := m.c 13) (w1 := w2) (zca rfl (g := g1) (off := 13) rfl ((zab HX12.out 13).trans (rfl : _ = some (m.c 13))) (TuB) rfl) ?_) | ((with_reducible refine zag (N := 28) rfl ?_); refine Kd.event_run rfl (v := m.c 14) (w1 := w2) (zca rfl (g := g1) (off := 14) rfl ((zab HX12.out 14).trans (rfl : _ = some (m.c 14))) (TuI) rfl) ?_) | ((with_reducible refine zag (N := 30) rfl ?_); refine Kd.event_run rfl (v := m.c 15) (w1 := w2) (zca rfl (g := g1) (off := 15) rfl ((zab HX12.out 15).trans (rfl : _ = some (m.c 15))) (TuI) rfl) ?_) | ((with_reducible refine zag (N := 32) rfl ?_); refine Kd.event_run rfl (v := m.c 16) (w1 := w2) (zca rfl (g := g1) (off := 16) rfl ((zab HX12.out 16).trans (rfl : _ = some (m.c 16))) (TuX) rfl) ?_) | ((with_reducible refine zag (N := 34) rfl ?_); refine Kd.event_run rfl (v := m.c 17) (w1 := w2) (zca rfl (g := g1) (off := 17) rfl ((zab HX12.out 17).trans (rfl : _ = some (m.c 17))) (TuB) rfl) ?_) | ((with_reducible refine zag (N := 36) rfl ?_); refine Kd.event_run rfl (v := m.c 18) (w1 := w2) (zca rfl (g := g1) (off := 18) rfl ((zab HX12.out 18).trans (rfl : _ = some (m.c 18))) (TuX) rfl) ?_) | ((with_reducible refine zag (N := 38) rfl ?_); refine Kd.event_run rfl (v := .agg #[m.c 19, m.c 20]) (w1 := w2) (zas rfl (g := g1) (off := 19) rfl [m.c 19, m.c 20] (fun j v hj => (zab HX12.out (19 + j)).trans (zek m.c sv 19 2 (by decide) j v hj)) Try.underlying24 rfl (by kernel_rfl)) ?_) | ((with_reducible refine zag (N := 40) rfl ?_); refine Kd.event_run rfl (v := m.c 21) (w1 := w2) (zca rfl (g := g1) (off := 21) rfl ((zab HX12.out 21).trans (rfl : _ = some (m.c 21))) (TuN) rfl) ?_) | ((with_reducible refine zag (N := 42) rfl ?_); refine Kd.event_run rfl (v := .agg #[m.c 22, m.c 23, m.c 24, m.c 25]) (w1 := w2) (zas rfl (g := g1) (off := 22) rfl [m.c 22, m.c 23, m.c 24, m.c 25] (fun j v hj => (zab HX12.out (22 + j)).trans (zek m.c sv 22 4 (by decide) j v hj)) Try.underlying30 rfl (by kernel_rfl)) ?_) | ((with_reducible refine zag (N := 43) rfl ?_); refine Kd.event_run rfl (v := .agg (msgC m.c sv)) (w1 := w2) (told_run HT.out HS.out rfl rfl rfl rfl rfl rfl rfl rfl rfl rfl rfl rfl rfl rfl rfl rfl rfl rfl rfl rfl) ?_) | ((with_reducible refine zan (t := 32) (p := 2) rfl ?_); refine zbk rfl 32 (.tmp 2) (.tmp 43) rfl g2 rfl (msgC m.c sv) _ rfl 32 HX2.out rfl zbp HO.out ?_; intro w3 hX hO; have HX3 := aK hX; have HB3 := aK (zaz HB2.out hO HB2.out.size (fun k hk => by have := HG2.out; have hk' : k = g2 := hk; omega)); clear hX hO) | fail)
 refine bodyPost_ret (results_cell_row rfl _ _ g2 _ (msgC m.c sv) (0, 0) _ rfl HX3.out Try.underlying32 rfl zbp) rfl ?_
 exact ⟨rfl, HB3.out⟩
def xi (c : Nat → Value) (i : Nat) : Int := match c i with | .int .i64 n => n | _ => 0
def si (c : Nat → Value) (i : Nat) : ByteArray := match c i with | .string n => n | _ => ⟨#[]⟩
def bi (c : Nat → Value) (i : Nat) : Bool := match c i with | .bool n => n | _ => false
def cX (x : Nat → Int) (s : Nat → ByteArray) (p : Nat → Bool) (v : Nat → Value) : Array Value := #[.int .i64 (x 0), .int .i64 (x 1), .int .i64 (x 2), v 3, .int .i64 (x 4), .int .i64 (x 5), .int .i64 (x 6), .int .i64 (x 7), v 8, v 9, v 10, .int .i64 (x 11), .int .i64 (x 12), .bool (p 13), .int .i64 (x 14), .int .i64 (x 15), .string (s 16), .bool (p 17), .string (s 18), .int .i64 (x 19), .int .i64 (x 20), .int .i64 (x 21), .int .i64 (x 22), .int .i64 (x 23), .bool (p 24), .string (s 25)]
theorem zct {m : M} (h : zbh m) {i : Nat} (hs : scalar i = true) (hk : zck i = .num 0 0 ∨ ∃ a b, zck i = .num a b) : m.c i = .int .i64 (xi m.c i) := by
 have := h i hs
 obtain ⟨a, b, e⟩ : ∃ a b, zck i = .num a b := hk.elim (fun e => ⟨_, _, e⟩) id
 rw [e] at this
 obtain ⟨n, hn⟩ := this
 unfold xi
 rw [hn]
theorem zmm {m : M} (h : zbh m) {i : Nat} (hs : scalar i = true) (hk : ∃ a, zck i = .text a) : m.c i = .string (si m.c i) := by
 have := h i hs
 obtain ⟨a, e⟩ := hk
 rw [e] at this
 obtain ⟨n, hn⟩ := this
 unfold si
 rw [hn]
theorem zhr {m : M} (h : zbh m) {i : Nat} (hs : scalar i = true) (hk : zck i = .flag) : m.c i = .bool (bi m.c i) := by
 have := h i hs
 rw [hk] at this
 obtain ⟨n, hn⟩ := this
 unfold bi
 rw [hn]
theorem zpa {m : M} (h : zbh m) (sv : Nat → Value) : msgC m.c sv = cX (xi m.c) (si m.c) (bi m.c) sv := by
 unfold msgC cX
 rw [zct h (i := 0) rfl (.inr ⟨_, _, rfl⟩), zct h (i := 1) rfl (.inr ⟨_, _, rfl⟩), zct h (i := 2) rfl (.inr ⟨_, _, rfl⟩), zct h (i := 4) rfl (.inr ⟨_, _, rfl⟩), zct h (i := 5) rfl (.inr ⟨_, _, rfl⟩), zct h (i := 6) rfl (.inr ⟨_, _, rfl⟩), zct h (i := 7) rfl (.inr ⟨_, _, rfl⟩), zct h (i := 11) rfl (.inr ⟨_, _, rfl⟩), zct h (i := 12) rfl (.inr ⟨_, _, rfl⟩), zhr h (i := 13) rfl rfl, zct h (i := 14) rfl (.inr ⟨_, _, rfl⟩), zct h (i := 15) rfl (.inr ⟨_, _, rfl⟩), zmm h (i := 16) rfl ⟨_, rfl⟩, zhr h (i := 17) rfl rfl, zmm h (i := 18) rfl ⟨_, rfl⟩, zct h (i := 19) rfl (.inr ⟨_, _, rfl⟩), zct h (i := 20) rfl (.inr ⟨_, _, rfl⟩), zct h (i := 21) rfl (.inr ⟨_, _, rfl⟩), zct h (i := 22) rfl (.inr ⟨_, _, rfl⟩), zct h (i := 23) rfl (.inr ⟨_, _, rfl⟩), zhr h (i := 24) rfl rfl, zmm h (i := 25) rfl ⟨_, rfl⟩]
section
variable {P : Program} {ops : Array Oper} {o : Oper} {rest : List Oper} {a : Act} {Q : Exit → Act → World → Prop} {W : World}
theorem zae (S : List Nat) (_h : S.contains (o.dst.getD 0) = true) (h : wpList P ops Q (o :: rest) a W) : wpList P ops Q (o :: rest) a W := h
theorem ld {T : TypeId} {x : Operand} (ho : o.op = .load T x) {g off : Nat} (hx : a.eval x = .pointer (some ⟨g, off, none⟩)) {cs : Array Value} {T' : TypeId} (hb : W.heap[g]? = some (.cells cs T' (0, 0)))
  {v : Value} (hv : cs[off]? = some v) (hw : Region.wanted o (yielded ops a.tmps) = true) {d : TypeDesc} (hu : P.underlying T = some d) (hd : d.isRow = false)
  (h : wpList P ops Q rest (a.put o.dst v) W) : wpList P ops Q (o :: rest) a W :=
 zbi hw (Kd.event_run rfl (zca ho hx ((zab hb off).trans hv) hu hd) h)
theorem ldr {T : TypeId} {x : Operand} (ho : o.op = .load T x) {g off : Nat} (hx : a.eval x = .pointer (some ⟨g, off, none⟩)) {cs : Array Value} {T' : TypeId} (hb : W.heap[g]? = some (.cells cs T' (0, 0))) (n : Nat)
  {vs : List Value} (hv : (cs.toList.drop off).take n = vs) (hw : Region.wanted o (yielded ops a.tmps) = true) {d : TypeDesc} (hu : P.underlying T = some d) (hd : d.isRow = true) (hi : (P.info? T).map (·.size) = some vs.length)
  (h : wpList P ops Q rest (a.put o.dst (.agg vs.toArray)) W) : wpList P ops Q (o :: rest) a W :=
 zbi hw (Kd.event_run rfl (zas ho hx vs (fun j v hj => by
  refine (zab hb (off + j)).trans ?_
  subst hv
  rw [List.getElem?_take] at hj
  split at hj
  ·rw [List.getElem?_drop] at hj
   rw [← Array.getElem?_toList]
   exact hj
  ·cases hj) hu hd hi) h)
end
theorem isEqC (r : Bool) {p : Prop} (hp : r = true ↔ p) {k : FuncId} {args : Array Value} {w : World} (h : Calls Try.prog k args w (IsEq p w)) : Calls Try.prog k args w (fun e w' => e = .returned (.bool r) ∧ Drawn0 w w') := h.mono (by
 rintro e w' ⟨r', rfl, hr, hd⟩
 have : r' = r := by
  cases r' <;> cases r <;> first | rfl | (exact (hr.2 (hp.1 rfl)).symm ▸ rfl) | (exact absurd (hp.2 (hr.1 rfl)) (by decide))
 exact ⟨by rw [this], hd⟩)
theorem zgk (p : Prop) : ∃ r : Bool, (r = true ↔ p) := by
 by_cases h : p
 ·exact ⟨true, fun _ => h, fun _ => rfl⟩
 ·exact ⟨false, fun k => (by cases k), fun k => absurd k h⟩
end Go.Proofs.Ytcbehfbfaonanaa.Wr
end
