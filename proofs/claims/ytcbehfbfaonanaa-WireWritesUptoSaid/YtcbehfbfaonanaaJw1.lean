/- Part 2 of the texts that walk the program and tell its laws, joined in the order of their building. No conditions. -/
import Derived.Test.YtcbehfbfaonanaaJw0
import Derived.Outline
import Derived.Laws.MakeOwn
import Derived.Laws.AppendOwn
import Derived.Laws.AppendOwnNone
import Derived.Laws.OwnMore
set_option maxRecDepth 100000
set_option maxHeartbeats 16000000
section
namespace Go.Proofs.Ytcbehfbfaonanaa.Pk
open Go.RowKit Go.Proofs.YtcbehfbfaonanaaW.PrintWords Go.Proofs.YtcbehfbfaonanaaW.PrintLast Go.Proofs.YtcbehfbfaonanaaW.PrintMore Go.Proofs.Ytcbehfbfaonanaa.PRf
set_option linter.unusedVariables false
set_option linter.unusedSimpArgs false
def GoodRow (R : List Int × Bool) (w w' : World) (q c : Nat) : Prop := w'.ownsRow w.heap.size 5 1 (.slice (some ⟨q, 0, none⟩) R.1.length c) R.1.length (nums .u8 R.1) ∧ R.1.length ≤ c ∧ c ≤ 9223372036854775807 ∧ w.heap.size ≤ q ∧ Below w.heap.size w w'
def zhx (R : List Int × Bool) (x : S98) : List Int × Bool := if x.f0 = 1 then zev (x.f1 != 0) R.1 R.2 else if x.f0 = 2 then zcv x.f2 R.1 R.2 else wnum x.f1 R.1 R.2
def wall (l : List S98) : List Int × Bool := l.foldl zhx ([], false)
theorem wtext_le (s : ByteArray) (xs : List Int) (bad : Bool) : (zcv s xs bad).1.length ≤ xs.length + 8 + s.size := by
 have h := zed (s.size : Int) xs bad
 unfold zcv
 split
 ·simp only; omega
 ·simp only [List.length_append, zcl]; omega
theorem wstep_le (R : List Int × Bool) (x : S98) (h : x.f2.size ≤ 100000) : (zhx R x).1.length ≤ R.1.length + 100008 := by
 unfold zhx
 split
 ·have := zed (if (x.f1 != 0) = true then 1 else 0) R.1 R.2
  unfold zev; omega
 ·split
  ·have := wtext_le x.f2 R.1 R.2; omega
  ·have := zed x.f1 R.1 R.2; omega
theorem zlt {l : List S98} {k : Nat} (h : k < l.length) : wall (l.take (k + 1)) = zhx (wall (l.take k)) (rd_T98 l k) := by
 unfold wall rd_T98
 rw [Int.toNat_natCast, List.getD_eq_getElem?_getD, List.getElem?_eq_getElem h, List.take_succ_eq_append_getElem h, List.foldl_append]
 rfl
theorem rd_mem {l : List S98} {k : Nat} (h : k < l.length) : rd_T98 l k ∈ l := by
 unfold rd_T98
 rw [Int.toNat_natCast, List.getD_eq_getElem?_getD, List.getElem?_eq_getElem h]
 exact List.getElem_mem h
theorem wall_le {l : List S98} (h : ∀ x ∈ l, x.f2.size ≤ 100000) : ∀ k, k ≤ l.length → (wall (l.take k)).1.length ≤ k * 100008 := by
 intro k
 induction k with
 | zero => intro _; simp [wall]
 | succ k ih =>
  intro hk
  rw [zlt (by omega)]
  have h1 := ih (by omega)
  have h2 := wstep_le (wall (l.take k)) (rd_T98 l k) (h _ (rd_mem (by omega)))
  omega
theorem w64 {x : Int} (h0 : -9223372036854775808 ≤ x) (h1 : x ≤ 9223372036854775807) : wrap64 x = x := by unfold wrap64; omega
theorem GoodRow.mk {R : List Int × Bool} {w w' : World} {v : Value} {b0 : Nat} (h : w'.ownsRow w.heap.size 5 1 v R.1.length (nums .u8 R.1)) (hb : Below w.heap.size w w') (hv : v.ownBlock = some b0) : ∃ q c, v = .slice (some ⟨q, 0, none⟩) R.1.length c ∧ GoodRow R w w' q c := by
 have h' := h
 rcases h.2 with ⟨rfl, _⟩ | ⟨g, cap, cur, rfl, hg, hh, h1, h2, h3, h4⟩
 ·simp [Value.ownBlock] at hv
 ·exact ⟨g, cap, rfl, h', h1, h2, hg, hb⟩
def DigAt (w wr : World) (v : Value) (acc : List Int) : Prop := wr.ownsRow w.heap.size 5 1 v acc.length (nums .u8 acc) ∧ (∃ b, v.ownBlock = some b) ∧ Below w.heap.size w wr
theorem DigAt.next {w wr w1 : World} {v v1 : Value} {acc : List Int} {x : Int} {o : Obj} (h : DigAt w wr v acc) (hO : w1.ownsRow w.heap.size 5 1 v1 (acc ++ [x]).length (nums .u8 (acc ++ [x]))) (hB : Below w.heap.size w w1) (hat : v1.ownBlock = v.ownBlock ∨ ∃ b, v1.ownBlock = some b ∧ wr.heap.size ≤ b) : DigAt w w1 v1 (acc ++ [x]) := by
 refine ⟨hO, ?_, hB⟩
 rcases hat with e | ⟨b, e, _⟩
 ·rw [e]; exact h.2.1
 ·exact ⟨b, e⟩
theorem zlu (n : Nat) (hn : n ≤ 9007199254740992) (w : World) :
  Calls Try.prog 50 #[.int .i64 (n : Int)] w fun e w' => ∃ q c, e = .returned (.tuple #[.slice (some ⟨q, 0, none⟩) (enc n).length c, .bool true]) ∧ GoodRow (enc n, false) w w' q c := by
 have HN0 := aK hn
 have hl := aK (zeu hn)
 have h1' : decide ((n : Int) < 0) = false := decide_eq_false (by omega)
 have h2' : decide (9007199254740992 < (n : Int)) = false := decide_eq_false (by omega)
 have H0 := aK (show DigAt w (w.alloc (.cells #[] 5)) (.slice (some ⟨w.heap.size, 0, none⟩) 0 0) [] from ⟨zke w w.heap.size 5 .u8 [] (Nat.le_refl _) (by simp), ⟨_, rfl⟩, zaa (Below.refl _ _) _⟩)
 clear hn
 go_enter Try.func50, Try.ntmps50
 go_wp2
 clear h1' h2'
 go_loopw [0, 4] (fun nv v wr => ∃ (m : Nat) (acc : List Int) (v4 : Value), nv = .int .i64 m ∧ v = v4 ∧ Aside0 (m ≤ 9007199254740992) ∧ Aside0 (acc ++ enc m = enc n) ∧ Aside0 (DigAt w wr v4 acc)) (fun nv _ _ => (intOf nv).toNat)
 case atStart => exact ⟨n, [], _, rfl, rfl, HN0, ⟨rfl⟩, H0⟩
 case round =>
  clear H0
  obtain ⟨m, acc, v4, rfl, rfl, hm, HA, HD⟩ := hrel
  have HLA := aK (show (acc.length + 1) * 1 ≤ 140737488355328 by
   have := congrArg List.length HA.out
   rw [List.length_append] at this
   have := zis m
   have := hl.out
   omega)
  have b0 : 0 ≤ (m : Int) % 128 := by omega
  have b1 : (m : Int) % 128 < 128 := by omega
  have E3 := aK (show wrap64 ((m : Int) / 128) = ((m / 128 : Nat) : Int) by have := hm.out; unfold wrap64; omega)
  have e3 := E3.out
  by_cases hlt : m < 128
  ·have e4 : (wrap64 ((m : Int) / 128) == 0) = true := by rw [E3.out]; simp; omega
   have HEQ := aK (show acc ++ [(m : Int) % 128] = enc n by
    rw [← HA.out, zeh hlt, show (m : Int) % 128 = m by omega])
   go_wp2_with (at_builtin; refine zda (w0 := w) w.heap.size rfl (.tmp 20) (.tmp 22) 37 5 .u8 1 rfl Try.underlying37 zdt (by decide) u4 acc ((m : Int) % 128) rfl rfl HD.out.1 HD.out.2.2 HD.out.2.2.size HLA.out ?_; intro v1 w1 hO hB hg hat; obtain ⟨b1, hb1⟩ := (HD.out.next (o := .cells #[] 0) hO hB hat).2.1; rw [HEQ.out] at hO; obtain ⟨q, c, rfl, hG⟩ := GoodRow.mk (R := (enc n, false)) hO hB hb1; have HG := aK hG; clear hO hB hg hat hb1 hG)
   go_ret2
   exact ⟨q, c, rfl, HG.out⟩
  ·have e4 : (wrap64 ((m : Int) / 128) == 0) = false := by rw [E3.out]; simp; omega
   have HE := aK (zir hlt)
   go_wp2_with (at_builtin; refine zda (w0 := w) w.heap.size rfl (.tmp 24) (.tmp 27) 37 5 .u8 1 rfl Try.underlying37 zdt (by decide) u4 acc ((m : Int) % 128 + 128) rfl rfl HD.out.1 HD.out.2.2 HD.out.2.2.size HLA.out ?_; intro v1 w1 hO hB hg hat; have HX := aK (HD.out.next (o := .cells #[] 0) hO hB hat); clear hO hB hg hat)
   go_roundw
   case rel => exact ⟨m / 128, acc ++ [(m : Int) % 128 + 128], v1, by first | rfl | exact congrArg (Value.int .i64) E3.out, rfl, ⟨by have := hm.out; omega⟩, ⟨by rw [List.append_assoc, ← HA.out, HE.out]; rfl⟩, HX⟩
   case measure => first | (rw [E3.out]; simp [intOf]; omega) | (simp [intOf]; omega)
theorem zrh (n : Int) (h : n < 0 ∨ 9007199254740992 < n) (w : World) :
  Calls Try.prog 50 #[.int .i64 n] w fun e w' => e = .returned (.tuple #[.slice none 0 0, .bool false]) ∧ w = w' := by
 by_cases h0 : n < 0
 ·have h1' : decide (n < 0) = true := decide_eq_true h0
  clear h
  go_enter Try.func50, Try.ntmps50
  go_wp2
  go_ret2
  exact ⟨rfl, rfl⟩
 ·have h1' : decide (n < 0) = false := decide_eq_false h0
  have h2' : decide (9007199254740992 < n) = true := decide_eq_true (by omega)
  clear h
  go_enter Try.func50, Try.ntmps50
  go_wp2
  go_ret2
  exact ⟨rfl, rfl⟩
def IsWanted (R : List Int × Bool) (w : World) (e : Ending) (w' : World) : Prop :=
 (R.2 = true ∧ e = .returned (.tuple #[.slice none 0 0, .bool false]) ∧ Below w.heap.size w w') ∨
 (R.2 = false ∧ ∃ q c, e = .returned (.tuple #[.slice (some ⟨q, 0, none⟩) R.1.length c, .bool true]) ∧ GoodRow R w w' q c)
theorem IsWanted.good {R : List Int × Bool} {w w' : World} {e : Ending} (h : IsWanted R w e w') (hb : R.2 = false) : ∃ q c, e = .returned (.tuple #[.slice (some ⟨q, 0, none⟩) R.1.length c, .bool true]) ∧ GoodRow R w w' q c := by
 rcases h with ⟨h, _⟩ | ⟨_, h⟩
 ·rw [hb] at h; cases h
 ·exact h
theorem wnum_bad (n : Int) (xs : List Int) : (wnum n xs true).2 = true := by unfold wnum; split <;> rfl
theorem zri {R : List Int × Bool} (h : R.2 = true) (x : S98) : (zhx R x).2 = true := by
 obtain ⟨xs, b⟩ := R
 simp only at h
 subst h
 unfold zhx
 split
 ·exact wnum_bad _ _
 ·split
  ·unfold zcv
   rw [if_pos (wnum_bad _ _)]
  ·exact wnum_bad _ _
theorem fold_bad {R : List Int × Bool} (h : R.2 = true) : ∀ l : List S98, (l.foldl zhx R).2 = true := by
 intro l
 induction l generalizing R with
 | nil => exact h
 | cons x l ih => exact ih (zri h x)
theorem wall_bad {l : List S98} {k : Nat} (h : (wall (l.take k)).2 = true) : (wall l).2 = true := by
 have e : wall l = (l.drop k).foldl zhx (wall (l.take k)) := by
  unfold wall
  rw [← List.foldl_append, List.take_append_drop]
 rw [e]
 exact fold_bad h _
theorem wnum_good {n : Int} (h0 : 0 ≤ n) (h1 : n ≤ 9007199254740992) (xs : List Int) : wnum n xs false = (xs ++ enc n.toNat, false) := by
 unfold wnum
 rw [if_neg (by omega), if_neg (by simp)]
theorem wnum_out {n : Int} (h : n < 0 ∨ 9007199254740992 < n) (xs : List Int) : (wnum n xs false).2 = true := by
 unfold wnum
 rw [if_pos h]
theorem DigAt.row {w w1 : World} {v v1 : Value} {acc ys : List Int} {wr : World} (h : DigAt w wr v acc) (hO : w1.ownsRow w.heap.size 5 1 v1 (acc ++ ys).length (nums .u8 (acc ++ ys))) (hB : Below w.heap.size w w1) (hat : v1.ownBlock = v.ownBlock ∨ ∃ b, v1.ownBlock = some b ∧ wr.heap.size ≤ b) : DigAt w w1 v1 (acc ++ ys) := by
 refine ⟨hO, ?_, hB⟩
 rcases hat with e | ⟨b, e, _⟩
 ·rw [e]; exact h.2.1
 ·exact ⟨b, e⟩
theorem DigAt.below {w w1 wr : World} {v : Value} {acc : List Int} (h : DigAt w wr v acc) (hB : Below wr.heap.size wr w1) : DigAt w w1 v acc := ⟨zlj h.1 hB, h.2.1, zba h.2.2 hB⟩
theorem DigAt.reads {wr : World} {R : List Int × Bool} {w1 : World} {q c : Nat} (h : GoodRow R w1 wr q c) : ReadsInt wr .u8 (some ⟨q, 0, none⟩) R.1.length R.1 := own_reads' h.1
theorem DigAt.of_pos {w w1 : World} {v : Value} {acc : List Int} (hO : w1.ownsRow w.heap.size 5 1 v acc.length (nums .u8 acc)) (h0 : 0 < acc.length) (hB : Below w.heap.size w w1) : DigAt w w1 v acc := by
 obtain ⟨g, cap, rfl, _, _⟩ := hO.form h0
 exact ⟨hO, ⟨g, rfl⟩, hB⟩
theorem some_row {w wr : World} {v : Value} {acc : List Int} (h : DigAt w wr v acc) : ∃ q c, v = .slice (some ⟨q, 0, none⟩) acc.length c ∧ GoodRow (acc, false) w wr q c := by
 obtain ⟨h1, ⟨b, h2⟩, h3⟩ := h
 exact GoodRow.mk (R := (acc, false)) h1 h3 h2
theorem zpx (A : Option Addr) (c : Nat) (l : List S98) (w : World) (hr : Kd.C k98 w A l.length l) (hs : ∀ x ∈ l, x.f2.size ≤ 100000) (hl : l.length ≤ 100000) :
  Calls Try.prog 22 #[.slice A l.length c] w (IsWanted (wall l) w) := by
 have HR := aK hr
 have HS := aK hs
 have HL := aK (wall_le hs)
 have HN := aK hl
 have HW := aK (show wall l = wall (l.take l.length) by rw [List.take_length])
 have H0 := aK (show DigAt w (w.alloc (.cells #[] 5)) (.slice (some ⟨w.heap.size, 0, none⟩) 0 0) [] from ⟨zke w w.heap.size 5 .u8 [] (Nat.le_refl _) (by simp), ⟨_, rfl⟩, zaa (Below.refl _ _) _⟩)
 clear hr hs hl
 generalize hll : l.length = n at *
 have HLL := aK hll
 clear hll
 have hn := HN.out
 go_enter Try.func22, Try.ntmps22
 go_wp2
 go_loopw [4, 5] (fun v i wr => ∃ (k : Nat), i = .int .i64 k ∧ k ≤ n ∧ Aside0 ((wall (l.take k)).2 = false) ∧ Aside0 (DigAt w wr v (wall (l.take k)).1)) (fun _ i _ => n - (intOf i).toNat)
 case atStart => exact ⟨0, rfl, by omega, ⟨rfl⟩, H0⟩
 case round =>
  clear H0
  obtain ⟨k, rfl, hk, HG, HD⟩ := hrel
  by_cases hlt : k < n
  ·have hkl : k < l.length := by rw [HLL.out]; exact hlt
   have HA := aK (zlt hkl)
   have HX := aK (HS.out _ (rd_mem hkl))
   have HBD := aK (HL.out k (by omega))
   obtain ⟨ad, e, c0, c1, c2⟩ := at_T98 HR.out (k : Int) (by omega) (by omega)
   cases e
   have HBel := aK HD.out.2.2
   have K1 := aK c1
   have K2 := aK c2
   replace c0 := (HBel.out.cell (World.block_lt_of_cell? w _ c0)).trans c0
   replace c1 := (HBel.out.cell (World.block_lt_of_cell? w _ c1)).trans c1
   replace c2 := (HBel.out.cell (World.block_lt_of_cell? w _ c2)).trans c2
   rw [Int.toNat_natCast] at c0 c1 c2; replace K1 := aK (by have := K1.out; rw [Int.toNat_natCast] at this; exact this); replace K2 := aK (by have := K2.out; rw [Int.toNat_natCast] at this; exact this)
   generalize rd_T98 l k = x at *
   obtain ⟨x0, x1, x2⟩ := x
   simp only at c0 c1 c2 HX
   have i0 : 0 ≤ (k : Int) := by omega
   have HAcc := HG.out
   generalize hRk : wall (l.take k) = R at *
   obtain ⟨acc, bad⟩ := R
   simp only at HG HD HBD HAcc
   subst HAcc
   have HRk := aK hRk
   clear hRk HG
   have hb1 := aK (show (acc.length + 1) * 1 ≤ 140737488355328 by have := HBD.out; omega)
   by_cases h1 : x0 = 1
   ·subst h1
    by_cases h3 : x1 = 0
    ·subst h3
     have HC := aK (show wall (l.take (k + 1)) = (acc ++ [0], false) by
      rw [HA.out]; show wnum 0 acc false = _; rw [wnum_good (by decide) (by decide), show (0 : Int).toNat = 0 from rfl, zeh (by decide)]; rfl)
     go_wp2_with (at_builtin; refine zda (w0 := w) w.heap.size rfl (.tmp 47) (.tmp 48) 37 5 .u8 1 rfl Try.underlying37 zdt (by decide) u4 acc 0 rfl rfl HD.out.1 HD.out.2.2 HD.out.2.2.size hb1.out ?_; intro v1 w1 hO hB hg hat; have HX := aK (HD.out.row hO hB hat); clear hO hB hg hat)
     go_roundw
     case rel => exact ⟨k + 1, by go_num, by omega, ⟨by rw [HC.out]⟩, ⟨by rw [HC.out]; exact HX.out⟩⟩
     case measure => simp [intOf]; omega
    ·have h3' : (x1 == 0) = false := by simpa using h3
     have h3'' : (x1 != 0) = true := by simpa using h3
     have HC := aK (show wall (l.take (k + 1)) = (acc ++ [1], false) by
      rw [HA.out]; show zev (x1 != 0) acc false = _; rw [h3'']; show wnum 1 acc false = _; rw [wnum_good (by decide) (by decide), show (1 : Int).toNat = 1 from rfl, zeh (by decide)]; rfl)
     clear h3
     go_wp2_with (at_builtin; refine zda (w0 := w) w.heap.size rfl (.tmp 44) (.tmp 45) 37 5 .u8 1 rfl Try.underlying37 zdt (by decide) u4 acc 1 rfl rfl HD.out.1 HD.out.2.2 HD.out.2.2.size hb1.out ?_; intro v1 w1 hO hB hg hat; have HX := aK (HD.out.row hO hB hat); clear hO hB hg hat)
     go_roundw
     case rel => exact ⟨k + 1, by go_num, by omega, ⟨by rw [HC.out]⟩, ⟨by rw [HC.out]; exact HX.out⟩⟩
     case measure => simp [intOf]; omega
   ·have h1' : (x0 == 1) = false := by simpa using h1
    by_cases h2 : x0 = 2
    ·subst h2
     have HSz := aK (show x2.size ≤ 9007199254740992 by have := HX.out; omega)
     have HC := aK (show wall (l.take (k + 1)) = (acc ++ enc x2.size ++ zbq x2, false) by
      rw [HA.out]; show zcv x2 acc false = _; unfold zcv; rw [wnum_good (by omega) (by have := HSz.out; omega)]; rfl)
     have hb2 := aK (show (acc.length + (enc x2.size).length) * 1 ≤ 140737488355328 by have := HBD.out; have := zeu HSz.out; omega)
     have hb3 := aK (show (acc ++ enc x2.size).length + x2.size ≤ 140737488355328 by have := HBD.out; have := zeu HSz.out; have := HX.out; rw [List.length_append]; omega)
     go_wp2_with (first
      | (go_at_call 50; (with_reducible refine (zlu x2.size HSz.out _).mono ?_); rintro e w1 ⟨q, d, rfl, hG⟩; have HG2 := aK hG; have HD2 := aK (HD.out.below hG.2.2.2.2); have cc2 := (HD2.out.2.2.cell (World.block_lt_of_cell? w _ K2.out)).trans K2.out; clear hG)
      | ((with_reducible refine zap (b := .append) (xs := #[.tmp 64, .tmp 65]) rfl ?_); at_builtin; refine zcj (w0 := w) w.heap.size rfl (.tmp 64) (.tmp 65) 37 5 .u8 1 rfl Try.underlying37 zdt (by decide) u4 acc (enc x2.size) (some ⟨q, 0, none⟩) (enc x2.size).length d rfl rfl HD2.out.1 (DigAt.reads HG2.out) HD2.out.2.2 HD2.out.2.2.size hb2.out ?_; intro v1 w2 hO hB hg hat; have HX3 := aK (HD2.out.row hO hB hat); have cc3 := (HX3.out.2.2.cell (World.block_lt_of_cell? w _ K2.out)).trans K2.out; clear hO hB hg hat)
      | ((with_reducible refine zap (b := .append) (xs := #[.tmp 67, .tmp 72]) rfl ?_); at_builtin; refine zhv (w0 := w) w.heap.size rfl (.tmp 67) (.tmp 72) 37 9 5 rfl Try.underlying37 Try.underlying9 zdt v1 (acc ++ enc x2.size) x2 rfl rfl HX3.out.1 HX3.out.2.2 HX3.out.2.2.size hb3.out ?_; intro v2 w3 hO hB hg; have HX4 := aK (DigAt.of_pos hO (by have := zis x2.size; simp only [List.length_append]; omega) hB); clear hO hB hg))
     go_roundw
     case rel => exact ⟨k + 1, by go_num, by omega, ⟨by rw [HC.out]⟩, ⟨by rw [HC.out]; exact HX4.out⟩⟩
     case measure => simp [intOf]; omega
    ·have h2' : (x0 == 2) = false := by simpa using h2
     have HC := aK (show wall (l.take (k + 1)) = wnum x1 acc false by
      rw [HA.out]; unfold zhx; rw [if_neg h1, if_neg h2])
     clear h1 h2
     by_cases h3 : x1 < 0 ∨ 9007199254740992 < x1
     ·have HZ := aK (show (wall l).2 = true from wall_bad (k := k + 1) (by rw [HC.out]; exact wnum_out h3 acc))
      go_wp2_with (go_at_call 50; (with_reducible refine (zrh x1 h3 _).mono ?_); rintro e w1 ⟨rfl, rfl⟩)
      go_ret2
      exact .inl ⟨HZ.out, rfl, HBel.out⟩
     ·obtain ⟨m, rfl⟩ := Int.eq_ofNat_of_zero_le (show 0 ≤ x1 by omega)
      have HM := aK (show m ≤ 9007199254740992 by omega)
      clear h3
      have HC2 := aK (show wall (l.take (k + 1)) = (acc ++ enc m, false) by rw [HC.out, wnum_good (by omega) (by have := HM.out; omega)]; rfl)
      have hb2 := aK (show (acc.length + (enc m).length) * 1 ≤ 140737488355328 by have := HBD.out; have := zeu HM.out; omega)
      go_wp2_with (first
       | (go_at_call 50; (with_reducible refine (zlu m HM.out _).mono ?_); rintro e w1 ⟨q, d, rfl, hG⟩; have HG2 := aK hG; have HD2 := aK (HD.out.below hG.2.2.2.2); clear hG)
       | (at_builtin; refine zcj (w0 := w) w.heap.size rfl (.tmp 33) (.tmp 34) 37 5 .u8 1 rfl Try.underlying37 zdt (by decide) u4 acc (enc m) (some ⟨q, 0, none⟩) (enc m).length d rfl rfl HD2.out.1 (DigAt.reads HG2.out) HD2.out.2.2 HD2.out.2.2.size hb2.out ?_; intro v1 w2 hO hB hg hat; have HX3 := aK (HD2.out.row hO hB hat); clear hO hB hg hat))
      go_roundw
      case rel => exact ⟨k + 1, by go_num, by omega, ⟨by rw [HC2.out]⟩, ⟨by rw [HC2.out]; exact HX3.out⟩⟩
      case measure => simp [intOf]; omega
  ·obtain rfl : k = n := by omega
   have HD1 := HD.out
   have HG1 := HG.out
   rw [← HW.out] at HD1 HG1
   obtain ⟨q, d, rfl, hG⟩ := some_row HD1
   have HX := aK hG
   have HY := aK HG1
   clear HD1 HG1 hG
   go_wp2
   go_ret2
   exact .inr ⟨HY.out, q, d, rfl, HX.out⟩
end Go.Proofs.Ytcbehfbfaonanaa.Pk
end
section

namespace Go.Proofs.Ytcbehfbfaonanaa.Wr
open Go.RowKit Go.Proofs.YtcbehfbfaonanaaW.PrintWords Go.Proofs.YtcbehfbfaonanaaW.PrintLast Go.Proofs.YtcbehfbfaonanaaW.PrintMore Go.Proofs.Ytcbehfbfaonanaa.Pk
set_option linter.unusedVariables false
set_option linter.unusedSimpArgs false
def zge (w : World) : List (Addr × Value) → World
 | [] => w
 | p :: l => zge (w.setCell p.1 p.2) l
theorem zkm (l m : List (Addr × Value)) : ∀ w : World, zge w (l ++ m) = zge (zge w l) m := by
 induction l with
 | nil => intro w; rfl
 | cons p l ih => intro w; exact ih _
theorem zew {w w' : World} {k : Nat} (h : w.heap[k]? = w'.heap[k]?) (a : Addr) (v : Value) : (w.setCell a v).heap[k]? = (w'.setCell a v).heap[k]? := by
 simp only [World.setCell, Array.getElem?_modify, h]
theorem zhl {k : Nat} (l : List (Addr × Value)) : ∀ {w w' : World}, w.heap[k]? = w'.heap[k]? → (zge w l).heap[k]? = (zge w' l).heap[k]? := by
 induction l with
 | nil => intro w w' h; exact h
 | cons p l ih => intro w w' h; exact ih (zew h _ _)
theorem zpy {k : Nat} (l : List (Addr × Value)) : ∀ {w : World}, (∀ p, p ∈ l → p.1.block ≠ k) → (zge w l).heap[k]? = w.heap[k]? := by
 induction l with
 | nil => intro w _; rfl
 | cons p l ih =>
  intro w h
  refine (ih (fun q hq => h q (.tail _ hq))).trans (Below.heap_setCell _ _ _ _ ?_)
  exact fun e => h p (.head _) e.symm
structure Wrote (S : Nat → Prop) (l : List (Addr × Value)) (w w' : World) : Prop where
 os : w'.os = w.os
 tape : w'.tape = w.tape
 output : w'.output = w.output
 size : w.heap.size ≤ w'.heap.size
 block : ∀ k, k < w.heap.size → ¬ S k → w'.heap[k]? = (zge w l).heap[k]?
namespace Wrote
variable {S S' : Nat → Prop} {a b c w w' : World} {l m : List (Addr × Value)}
theorem of_only (h : Only S w w') : Wrote S [] w w' := ⟨h.os, h.tape, h.output, h.size, h.block⟩
theorem mono (h : Wrote S l w w') (hs : ∀ k, k < w.heap.size → S k → S' k) : Wrote S' l w w' := ⟨h.os, h.tape, h.output, h.size, fun k hk hn => h.block k hk (fun s => hn (hs k hk s))⟩
theorem trans (h : Wrote S l a b) (k : Wrote S' m b c) (hs : ∀ i, i < a.heap.size → S' i → S i) : Wrote S (l ++ m) a c :=
 ⟨k.os.trans h.os, k.tape.trans h.tape, k.output.trans h.output, Nat.le_trans h.size k.size, fun i hi hn => by
  rw [zkm]
  exact (k.block i (Nat.lt_of_lt_of_le hi h.size) (fun s => hn (hs i hi s))).trans (zhl m (h.block i hi hn))⟩
theorem drew (h : Wrote S l a w) : Wrote S l a w.drew := ⟨h.os, h.tape, h.output, h.size, h.block⟩
theorem drewN (h : Wrote S l a w) (n : Nat) : Wrote S l a (w.drewN n) := ⟨h.os, h.tape, h.output, h.size, h.block⟩
theorem undrew (h : Wrote S l w.drew w') : Wrote S l w w' := ⟨h.os, h.tape, h.output, h.size, fun k hk hn => (h.block k hk hn).trans (zhl l rfl)⟩
theorem far (h : Wrote S l w w') {k : Nat} (hk : k < w.heap.size) (hn : ¬ S k) (hl : ∀ p, p ∈ l → p.1.block ≠ k) : w'.heap[k]? = w.heap[k]? := (h.block k hk hn).trans (zpy l hl)
end Wrote
theorem zlv {w : World} {g i : Nat} {cs : Array Value} {T : TypeId} {v : Value} (h : w.heap[g]? = some (.cells cs T (0, 0))) (hv : cs[i]? = some v) (k : Nat) : (w.setCell ⟨g, i, none⟩ v).heap[k]? = w.heap[k]? := by
 rcases Nat.lt_or_ge k g with hk | hk
 ·exact Below.heap_setCell _ _ _ _ (by simpa using Nat.ne_of_lt hk)
 rcases Nat.lt_or_ge g k with hk' | hk'
 ·exact Below.heap_setCell _ _ _ _ (by simpa using (Nat.ne_of_lt hk').symm)
 have : k = g := by omega
 subst this
 rw [zcm h, h]
 congr 2
 apply Array.ext_getElem?
 intro j
 rw [Array.getElem?_setIfInBounds]
 split
 ·rename_i e; subst e
  rw [hv]
  have := (Array.getElem?_eq_some_iff.1 hv).1
  simp [this]
 ·rfl
inductive Fld where
 | num (lo hi : Int)
 | flag
 | text (most : Int)
structure Form where
 ty : TypeId
 v : Value
 k : Nat → FuncId
 σ : Type
 Inv : σ → World → Prop
 own : Array Obj → Nat → Prop
 room : σ → Nat
 num : σ → Int → Int → Int → σ × Int
 flag : σ → Bool → σ × Bool
 text : σ → ByteArray → Int → σ × ByteArray
 count : σ → Int → Int → σ × Int
structure Stepped (F : Form) (s s' : F.σ) (l : List (Addr × Value)) (c : Nat) (w w' : World) : Prop where
 inv : F.Inv s' w'
 own : ∀ k, k < w.heap.size → F.own w'.heap k → F.own w.heap k
 wrote : Wrote (F.own w.heap) l w w'
 room : F.room s' ≤ F.room s + c
def Did (F : Form) (s s' : F.σ) (l : List (Addr × Value)) (c : Nat) (w : World) (e : Ending) (w' : World) : Prop :=
 e = .returned (.tuple #[]) ∧ Stepped F s s' l c w w'
def cap : Nat := 140737488350000
structure Form.Good (F : Form) : Prop where
 lt : ∀ {s : F.σ} {w : World} {k : Nat}, F.Inv s w → F.own w.heap k → k < w.heap.size
 move : ∀ {s : F.σ} {w w' : World}, F.Inv s w → (∀ k, F.own w.heap k → w'.heap[k]? = w.heap[k]?) → w.heap.size ≤ w'.heap.size → F.Inv s w'
 own_move : ∀ {s : F.σ} {w w' : World}, F.Inv s w → (∀ k, F.own w.heap k → w'.heap[k]? = w.heap[k]?) → ∀ k, F.own w'.heap k → F.own w.heap k
 ahead : ∀ (n : Nat) (m : String), n < 4 → m = ["meridian/wire.num", "meridian/wire.flag", "meridian/wire.text", "meridian/wire.count"].getD n "" → ∀ w, (nilAhead 274 F.ty F.v m).run Try.prog w = .ok (some false) w
 method : ∀ (n : Nat) (m : String), n < 4 → m = ["meridian/wire.num", "meridian/wire.flag", "meridian/wire.text", "meridian/wire.count"].getD n "" → ∀ w, (method 274 F.ty F.v m).run Try.prog w = .ok (F.k n, F.v) w
 enter : ∀ n, n < 4 → ∀ (args : Array Value) (w : World), (callFunc (F.k n) args).run Try.prog w = .ok (.enter (F.k n) args) w
 num_c : ∀ (s : F.σ) (w : World) (b i : Nat) (cs : Array Value) (T : TypeId) (n lo hi : Int), F.Inv s w → ¬ F.own w.heap b → F.room s + 8 ≤ cap → w.heap[b]? = some (.cells cs T (0, 0)) → cs[i]? = some (.int .i64 n) →
  Calls Try.prog (F.k 0) #[F.v, .pointer (some ⟨b, i, none⟩), .int .i64 lo, .int .i64 hi] w (Did F s (F.num s n lo hi).1 [(⟨b, i, none⟩, .int .i64 (F.num s n lo hi).2)] 8 w)
 flag_c : ∀ (s : F.σ) (w : World) (b i : Nat) (cs : Array Value) (T : TypeId) (x : Bool), F.Inv s w → ¬ F.own w.heap b → F.room s + 8 ≤ cap → w.heap[b]? = some (.cells cs T (0, 0)) → cs[i]? = some (.bool x) →
  Calls Try.prog (F.k 1) #[F.v, .pointer (some ⟨b, i, none⟩)] w (Did F s (F.flag s x).1 [(⟨b, i, none⟩, .bool (F.flag s x).2)] 8 w)
 text_c : ∀ (s : F.σ) (w : World) (b i : Nat) (cs : Array Value) (T : TypeId) (x : ByteArray) (most : Int), F.Inv s w → ¬ F.own w.heap b → F.room s + 8 + x.size ≤ cap → w.heap[b]? = some (.cells cs T (0, 0)) → cs[i]? = some (.string x) →
  Calls Try.prog (F.k 2) #[F.v, .pointer (some ⟨b, i, none⟩), .int .i64 most] w (Did F s (F.text s x most).1 [(⟨b, i, none⟩, .string (F.text s x most).2)] (8 + x.size) w)
 count_c : ∀ (s : F.σ) (w : World) (n most : Int), F.Inv s w → F.room s + 8 ≤ cap → 0 ≤ n → 0 ≤ most →
  Calls Try.prog (F.k 3) #[F.v, .int .i64 n, .int .i64 most] w (fun e w' => e = .returned (.int .i64 (F.count s n most).2) ∧ Stepped F s (F.count s n most).1 [] 8 w w')
 count_lim : ∀ (s : F.σ) (n most : Int), 0 ≤ n → 0 ≤ most → 0 ≤ (F.count s n most).2 ∧ ((F.count s n most).2 = n ∨ (F.count s n most).2 ≤ most)
theorem Stepped.undrew {F : Form} {s s' : F.σ} {l : List (Addr × Value)} {c : Nat} {w w' : World} (h : Stepped F s s' l c w.drew w') : Stepped F s s' l c w w' :=
 ⟨h.inv, h.own, h.wrote.undrew, h.room⟩
theorem Stepped.trans {F : Form} {s s1 s2 : F.σ} {l m : List (Addr × Value)} {c d : Nat} {w w1 w2 : World} (h : Stepped F s s1 l c w w1) (k : Stepped F s1 s2 m d w1 w2) : Stepped F s s2 (l ++ m) (c + d) w w2 :=
 ⟨k.inv, fun i hi ho => h.own i hi (k.own i (Nat.lt_of_lt_of_le hi h.wrote.size) ho), h.wrote.trans k.wrote (fun i hi ho => h.own i hi ho), by have := h.room; have := k.room; omega⟩
theorem Stepped.refl {F : Form} {s : F.σ} {w : World} (h : F.Inv s w) : Stepped F s s [] 0 w w := ⟨h, fun _ _ h => h, Wrote.of_only (Only.refl _ _), Nat.le_refl _⟩
def into (b : Nat) (cs : Array Value) : List (Addr × Value) → Array Value
 | [] => cs
 | p :: l => into b (if p.1.block = b ∧ p.1.spot = none then cs.setIfInBounds p.1.off p.2 else cs) l
theorem ziu {b : Nat} {T : TypeId} (l : List (Addr × Value)) : ∀ {w : World} {cs : Array Value}, (∀ p, p ∈ l → p.1.spot = none) → w.heap[b]? = some (.cells cs T (0, 0)) → (zge w l).heap[b]? = some (.cells (into b cs l) T (0, 0)) := by
 induction l with
 | nil => intro w cs _ h; exact h
 | cons p l ih =>
  intro w cs hs h
  have hp := hs p (.head _)
  refine ih (fun q hq => hs q (.tail _ hq)) ?_
  obtain ⟨⟨g, j, sp⟩, u⟩ := p
  simp only at hp
  subst hp
  by_cases hg : g = b
  ·subst hg
   simpa using zcm h j u
  ·simp only [hg, false_and, if_false]
   exact blk_far h (fun e => hg e.symm) u
structure At (F : Form) (s0 : F.σ) (w0 : World) (b : Nat) (T : TypeId) (s : F.σ) (l : List (Addr × Value)) (c : Nat) (cs : Array Value) (w : World) : Prop where
 st : Stepped F s0 s l c w0 w
 no : ¬ F.own w.heap b
 blk : w.heap[b]? = some (.cells cs T (0, 0))
 hl : ∀ p, p ∈ l → p.1.block = b
def On (F : Form) (s0 : F.σ) (w0 : World) (b : Nat) (T : TypeId) (s : F.σ) (l : List (Addr × Value)) (c : Nat) (cs : Array Value) (e : Ending) (w : World) : Prop :=
 e = .returned (.tuple #[]) ∧ At F s0 w0 b T s l c cs w
variable {F : Form} {s0 s : F.σ} {w0 w : World} {b : Nat} {T : TypeId} {l : List (Addr × Value)} {c : Nat} {cs : Array Value}
theorem At.start (hI : F.Inv s w) (ho : ¬ F.own w.heap b) (hb : w.heap[b]? = some (.cells cs T (0, 0))) : At F s w b T s [] 0 cs w := ⟨.refl hI, ho, hb, fun _ h => nomatch h⟩
theorem At.drew (hF : F.Good) (h : At F s0 w0 b T s l c cs w) : At F s0 w0 b T s l c cs w.drew :=
 ⟨⟨hF.move h.st.inv (fun _ _ => rfl) (Nat.le_refl _), h.st.own, h.st.wrote.drew, h.st.room⟩, h.no, h.blk, h.hl⟩
theorem At.go (h : At F s0 w0 b T s l c cs w) {s1 : F.σ} {m : List (Addr × Value)} {d : Nat} {w1 : World} (k : Stepped F s s1 m d w w1) (hs : ∀ p, p ∈ m → p.1.block = b ∧ p.1.spot = none) : At F s0 w0 b T s1 (l ++ m) (c + d) (into b cs m) w1 := by
 have hb := zad h.blk
 exact ⟨h.st.trans k, fun ho => h.no (k.own b hb ho), (k.wrote.block b hb h.no).trans (ziu m (fun p hp => (hs p hp).2) h.blk), fun p hp => (List.mem_append.1 hp).elim (h.hl p) (fun hp => (hs p hp).1)⟩
theorem At.num (h : At F s0 w0 b T s l c cs w) (hF : F.Good) {j : Nat} {n : Int} (hc : cs[j]? = some (.int .i64 n)) (hr : F.room s0 + c + 8 ≤ cap) (lo hi : Int) :
  Calls Try.prog (F.k 0) #[F.v, .pointer (some ⟨b, j, none⟩), .int .i64 lo, .int .i64 hi] w.drew (On F s0 w0 b T (F.num s n lo hi).1 (l ++ [(⟨b, j, none⟩, .int .i64 (F.num s n lo hi).2)]) (c + 8) (cs.setIfInBounds j (.int .i64 (F.num s n lo hi).2))) := by
 have h' := h.drew hF
 refine (hF.num_c s w.drew b j cs T n lo hi h'.st.inv h'.no (by have := h'.st.room; omega) h'.blk hc).mono ?_
 rintro e w' ⟨rfl, H⟩
 refine ⟨rfl, ?_⟩
 have K := h'.go H (by simp)
 simpa [into] using K
theorem At.flag (h : At F s0 w0 b T s l c cs w) (hF : F.Good) {j : Nat} {n : Bool} (hc : cs[j]? = some (.bool n)) (hr : F.room s0 + c + 8 ≤ cap) :
  Calls Try.prog (F.k 1) #[F.v, .pointer (some ⟨b, j, none⟩)] w.drew (On F s0 w0 b T (F.flag s n).1 (l ++ [(⟨b, j, none⟩, .bool (F.flag s n).2)]) (c + 8) (cs.setIfInBounds j (.bool (F.flag s n).2))) := by
 have h' := h.drew hF
 refine (hF.flag_c s w.drew b j cs T n h'.st.inv h'.no (by have := h'.st.room; omega) h'.blk hc).mono ?_
 rintro e w' ⟨rfl, H⟩
 refine ⟨rfl, ?_⟩
 have K := h'.go H (by simp)
 simpa [into] using K
theorem At.text (h : At F s0 w0 b T s l c cs w) (hF : F.Good) {j : Nat} {n : ByteArray} (hc : cs[j]? = some (.string n)) (most : Int) (hr : F.room s0 + c + 8 + n.size ≤ cap) :
  Calls Try.prog (F.k 2) #[F.v, .pointer (some ⟨b, j, none⟩), .int .i64 most] w.drew (On F s0 w0 b T (F.text s n most).1 (l ++ [(⟨b, j, none⟩, .string (F.text s n most).2)]) (c + (8 + n.size)) (cs.setIfInBounds j (.string (F.text s n most).2))) := by
 have h' := h.drew hF
 refine (hF.text_c s w.drew b j cs T n most h'.st.inv h'.no (by have := h'.st.room; omega) h'.blk hc).mono ?_
 rintro e w' ⟨rfl, H⟩
 refine ⟨rfl, ?_⟩
 have K := h'.go H (by simp)
 simpa [into] using K
def Form.fld (F : Form) (s : F.σ) : Fld → Value → F.σ × Value
 | .num lo hi, .int .i64 n => ((F.num s n lo hi).1, .int .i64 (F.num s n lo hi).2)
 | .flag, .bool x => ((F.flag s x).1, .bool (F.flag s x).2)
 | .text most, .string x => ((F.text s x most).1, .string (F.text s x most).2)
 | _, v => (s, v)
def Form.row (F : Form) (s : F.σ) : List Fld → List Value → F.σ × List Value
 | f :: fs, v :: vs => let r := F.fld s f v; let q := F.row r.1 fs vs; (q.1, r.2 :: q.2)
 | _, vs => (s, vs)
def Fld.fits : Fld → Value → Prop
 | .num _ _, v => ∃ n, v = .int .i64 n
 | .flag, v => ∃ x, v = .bool x
 | .text _, v => ∃ x, v = .string x
def fits : List Fld → List Value → Prop
 | [], [] => True
 | f :: fs, v :: vs => f.fits v ∧ fits fs vs
 | _, _ => False
def zbr : Value → Nat
 | .string x => 8 + x.size
 | _ => 8
def cost : List Value → Nat
 | [] => 0
 | v :: vs => zbr v + cost vs
def zbt (b i : Nat) : List Value → List (Addr × Value)
 | [] => []
 | v :: vs => (⟨b, i, none⟩, v) :: zbt b (i + 1) vs
def Seg (cs : Array Value) (i : Nat) (vs : List Value) : Prop := ∀ j v, vs[j]? = some v → cs[i + j]? = some v
def RowC (k : FuncId) (fs : List Fld) : Prop :=
 ∀ (F : Form), F.Good → ∀ (s : F.σ) (w : World) (b i : Nat) (cs : Array Value) (T : TypeId) (vs : List Value), F.Inv s w → ¬ F.own w.heap b → F.room s + cost vs ≤ cap → w.heap[b]? = some (.cells cs T (0, 0)) → Seg cs i vs → fits fs vs →
  Calls Try.prog k #[.iface F.ty F.v, .pointer (some ⟨b, i, none⟩)] w (Did F s (F.row s fs vs).1 (zbt b i (F.row s fs vs).2) (cost vs) w)
theorem zdd {b i : Nat} {vs : List Value} : ∀ p, p ∈ zbt b i vs → p.1.block = b ∧ p.1.spot = none := by
 induction vs generalizing i with
 | nil => intro p h; cases h
 | cons v vs ih =>
  intro p h
  rcases List.mem_cons.1 h with rfl | h
  ·exact ⟨rfl, rfl⟩
  ·exact ih p h
theorem At.row (h : At F s0 w0 b T s l c cs w) (hF : F.Good) {k : FuncId} {fs : List Fld} (hk : RowC k fs) {i : Nat} {vs : List Value} (hc : Seg cs i vs) (hf : fits fs vs) (hr : F.room s0 + c + cost vs ≤ cap) :
  Calls Try.prog k #[.iface F.ty F.v, .pointer (some ⟨b, i, none⟩)] w.drew (On F s0 w0 b T (F.row s fs vs).1 (l ++ zbt b i (F.row s fs vs).2) (c + cost vs) (into b cs (zbt b i (F.row s fs vs).2))) := by
 have h' := h.drew hF
 refine (hk F hF s w.drew b i cs T vs h'.st.inv h'.no (by have := h'.st.room; omega) h'.blk hc hf).mono ?_
 rintro e w' ⟨rfl, H⟩
 exact ⟨rfl, h'.go H zdd⟩
theorem At.row' (h : At F s0 w0 b T s l c cs w) (hF : F.Good) {k : FuncId} {fs : List Fld} (hk : RowC k fs) {i : Nat} {vs : List Value} (hc : Seg cs i vs) (hf : fits fs vs) (hr : F.room s0 + c + cost vs ≤ cap) :
  Calls Try.prog k #[.iface F.ty F.v, .pointer (some ⟨b, i, none⟩)] w (On F s0 w0 b T (F.row s fs vs).1 (l ++ zbt b i (F.row s fs vs).2) (c + cost vs) (into b cs (zbt b i (F.row s fs vs).2))) := by
 refine (hk F hF s w b i cs T vs h.st.inv h.no (by have := h.st.room; omega) h.blk hc hf).mono ?_
 rintro e w' ⟨rfl, H⟩
 exact ⟨rfl, h.go H zdd⟩
theorem At.far (h : At F s0 w0 b T s l c cs w) {k : Nat} (hk : k < w0.heap.size) (hn : ¬ F.own w0.heap k) (hb : k ≠ b) : w.heap[k]? = w0.heap[k]? :=
 h.st.wrote.far hk hn (fun p hp => by rw [h.hl p hp]; exact hb.symm)
theorem At.cell (h : At F s0 w0 b T s l c cs w) {g j : Nat} {v : Value} (hv : w0.cell? ⟨g, j, none⟩ = some v) (hn : ¬ F.own w0.heap g) (hb : g ≠ b) : w.cell? ⟨g, j, none⟩ = some v :=
 (World.cell?_of_block (w := w0) (a := ⟨g, j, none⟩) (h.far (World.block_lt_of_cell? w0 ⟨g, j, none⟩ hv) hn hb)).trans hv
theorem zhz {b i j : Nat} {vs : List Value} {cs : Array Value} (h : j < i ∨ i + vs.length ≤ j) : (into b cs (zbt b i vs))[j]? = cs[j]? := by
 induction vs generalizing i cs with
 | nil => rfl
 | cons v vs ih =>
  simp only [zbt, into, and_self, if_true, List.length_cons] at h ⊢
  rw [ih (by omega), Array.getElem?_setIfInBounds_ne (by omega)]
theorem zfw (F : Form) : ∀ (fs : List Fld) (vs : List Value) (s : F.σ), (F.row s fs vs).2.length = vs.length
 | [], vs, s => by cases vs <;> rfl
 | f :: fs, [], s => rfl
 | f :: fs, v :: vs, s => by simp only [Form.row, List.length_cons, zfw F fs vs]
theorem zaw {F : Form} {fs : List Fld} {s : F.σ} {b i j : Nat} {vs : List Value} {cs : Array Value} (h : j < i ∨ i + vs.length ≤ j) : (into b cs (zbt b i (F.row s fs vs).2))[j]? = cs[j]? :=
 zhz (by rw [zfw]; exact h)
theorem zdo {cs : Array Value} {i : Nat} {v : Value} {vs : List Value} (h : cs[i]? = some v) (k : Seg cs (i + 1) vs) : Seg cs i (v :: vs) := fun j u hj => by
 cases j with
 | zero => simp only [List.getElem?_cons_zero, Option.some.injEq] at hj; subst hj; exact h
 | succ j => rw [List.getElem?_cons_succ] at hj; rw [show i + (j + 1) = i + 1 + j by omega]; exact k j u hj
theorem zkn {cs : Array Value} {i : Nat} : Seg cs i [] := fun j u hj => by simp at hj
theorem At.did (h : At F s0 w0 b T s l c cs w) {s' : F.σ} {l' : List (Addr × Value)} {c' : Nat} (hs : s = s') (hl : l = l') (hc : c = c') : Did F s0 s' l' c' w0 (.returned (.tuple #[])) w := by
 subst hs hl hc
 exact ⟨rfl, h.st⟩
def RowX (k : FuncId) (fs : List Fld) : Prop :=
 ∀ (F : Form), F.Good → ∀ (s : F.σ) (w : World) (b i g : Nat) (cs : Array Value) (T : TypeId) (vs : List Value), F.Inv s w → ¬ F.own w.heap b → ¬ F.own w.heap g → g ≠ b → w.cell? ⟨g, 0, none⟩ = some (.iface F.ty F.v) → F.room s + cost vs ≤ cap → w.heap[b]? = some (.cells cs T (0, 0)) → Seg cs i vs → fits fs vs →
  Calls Try.prog k #[.pointer (some ⟨b, i, none⟩), .pointer (some ⟨g, 0, none⟩)] w (Did F s (F.row s fs vs).1 (zbt b i (F.row s fs vs).2) (cost vs) w)
end Go.Proofs.Ytcbehfbfaonanaa.Wr

end
section
namespace Go.Proofs.Ytcbehfbfaonanaa.Wr
open Go.RowKit Go.Proofs.YtcbehfbfaonanaaW.PrintWords Go.Proofs.YtcbehfbfaonanaaW.PrintLast Go.Proofs.YtcbehfbfaonanaaW.PrintMore Go.Proofs.Ytcbehfbfaonanaa.Pk
set_option linter.unusedVariables false
set_option linter.unusedSimpArgs false
def Form.rows (F : Form) (fs : List Fld) : F.σ → List (List Value) → F.σ × List (List Value)
 | s, [] => (s, [])
 | s, r :: rs => ((F.rows fs (F.row s fs r).1 rs).1, (F.row s fs r).2 :: (F.rows fs (F.row s fs r).1 rs).2)
def zbd : List (List Value) → Nat
 | [] => 0
 | r :: rs => cost r + zbd rs
def Fld.zero : Fld → Value
 | .num _ _ => .int .i64 0
 | .flag => .bool false
 | .text _ => .string ByteArray.empty
def zao (fs : List Fld) : List Value := fs.map Fld.zero
theorem zee : ∀ fs : List Fld, fits fs (zao fs)
 | [] => trivial
 | f :: fs => ⟨by cases f <;> exact ⟨_, rfl⟩, zee fs⟩
theorem zax : ∀ {fs : List Fld} {vs : List Value}, fits fs vs → vs.length = fs.length
 | [], [], _ => rfl
 | [], _ :: _, h => h.elim
 | _ :: _, [], h => h.elim
 | _ :: fs, _ :: vs, h => by simp [zax h.2]
theorem zia (F : Form) : ∀ {fs : List Fld} {vs : List Value} (s : F.σ), fits fs vs → fits fs (F.row s fs vs).2
 | [], [], _, _ => trivial
 | [], _ :: _, _, h => h.elim
 | _ :: _, [], _, h => h.elim
 | f :: fs, v :: vs, s, h => by
  refine ⟨?_, zia F _ h.2⟩
  cases f <;> obtain ⟨x, rfl⟩ := h.1 <;> exact ⟨_, rfl⟩
theorem zef (F : Form) (fs : List Fld) : ∀ (s : F.σ) (rs : List (List Value)), (F.rows fs s rs).2.length = rs.length
 | s, [] => rfl
 | s, r :: rs => by simp only [Form.rows, List.length_cons, zef F fs _ rs]
theorem zlw (F : Form) (fs : List Fld) : ∀ (s : F.σ) (rs : List (List Value)), (∀ r, r ∈ rs → fits fs r) → ∀ r, r ∈ (F.rows fs s rs).2 → fits fs r
 | s, [], _, r, hr => nomatch hr
 | s, r0 :: rs, h, r, hr => by
  rcases List.mem_cons.1 hr with rfl | hr
  ·exact zia F s (h _ (.head _))
  ·exact zlw F fs _ rs (fun q hq => h q (.tail _ hq)) r hr
def RowsIn (cs : Array Value) (off st : Nat) (rows : List (List Value)) : Prop := ∀ k r, rows[k]? = some r → Seg cs (off + k * st) r
theorem zrj {b i : Nat} {vs : List Value} {cs : Array Value} {j : Nat} {v : Value} (h : vs[j]? = some v) (hs : i + vs.length ≤ cs.size) : (into b cs (zbt b i vs))[i + j]? = some v := by
 induction vs generalizing i cs j with
 | nil => simp at h
 | cons u vs ih =>
  simp only [zbt, into, and_self, if_true]
  simp only [List.length_cons] at hs
  cases j with
  | zero =>
   simp only [List.getElem?_cons_zero, Option.some.injEq] at h
   subst h
   rw [zhz (by omega), Nat.add_zero, Array.getElem?_setIfInBounds_self_of_lt (by omega)]
  | succ j =>
   rw [List.getElem?_cons_succ] at h
   rw [show i + (j + 1) = i + 1 + j by omega]
   exact ih h (by simp; omega)
theorem zrk {b i : Nat} {vs : List Value} {cs : Array Value} : (into b cs (zbt b i vs)).size = cs.size := by
 induction vs generalizing i cs with
 | nil => rfl
 | cons u vs ih => simp only [zbt, into, and_self, if_true]; rw [ih, Array.size_setIfInBounds]
theorem seg_size {cs : Array Value} {i : Nat} {vs : List Value} (h : Seg cs i vs) (h0 : vs ≠ []) : i + vs.length ≤ cs.size := by
 cases hl : vs.length with
 | zero => exact absurd (List.length_eq_zero_iff.1 hl) h0
 | succ n =>
  have hn : n < vs.length := by omega
  have := h n _ (List.getElem?_eq_getElem hn)
  have := (Array.getElem?_eq_some_iff.1 this).1
  omega
theorem RowsIn.set {cs : Array Value} {b off st : Nat} {rows : List (List Value)} (h : RowsIn cs off st rows) {k : Nat} {r r' : List Value} (hr : rows[k]? = some r) (hl : ∀ q, q ∈ rows → q.length = st) (hr' : r'.length = st) (hst : 0 < st) :
  RowsIn (into b cs (zbt b (off + k * st) r')) off st (rows.set k r') := fun i q hq => by
 have hk : k < rows.length := (List.getElem?_eq_some_iff.1 hr).1
 by_cases e : i = k
 ·subst e
  rw [List.getElem?_set_self hk] at hq
  injection hq with hq
  subst hq
  have h1 := seg_size (h i r hr) (fun e => by have := hl r (List.mem_of_getElem? hr); rw [e] at this; simp at this; omega)
  intro j v hj
  exact zrj hj (by have := hl r (List.mem_of_getElem? hr); omega)
 ·rw [List.getElem?_set_ne (fun e' => e e'.symm)] at hq
  intro j v hj
  have hj' : j < st := by have := hl q (List.mem_of_getElem? hq); have := (List.getElem?_eq_some_iff.1 hj).1; omega
  rw [zhz, h i q hq j v hj]
  rcases Nat.lt_or_ge i k with hi | hi
  ·left
   have : (i + 1) * st ≤ k * st := Nat.mul_le_mul_right _ hi
   rw [Nat.add_mul] at this
   omega
  ·right
   have : (k + 1) * st ≤ i * st := Nat.mul_le_mul_right _ (by omega)
   rw [Nat.add_mul] at this
   omega
theorem At.rowx {F : Form} {s0 s : F.σ} {w0 w : World} {b : Nat} {T : TypeId} {l : List (Addr × Value)} {c : Nat} {cs : Array Value} (h : At F s0 w0 b T s l c cs w) (hF : F.Good) {k : FuncId} {fs : List Fld} (hk : RowX k fs) {i g : Nat} {vs : List Value} (hg : ¬ F.own w0.heap g) (hgb : g ≠ b) (cg : w0.cell? ⟨g, 0, none⟩ = some (.iface F.ty F.v)) (hc : Seg cs i vs) (hf : fits fs vs) (hr : F.room s0 + c + cost vs ≤ cap) :
  Calls Try.prog k #[.pointer (some ⟨b, i, none⟩), .pointer (some ⟨g, 0, none⟩)] w (On F s0 w0 b T (F.row s fs vs).1 (l ++ zbt b i (F.row s fs vs).2) (c + cost vs) (into b cs (zbt b i (F.row s fs vs).2))) := by
 have hgw := World.block_lt_of_cell? w0 ⟨g, 0, none⟩ cg
 refine (hk F hF s w b i g cs T vs h.st.inv h.no (fun ho => hg (h.st.own g hgw ho)) hgb (h.cell cg hg hgb) (by have := h.st.room; omega) h.blk hc hf).mono ?_
 rintro e w' ⟨rfl, H⟩
 exact ⟨rfl, h.go H zdd⟩
def LoopP (F : Form) (fs : List Fld) (s1 : F.σ) (wL : World) (rb : Nat) (T : TypeId) (off : Nat) (R : List (List Value)) (m k : Nat) (wr : World) : Prop :=
 ∃ (sk : F.σ) (D : List (List Value)) (l : List (Addr × Value)) (c : Nat) (cs : Array Value), D.length = k ∧ k ≤ m ∧ (∀ r, r ∈ D → fits fs r) ∧ At F s1 wL rb T sk l c cs wr ∧ RowsIn cs off fs.length (D ++ R.drop k) ∧
  c + zbd ((R.drop k).take (m - k)) = zbd (R.take m) ∧ F.rows fs s1 (R.take m) = ((F.rows fs sk ((R.drop k).take (m - k))).1, D ++ (F.rows fs sk ((R.drop k).take (m - k))).2)
theorem LoopP.start {F : Form} {fs : List Fld} {s1 : F.σ} {wL : World} {rb : Nat} {T : TypeId} {off : Nat} {R : List (List Value)} (m : Nat) {cs : Array Value} (hI : F.Inv s1 wL) (ho : ¬ F.own wL.heap rb) (hb : wL.heap[rb]? = some (.cells cs T (0, 0))) (hR : RowsIn cs off fs.length R) :
  LoopP F fs s1 wL rb T off R m 0 wL := ⟨s1, [], [], 0, cs, rfl, Nat.zero_le _, fun _ h => (nomatch h), At.start hI ho hb, by simpa using hR, by simp, by simp⟩
theorem LoopP.step {F : Form} (hF : F.Good) {fs : List Fld} (h0 : 0 < fs.length) {s1 : F.σ} {wL : World} {rb : Nat} {T : TypeId} {off : Nat} {R : List (List Value)} {m k : Nat} {wr : World} (h : LoopP F fs s1 wL rb T off R m k wr) (hk : k < m) (hm : m ≤ R.length) (hfit : ∀ r, r ∈ R → fits fs r)
  {kc : FuncId} (hC : RowX kc fs) {g : Nat} (hg : ¬ F.own wL.heap g) (hgb : g ≠ rb) (cg : wL.cell? ⟨g, 0, none⟩ = some (.iface F.ty F.v)) (hr : F.room s1 + zbd (R.take m) ≤ cap) :
  Calls Try.prog kc #[.pointer (some ⟨rb, off + k * fs.length, none⟩), .pointer (some ⟨g, 0, none⟩)] wr (fun e w' => e = .returned (.tuple #[]) ∧ LoopP F fs s1 wL rb T off R m (k + 1) w') := by
 obtain ⟨sk, D, l, c, cs, hD, _, hDf, hA, hR, hc, he⟩ := h
 have hkR : k < R.length := by omega
 have hd : R.drop k = R[k] :: R.drop (k + 1) := List.drop_eq_getElem_cons hkR
 have ht : (R.drop k).take (m - k) = R[k] :: (R.drop (k + 1)).take (m - (k + 1)) := by rw [hd, show m - k = (m - (k + 1)) + 1 by omega, List.take_succ_cons]
 have hf := hfit R[k] (List.getElem_mem hkR)
 have hlen := zax hf
 rw [ht] at hc he
 have hrow : (D ++ R.drop k)[k]? = some R[k] := by rw [List.getElem?_append_right (by omega), hD, hd]; simp
 have hall : ∀ q, q ∈ D ++ R.drop k → q.length = fs.length := fun q hq => by
  rcases List.mem_append.1 hq with hq | hq
  ·exact zax (hDf q hq)
  ·exact zax (hfit q (List.mem_of_mem_drop hq))
 simp only [zbd] at hc
 refine (hA.rowx hF hC hg hgb cg (hR k _ hrow) hf (by omega)).mono ?_
 rintro e w' ⟨rfl, hA'⟩
 refine ⟨rfl, _, D ++ [(F.row sk fs R[k]).2], _, _, _, by simp [hD], by omega, ?_, hA', ?_, by omega, ?_⟩
 ·intro q hq
  rcases List.mem_append.1 hq with hq | hq
  ·exact hDf q hq
  ·rw [List.mem_singleton.1 hq]; exact zia F sk hf
 ·have := hR.set (b := rb) hrow hall (r' := (F.row sk fs R[k]).2) (by rw [zfw]; exact hlen) h0
  have e : (D ++ R.drop k).set k (F.row sk fs R[k]).2 = D ++ [(F.row sk fs R[k]).2] ++ R.drop (k + 1) := by
   rw [List.set_append_right _ _ (by omega), hD, Nat.sub_self, hd, List.set_cons_zero]; simp only [List.append_assoc, List.singleton_append]
  rwa [e] at this
 ·rw [he]
  simp [Form.rows]
theorem LoopP.done {F : Form} {fs : List Fld} {s1 : F.σ} {wL : World} {rb : Nat} {T : TypeId} {off : Nat} {R : List (List Value)} {m : Nat} {wr : World} (h : LoopP F fs s1 wL rb T off R m m wr) :
  ∃ l cs, At F s1 wL rb T (F.rows fs s1 (R.take m)).1 l (zbd (R.take m)) cs wr ∧ RowsIn cs off fs.length ((F.rows fs s1 (R.take m)).2 ++ R.drop m) := by
 obtain ⟨sk, D, l, c, cs, hD, _, hDf, hA, hR, hc, he⟩ := h
 simp only [Nat.sub_self, List.take_zero, zbd, Form.rows, List.append_nil, Nat.add_zero] at hc he
 rw [he]
 subst hc
 exact ⟨l, cs, hA, hR⟩
def Form.listR (F : Form) (fs : List Fld) (s : F.σ) (most : Nat) (rows : List (List Value)) : List (List Value) :=
 if rows.length < (F.count s rows.length most).2.toNat then List.replicate (F.count s rows.length most).2.toNat (zao fs) else rows
def Form.listM (F : Form) (s : F.σ) (most : Nat) (n : Nat) : Nat := min (F.count s n most).2.toNat most
def Form.list (F : Form) (fs : List Fld) (s : F.σ) (most : Nat) (rows : List (List Value)) : F.σ × List (List Value) :=
 ((F.rows fs (F.count s rows.length most).1 ((F.listR fs s most rows).take (F.listM s most rows.length))).1,
  (F.rows fs (F.count s rows.length most).1 ((F.listR fs s most rows).take (F.listM s most rows.length))).2 ++ (F.listR fs s most rows).drop (F.listM s most rows.length))
def ListAt (w : World) (sv : Value) (st : Nat) (rows : List (List Value)) : Prop :=
 ∃ a c, sv = .slice a rows.length c ∧ (rows ≠ [] → ∃ rb off cs T, a = some ⟨rb, off, none⟩ ∧ w.heap[rb]? = some (.cells cs T (0, 0)) ∧ RowsIn cs off st rows) ∧ (a = none → c = 0)
def arr : Value → Option Nat
 | .slice (some a) _ _ => some a.block
 | _ => none
theorem ListAt.move {w w' : World} {sv : Value} {st : Nat} {rows : List (List Value)} (h : ListAt w sv st rows) (hk : ∀ k, arr sv = some k → rows ≠ [] → w'.heap[k]? = w.heap[k]?) : ListAt w' sv st rows := by
 obtain ⟨a, c, rfl, h, hz⟩ := h
 refine ⟨a, c, rfl, fun h0 => ?_, hz⟩
 obtain ⟨rb, off, cs, T, rfl, hb, hr⟩ := h h0
 exact ⟨rb, off, cs, T, rfl, (hk rb rfl h0).trans hb, hr⟩
def ListDone (F : Form) (s : F.σ) (w : World) (b j : Nat) (cs : Array Value) (T st : Nat) (sv : Value) (rows : List (List Value)) (s' : F.σ) (rows' : List (List Value)) (c : Nat) (e : Ending) (w' : World) : Prop :=
 e = .returned (.tuple #[]) ∧ ∃ sv', F.Inv s' w' ∧ (∀ k, k < w.heap.size → F.own w'.heap k → F.own w.heap k) ∧ F.room s' ≤ F.room s + c ∧ w'.heap[b]? = some (.cells (cs.setIfInBounds j sv') T (0, 0)) ∧ ListAt w' sv' st rows' ∧
  (sv' = sv ∨ ∃ k, arr sv' = some k ∧ w.heap.size ≤ k) ∧ (∀ k, arr sv' = some k → rows' ≠ [] → k ≠ b ∧ ¬ F.own w'.heap k) ∧ Only (fun k => F.own w.heap k ∨ k = b ∨ (arr sv = some k ∧ rows ≠ [])) w w'
theorem zei {cs : Array Value} {j : Nat} {v : Value} (h : cs[j]? = some v) : cs.setIfInBounds j v = cs := by
 apply Array.ext_getElem?
 intro i
 rw [Array.getElem?_setIfInBounds]
 split
 ·rename_i e
  subst e
  rw [h]
  have := (Array.getElem?_eq_some_iff.1 h).1
  simp [this]
 ·rfl
theorem Wrote.only {S S' : Nat → Prop} {l : List (Addr × Value)} {w w' : World} (h : Wrote S l w w') (hs : ∀ k, k < w.heap.size → S k → S' k) (hl : ∀ p, p ∈ l → S' p.1.block) : Only S' w w' :=
 ⟨h.os, h.tape, h.output, h.size, fun k hk hn => h.far hk (fun s => hn (hs k hk s)) (fun p hp e => hn (e ▸ hl p hp))⟩
theorem zfo (w : World) (o : Obj) : (w.alloc o).heap[w.heap.size]? = some o := by
 show (w.heap.push o)[w.heap.size]? = some o
 simp
theorem ListDone.none_ {F : Form} {fs : List Fld} {s : F.σ} {w w1 : World} {b j : Nat} {cs : Array Value} {T : TypeId} {sv : Value} {most : Nat} {rows : List (List Value)}
  (hb : w.heap[b]? = some (.cells cs T (0, 0))) (hc : cs[j]? = some sv) (ho : ¬ F.own w.heap b) (hL : ListAt w sv fs.length rows) (hsep : ∀ k, arr sv = some k → rows ≠ [] → k ≠ b ∧ ¬ F.own w.heap k)
  (h : Stepped F s (F.count s rows.length most).1 [] 8 w w1) (h0 : (F.count s rows.length most).2 = 0) :
  ListDone F s w b j cs T fs.length sv rows (F.list fs s most rows).1 (F.list fs s most rows).2 (8 + zbd ((F.listR fs s most rows).take (F.listM s most rows.length))) (.returned (.tuple #[])) w1 := by
 have e1 : F.listM s most rows.length = 0 := by unfold Form.listM; rw [h0]; simp
 have e2 : F.listR fs s most rows = rows := by unfold Form.listR; rw [h0, if_neg (by simp)]
 have e3 : F.list fs s most rows = ((F.count s rows.length most).1, rows) := by unfold Form.list; rw [e1, e2]; simp [Form.rows]
 rw [e3, e1]
 dsimp only
 have hbl := zad hb
 refine ⟨rfl, sv, h.inv, h.own, by have := h.room; omega, ?_, ?_, .inl rfl, ?_, h.wrote.only (fun k _ hk => .inl hk) (fun _ hp => nomatch hp)⟩
 ·rw [zei hc, h.wrote.far hbl ho (fun _ hp => nomatch hp)]; exact hb
 ·refine hL.move fun k hk h0 => h.wrote.far ?_ (hsep k hk h0).2 (fun _ hp => nomatch hp)
  obtain ⟨a, c, rfl, hL, _⟩ := hL
  obtain ⟨rb, off, cs', T', rfl, hb', _⟩ := hL h0
  cases hk
  exact zad hb'
 ·intro k hk h0
  have hkl : k < w.heap.size := by
   obtain ⟨a, c, rfl, hL, _⟩ := hL
   obtain ⟨rb, off, cs', T', rfl, hb', _⟩ := hL h0
   cases hk
   exact zad hb'
  exact ⟨(hsep k hk h0).1, fun h' => (hsep k hk h0).2 (h.own k hkl h')⟩
theorem ListDone.old {F : Form} {fs : List Fld} {s : F.σ} {w w1 w2 : World} {b j : Nat} {cs : Array Value} {T Tr : TypeId} {A : Addr} {c most : Nat} {rows : List (List Value)}
  (hb : w.heap[b]? = some (.cells cs T (0, 0))) (hc : cs[j]? = some (.slice (some A) rows.length c)) (ho : ¬ F.own w.heap b) (h0 : rows ≠ []) (hsb : A.block ≠ b) (hso : ¬ F.own w.heap A.block) (hA : A.spot = none) (hAl : A.block < w.heap.size)
  (h : Stepped F s (F.count s rows.length most).1 [] 8 w w1) (hn : (F.count s rows.length most).2.toNat ≤ rows.length)
  (hl : LoopP F fs (F.count s rows.length most).1 w1 A.block Tr A.off rows (F.listM s most rows.length) (F.listM s most rows.length) w2) :
  ListDone F s w b j cs T fs.length (.slice (some A) rows.length c) rows (F.list fs s most rows).1 (F.list fs s most rows).2 (8 + zbd ((F.listR fs s most rows).take (F.listM s most rows.length))) (.returned (.tuple #[])) w2 := by
 have e2 : F.listR fs s most rows = rows := by unfold Form.listR; rw [if_neg (by omega)]
 have hm : F.listM s most rows.length ≤ rows.length := by unfold Form.listM; omega
 have hbl := zad hb
 obtain ⟨l, cs2, hAt, hR⟩ := hl.done
 have hlen : ((F.rows fs (F.count s rows.length most).1 (rows.take (F.listM s most rows.length))).2 ++ rows.drop (F.listM s most rows.length)).length = rows.length := by
  rw [List.length_append, zef, List.length_take, List.length_drop]; omega
 have hs1 : w1.heap.size ≤ w2.heap.size := hAt.st.wrote.size
 unfold Form.list
 rw [e2]
 dsimp only
 have hnb : ¬ F.own w1.heap b := fun h' => ho (h.own b hbl h')
 refine ⟨rfl, _, hAt.st.inv, fun k hk hk' => h.own k hk (hAt.st.own k (Nat.lt_of_lt_of_le hk h.wrote.size) hk'), by have := h.room; have := hAt.st.room; omega, ?_, ⟨some A, c, by simp only [hlen], fun _ => ⟨A.block, A.off, cs2, Tr, by rw [← hA], hAt.blk, hR⟩, fun h => by cases h⟩, .inl rfl, ?_, ?_⟩
 ·rw [zei hc, hAt.far (Nat.lt_of_lt_of_le hbl h.wrote.size) hnb (Ne.symm hsb), h.wrote.far hbl ho (fun _ hp => nomatch hp)]; exact hb
 ·intro k hk _
  cases hk
  exact ⟨hsb, hAt.no⟩
 ·refine (h.wrote.only (S' := fun k => F.own w.heap k ∨ k = b ∨ (arr (.slice (some A) rows.length c) = some k ∧ rows ≠ [])) (fun k _ hk => .inl hk) (fun _ hp => nomatch hp)).trans (hAt.st.wrote.only (S' := fun k => F.own w1.heap k ∨ k = A.block) (fun k _ hk => .inl hk) (fun p hp => .inr (hAt.hl p hp))) ?_
  intro i hi hs
  rcases hs with hs | hs
  ·exact .inl (h.own i hi hs)
  ·exact .inr (.inr ⟨by rw [hs]; rfl, h0⟩)
theorem zib {fs : List Fld} (Z : Array Value) (hZ : Z = (zao fs).toArray) (n : Nat) : RowsIn (madeCells Z (n * fs.length)) 0 fs.length (List.replicate n (zao fs)) := by
 intro k r hr j v hj
 have hk : k < n := by have := (List.getElem?_eq_some_iff.1 hr).1; simpa using this
 have er : r = zao fs := by
  rw [List.getElem?_replicate, if_pos hk] at hr
  injection hr with hr
  exact hr.symm
 subst er
 have hj' : j < fs.length := by have := (List.getElem?_eq_some_iff.1 hj).1; simpa [zao] using this
 have hs : Z.size = fs.length := by rw [hZ]; simp [zao]
 have hlt : 0 + k * fs.length + j < n * fs.length := by
  have : (k + 1) * fs.length ≤ n * fs.length := Nat.mul_le_mul_right _ hk
  rw [Nat.add_mul] at this
  omega
 unfold madeCells
 rw [Array.getElem?_map, Array.getElem?_range, if_pos hlt]
 have hmod : (0 + k * fs.length + j) % fs.length = j := by rw [Nat.zero_add, Nat.add_comm, Nat.add_mul_mod_self_right, Nat.mod_eq_of_lt hj']
 simp only [Option.map_some, hs, hmod]
 rw [← hj, hZ]
 have : j < (zao fs).length := by simpa [zao] using hj'
 simp [this]
theorem ListDone.new_ {F : Form} (hF : F.Good) {fs : List Fld} {s : F.σ} {w w1 w2 : World} {b j : Nat} {cs : Array Value} {T Tr : TypeId} {sv : Value} {most : Nat} {rows : List (List Value)} {N : Nat} {Z : Array Value}
  (hb : w.heap[b]? = some (.cells cs T (0, 0))) (ho : ¬ F.own w.heap b)
  (h : Stepped F s (F.count s rows.length most).1 [] 8 w w1) (hN : (F.count s rows.length most).2.toNat = N) (hn : rows.length < N) (hm : N ≤ most)
  (hl : LoopP F fs (F.count s rows.length most).1 ((w1.setCell ⟨b, j, none⟩ (.slice (some ⟨w1.heap.size, 0, none⟩) N N)).alloc (.cells (madeCells Z (N * fs.length)) Tr)) w1.heap.size Tr 0 (List.replicate N (zao fs)) N N w2) :
  ListDone F s w b j cs T fs.length sv rows (F.list fs s most rows).1 (F.list fs s most rows).2 (8 + zbd ((F.listR fs s most rows).take (F.listM s most rows.length))) (.returned (.tuple #[])) w2 := by
 have e2 : F.listR fs s most rows = List.replicate N (zao fs) := by unfold Form.listR; rw [hN, if_pos hn]
 have e1 : F.listM s most rows.length = N := by unfold Form.listM; rw [hN]; omega
 have hbl := zad hb
 have hbl1 : b < w1.heap.size := Nat.lt_of_lt_of_le hbl h.wrote.size
 rw [← World.setCell_alloc_past (w := w1) _ _ _ _ hbl1] at hl
 obtain ⟨l, cs2, hAt, hR⟩ := hl.done
 have hb1 : w1.heap[b]? = some (.cells cs T (0, 0)) := (h.wrote.far hbl ho (fun _ hp => nomatch hp)).trans hb
 have hlen : ((F.rows fs (F.count s rows.length most).1 ((List.replicate N (zao fs)).take N)).2 ++ (List.replicate N (zao fs)).drop N).length = N := by
  rw [List.length_append, zef, List.length_take, List.length_drop, List.length_replicate]; omega
 unfold Form.list
 rw [e2, e1]
 dsimp only
 have hnb : ¬ F.own w1.heap b := fun h' => ho (h.own b hbl h')
 have hom : ∀ k, F.own ((w1.alloc (.cells (madeCells Z (N * fs.length)) Tr)).setCell ⟨b, j, none⟩ (.slice (some ⟨w1.heap.size, 0, none⟩) N N)).heap k → F.own w1.heap k := hF.own_move h.inv (fun k hk => (Below.heap_setCell _ _ _ _ (fun e => hnb (by have e' : k = b := e; rwa [e'] at hk))).trans (Below.heap_alloc w1 _ k (hF.lt h.inv hk)))
 have hsz : ((w1.alloc (.cells (madeCells Z (N * fs.length)) Tr)).setCell ⟨b, j, none⟩ (.slice (some ⟨w1.heap.size, 0, none⟩) N N)).heap.size = w1.heap.size + 1 := by rw [World.size_setCell, World.size_alloc]
 have hb2 : ((w1.alloc (.cells (madeCells Z (N * fs.length)) Tr)).setCell ⟨b, j, none⟩ (.slice (some ⟨w1.heap.size, 0, none⟩) N N)).heap[b]? = some (.cells (cs.setIfInBounds j (.slice (some ⟨w1.heap.size, 0, none⟩) N N)) T (0, 0)) :=
  zcm ((Below.heap_alloc w1 _ b hbl1).trans hb1) _ _
 refine ⟨rfl, .slice (some ⟨w1.heap.size, 0, none⟩) N N, hAt.st.inv, fun k hk hk' => h.own k hk (hom k (hAt.st.own k (by have := h.wrote.size; omega) hk')), by have := h.room; have := hAt.st.room; omega, ?_, ⟨some ⟨w1.heap.size, 0, none⟩, N, by simp only [hlen], fun _ => ⟨w1.heap.size, 0, cs2, Tr, rfl, hAt.blk, hR⟩, fun h => by cases h⟩, .inr ⟨w1.heap.size, rfl, h.wrote.size⟩, ?_, ?_⟩
 ·rw [hAt.far (by rw [hsz]; omega) (fun h' => hnb (hom b h')) (by omega)]; exact hb2
 ·intro k hk _
  cases hk
  exact ⟨by simp only; omega, hAt.no⟩
 ·have o1 : Only (fun k => F.own w.heap k ∨ k = b) w w1 := h.wrote.only (fun k _ hk => .inl hk) (fun _ hp => nomatch hp)
  have o2 : Only (fun k => F.own w.heap k ∨ k = b) w ((w1.alloc (.cells (madeCells Z (N * fs.length)) Tr)).setCell ⟨b, j, none⟩ (.slice (some ⟨w1.heap.size, 0, none⟩) N N)) := (o1.alloc _).set (.inr (.inr rfl)) _
  have o3 : Only (fun k => F.own ((w1.alloc (.cells (madeCells Z (N * fs.length)) Tr)).setCell ⟨b, j, none⟩ (.slice (some ⟨w1.heap.size, 0, none⟩) N N)).heap k ∨ k = w1.heap.size) ((w1.alloc (.cells (madeCells Z (N * fs.length)) Tr)).setCell ⟨b, j, none⟩ (.slice (some ⟨w1.heap.size, 0, none⟩) N N)) w2 := hAt.st.wrote.only (fun k _ hk => .inl hk) (fun p hp => .inr (hAt.hl p hp))
  refine (o2.trans o3 ?_).mono ?_
  ·intro i hi hs
   rcases hs with hs | hs
   ·exact .inl (h.own i hi (hom i hs))
   ·have := h.wrote.size; omega
  ·intro k _ hk
   rcases hk with hk | hk
   ·exact .inl hk
   ·exact .inr (.inl hk)
def posF : List Fld := [.num 0 64, .num 0 512]
theorem zhy : RowC 66 posF := by
 intro F hF s w b i cs T vs hI ho hr hb hv hf
 obtain ⟨v0, vs, rfl⟩ : ∃ v0 r, vs = v0 :: r := by cases vs with | nil => exact hf.elim | cons a r => exact ⟨_, _, rfl⟩
 obtain ⟨⟨x0, rfl⟩, hf⟩ := hf
 obtain ⟨v1, vs, rfl⟩ : ∃ v0 r, vs = v0 :: r := by cases vs with | nil => exact hf.elim | cons a r => exact ⟨_, _, rfl⟩
 obtain ⟨⟨x1, rfl⟩, hf⟩ := hf
 obtain rfl : vs = [] := by cases vs with | nil => rfl | cons a r => exact hf.elim
 have c0 : cs[i]? = some (.int .i64 x0) := hv 0 _ rfl
 have c1 : cs[i + 1]? = some (.int .i64 x1) := hv 1 _ rfl
 have hmf : ∀ (fn : Fn) (first cap : Array Value) (w : World), (Instr.makeFunc fn first cap).run Try.prog w = .ok (.func fn first cap) w := fun _ _ _ _ => rfl
 have HA0 := hF.ahead 0 "meridian/wire.num" (by decide) rfl
 have HM0 := hF.method 0 "meridian/wire.num" (by decide) rfl
 have HE0 := hF.enter 0 (by decide)
 have A0 := aK (At.start hI ho hb)
 have HR := aK hr
 have HC0 := aK c0
 have HC1 := aK c1
 have HG := aK hF
 clear hI ho hr hb hv hf hF c0 c1
 go_enter Try.func66, Try.ntmps66
 have C0 := aK (A0.out.num HG.out (j := i) (n := x0) (by (repeat (first | rw [Array.getElem?_setIfInBounds_ne (by omega)] | rw [zaw (by simp only [List.length_cons, List.length_nil]; omega)])); exact HC0.out) (by have := HR.out; simp only [cost, zbr] at this; (try simp only [cost, zbr]); omega) 0 64)
 go_wp2
 go_region_held3 (fun _ => True) (trivial) (((with_reducible refine C0.out.mono ?_); rintro e w1 ⟨rfl, H⟩; have A1 := aK H; clear H))
 have C1 := aK (A1.out.num HG.out (j := i + 1) (n := x1) (by (repeat (first | rw [Array.getElem?_setIfInBounds_ne (by omega)] | rw [zaw (by simp only [List.length_cons, List.length_nil]; omega)])); exact HC1.out) (by have := HR.out; simp only [cost, zbr] at this; (try simp only [cost, zbr]); omega) 0 512)
 go_wp2
 go_region_held3 (fun _ => True) (trivial) (((with_reducible refine C1.out.mono ?_); rintro e w2 ⟨rfl, H⟩; have A2 := aK H; clear H))
 go_wp2
 go_end0
 exact A2.out.did rfl rfl (by first | rfl | (simp only [cost, zbr]; done) | (simp only [cost, zbr]; omega))
def zdm : List Fld := [.num 0 64, .num 0 512, .flag, .text 1024]
theorem zrl : RowC 72 zdm := by
 intro F hF s w b i cs T vs hI ho hr hb hv hf
 obtain ⟨v0, vs, rfl⟩ : ∃ v0 r, vs = v0 :: r := by cases vs with | nil => exact hf.elim | cons a r => exact ⟨_, _, rfl⟩
 obtain ⟨⟨x0, rfl⟩, hf⟩ := hf
 obtain ⟨v1, vs, rfl⟩ : ∃ v0 r, vs = v0 :: r := by cases vs with | nil => exact hf.elim | cons a r => exact ⟨_, _, rfl⟩
 obtain ⟨⟨x1, rfl⟩, hf⟩ := hf
 obtain ⟨v2, vs, rfl⟩ : ∃ v0 r, vs = v0 :: r := by cases vs with | nil => exact hf.elim | cons a r => exact ⟨_, _, rfl⟩
 obtain ⟨⟨x2, rfl⟩, hf⟩ := hf
 obtain ⟨v3, vs, rfl⟩ : ∃ v0 r, vs = v0 :: r := by cases vs with | nil => exact hf.elim | cons a r => exact ⟨_, _, rfl⟩
 obtain ⟨⟨x3, rfl⟩, hf⟩ := hf
 obtain rfl : vs = [] := by cases vs with | nil => rfl | cons a r => exact hf.elim
 have c0 : cs[i]? = some (.int .i64 x0) := hv 0 _ rfl
 have c1 : cs[i + 1]? = some (.int .i64 x1) := hv 1 _ rfl
 have c2 : cs[i + 2]? = some (.bool x2) := hv 2 _ rfl
 have c3 : cs[i + 3]? = some (.string x3) := hv 3 _ rfl
 have hmf : ∀ (fn : Fn) (first cap : Array Value) (w : World), (Instr.makeFunc fn first cap).run Try.prog w = .ok (.func fn first cap) w := fun _ _ _ _ => rfl
 have HA1 := hF.ahead 1 "meridian/wire.flag" (by decide) rfl
 have HM1 := hF.method 1 "meridian/wire.flag" (by decide) rfl
 have HE1 := hF.enter 1 (by decide)
 have HA2 := hF.ahead 2 "meridian/wire.text" (by decide) rfl
 have HM2 := hF.method 2 "meridian/wire.text" (by decide) rfl
 have HE2 := hF.enter 2 (by decide)
 have A0 := aK (At.start hI ho hb)
 have HR := aK hr
 have HC0 := aK c0
 have HC1 := aK c1
 have HC2 := aK c2
 have HC3 := aK c3
 have HG := aK hF
 clear hI ho hr hb hv hf hF c0 c1 c2 c3
 go_enter Try.func72, Try.ntmps72
 have C0 := aK (A0.out.row' HG.out (i := i) (vs := [.int .i64 x0, .int .i64 x1]) zhy (zdo (by (repeat (first | rw [Array.getElem?_setIfInBounds_ne (by omega)] | rw [zaw (by simp only [List.length_cons, List.length_nil]; omega)])); exact HC0.out) (zdo (by (repeat (first | rw [Array.getElem?_setIfInBounds_ne (by omega)] | rw [zaw (by simp only [List.length_cons, List.length_nil]; omega)])); exact HC1.out) zkn)) (by simp [fits, Fld.fits, posF]) (by have := HR.out; simp only [cost, zbr] at this; (try simp only [cost, zbr]); omega))
 go_wp2_with (go_at_call 66; (with_reducible refine C0.out.mono ?_); rintro e w1 ⟨rfl, H⟩; have A1 := aK H; clear H)
 have C1 := aK (A1.out.flag HG.out (j := i + 2) (n := x2) (by (repeat (first | rw [Array.getElem?_setIfInBounds_ne (by omega)] | rw [zaw (by simp only [List.length_cons, List.length_nil]; omega)])); exact HC2.out) (by have := HR.out; simp only [cost, zbr] at this; (try simp only [cost, zbr]); omega))
 go_region_held3 (fun _ => True) (trivial) (((with_reducible refine C1.out.mono ?_); rintro e w2 ⟨rfl, H⟩; have A2 := aK H; clear H))
 have C2 := aK (A2.out.text HG.out (j := i + 3) (n := x3) (by (repeat (first | rw [Array.getElem?_setIfInBounds_ne (by omega)] | rw [zaw (by simp only [List.length_cons, List.length_nil]; omega)])); exact HC3.out) 1024 (by have := HR.out; simp only [cost, zbr] at this; (try simp only [cost, zbr]); omega))
 go_wp2
 go_region_held3 (fun _ => True) (trivial) (((with_reducible refine C2.out.mono ?_); rintro e w3 ⟨rfl, H⟩; have A3 := aK H; clear H))
 go_wp2
 go_end0
 exact A3.out.did rfl rfl (by first | rfl | (simp only [cost, zbr]; done) | (simp only [cost, zbr]; omega))
def zak : List Fld := [.num 0 64, .num 0 512, .num 0 9007199254740992, .num 0 9007199254740992, .text 64, .flag, .text 1024]
theorem entry_c : RowC 65 zak := by
 intro F hF s w b i cs T vs hI ho hr hb hv hf
 obtain ⟨v0, vs, rfl⟩ : ∃ v0 r, vs = v0 :: r := by cases vs with | nil => exact hf.elim | cons a r => exact ⟨_, _, rfl⟩
 obtain ⟨⟨x0, rfl⟩, hf⟩ := hf
 obtain ⟨v1, vs, rfl⟩ : ∃ v0 r, vs = v0 :: r := by cases vs with | nil => exact hf.elim | cons a r => exact ⟨_, _, rfl⟩
 obtain ⟨⟨x1, rfl⟩, hf⟩ := hf
 obtain ⟨v2, vs, rfl⟩ : ∃ v0 r, vs = v0 :: r := by cases vs with | nil => exact hf.elim | cons a r => exact ⟨_, _, rfl⟩
 obtain ⟨⟨x2, rfl⟩, hf⟩ := hf
 obtain ⟨v3, vs, rfl⟩ : ∃ v0 r, vs = v0 :: r := by cases vs with | nil => exact hf.elim | cons a r => exact ⟨_, _, rfl⟩
 obtain ⟨⟨x3, rfl⟩, hf⟩ := hf
 obtain ⟨v4, vs, rfl⟩ : ∃ v0 r, vs = v0 :: r := by cases vs with | nil => exact hf.elim | cons a r => exact ⟨_, _, rfl⟩
 obtain ⟨⟨x4, rfl⟩, hf⟩ := hf
 obtain ⟨v5, vs, rfl⟩ : ∃ v0 r, vs = v0 :: r := by cases vs with | nil => exact hf.elim | cons a r => exact ⟨_, _, rfl⟩
 obtain ⟨⟨x5, rfl⟩, hf⟩ := hf
 obtain ⟨v6, vs, rfl⟩ : ∃ v0 r, vs = v0 :: r := by cases vs with | nil => exact hf.elim | cons a r => exact ⟨_, _, rfl⟩
 obtain ⟨⟨x6, rfl⟩, hf⟩ := hf
 obtain rfl : vs = [] := by cases vs with | nil => rfl | cons a r => exact hf.elim
 have c0 : cs[i]? = some (.int .i64 x0) := hv 0 _ rfl
 have c1 : cs[i + 1]? = some (.int .i64 x1) := hv 1 _ rfl
 have c2 : cs[i + 2]? = some (.int .i64 x2) := hv 2 _ rfl
 have c3 : cs[i + 3]? = some (.int .i64 x3) := hv 3 _ rfl
 have c4 : cs[i + 4]? = some (.string x4) := hv 4 _ rfl
 have c5 : cs[i + 5]? = some (.bool x5) := hv 5 _ rfl
 have c6 : cs[i + 6]? = some (.string x6) := hv 6 _ rfl
 have hmf : ∀ (fn : Fn) (first cap : Array Value) (w : World), (Instr.makeFunc fn first cap).run Try.prog w = .ok (.func fn first cap) w := fun _ _ _ _ => rfl
 have HA1 := hF.ahead 1 "meridian/wire.flag" (by decide) rfl
 have HM1 := hF.method 1 "meridian/wire.flag" (by decide) rfl
 have HE1 := hF.enter 1 (by decide)
 have HA0 := hF.ahead 0 "meridian/wire.num" (by decide) rfl
 have HM0 := hF.method 0 "meridian/wire.num" (by decide) rfl
 have HE0 := hF.enter 0 (by decide)
 have HA2 := hF.ahead 2 "meridian/wire.text" (by decide) rfl
 have HM2 := hF.method 2 "meridian/wire.text" (by decide) rfl
 have HE2 := hF.enter 2 (by decide)
 have A0 := aK (At.start hI ho hb)
 have HR := aK hr
 have HC0 := aK c0
 have HC1 := aK c1
 have HC2 := aK c2
 have HC3 := aK c3
 have HC4 := aK c4
 have HC5 := aK c5
 have HC6 := aK c6
 have HG := aK hF
 clear hI ho hr hb hv hf hF c0 c1 c2 c3 c4 c5 c6
 go_enter Try.func65, Try.ntmps65
 have C0 := aK (A0.out.row' HG.out (i := i) (vs := [.int .i64 x0, .int .i64 x1]) zhy (zdo (by (repeat (first | rw [Array.getElem?_setIfInBounds_ne (by omega)] | rw [zaw (by simp only [List.length_cons, List.length_nil]; omega)])); exact HC0.out) (zdo (by (repeat (first | rw [Array.getElem?_setIfInBounds_ne (by omega)] | rw [zaw (by simp only [List.length_cons, List.length_nil]; omega)])); exact HC1.out) zkn)) (by simp [fits, Fld.fits, posF]) (by have := HR.out; simp only [cost, zbr] at this; (try simp only [cost, zbr]); omega))
 go_wp2_with (go_at_call 66; (with_reducible refine C0.out.mono ?_); rintro e w1 ⟨rfl, H⟩; have A1 := aK H; clear H)
 have C1 := aK (A1.out.num HG.out (j := i + 2) (n := x2) (by (repeat (first | rw [Array.getElem?_setIfInBounds_ne (by omega)] | rw [zaw (by simp only [List.length_cons, List.length_nil]; omega)])); exact HC2.out) (by have := HR.out; simp only [cost, zbr] at this; (try simp only [cost, zbr]); omega) 0 9007199254740992)
 go_region_held3 (fun _ => True) (trivial) (((with_reducible refine C1.out.mono ?_); rintro e w2 ⟨rfl, H⟩; have A2 := aK H; clear H))
 have C2 := aK (A2.out.num HG.out (j := i + 3) (n := x3) (by (repeat (first | rw [Array.getElem?_setIfInBounds_ne (by omega)] | rw [zaw (by simp only [List.length_cons, List.length_nil]; omega)])); exact HC3.out) (by have := HR.out; simp only [cost, zbr] at this; (try simp only [cost, zbr]); omega) 0 9007199254740992)
 go_wp2
 go_region_held3 (fun _ => True) (trivial) (((with_reducible refine C2.out.mono ?_); rintro e w3 ⟨rfl, H⟩; have A3 := aK H; clear H))
 have C3 := aK (A3.out.text HG.out (j := i + 4) (n := x4) (by (repeat (first | rw [Array.getElem?_setIfInBounds_ne (by omega)] | rw [zaw (by simp only [List.length_cons, List.length_nil]; omega)])); exact HC4.out) 64 (by have := HR.out; simp only [cost, zbr] at this; (try simp only [cost, zbr]); omega))
 go_wp2
 go_region_held3 (fun _ => True) (trivial) (((with_reducible refine C3.out.mono ?_); rintro e w4 ⟨rfl, H⟩; have A4 := aK H; clear H))
 have C4 := aK (A4.out.flag HG.out (j := i + 5) (n := x5) (by (repeat (first | rw [Array.getElem?_setIfInBounds_ne (by omega)] | rw [zaw (by simp only [List.length_cons, List.length_nil]; omega)])); exact HC5.out) (by have := HR.out; simp only [cost, zbr] at this; (try simp only [cost, zbr]); omega))
 go_wp2
 go_region_held3 (fun _ => True) (trivial) (((with_reducible refine C4.out.mono ?_); rintro e w5 ⟨rfl, H⟩; have A5 := aK H; clear H))
 have C5 := aK (A5.out.text HG.out (j := i + 6) (n := x6) (by (repeat (first | rw [Array.getElem?_setIfInBounds_ne (by omega)] | rw [zaw (by simp only [List.length_cons, List.length_nil]; omega)])); exact HC6.out) 1024 (by have := HR.out; simp only [cost, zbr] at this; (try simp only [cost, zbr]); omega))
 go_wp2
 go_region_held3 (fun _ => True) (trivial) (((with_reducible refine C5.out.mono ?_); rintro e w6 ⟨rfl, H⟩; have A6 := aK H; clear H))
 go_wp2
 go_end0
 exact A6.out.did rfl rfl (by first | rfl | (simp only [cost, zbr]; done) | (simp only [cost, zbr]; omega))
theorem entx_c : RowX 64 zak := by
 intro F hF s w b i g cs T vs hI ho hg hgb cg0 hr hb hv hf
 have C := aK (entry_c F hF s w b i cs T vs hI ho hr hb hv hf)
 clear hI ho hg hgb hr hb hv hf
 go_enter Try.func64, Try.ntmps64
 go_wp2_with (go_at_call 65; (with_reducible refine C.out.mono ?_); rintro e w1 ⟨rfl, H⟩; have HH := aK H; clear H)
 go_end0
 exact ⟨rfl, HH.out⟩
theorem zero_E : (Try.prog.info? 66).map (fun i => (i.zero, i.size, i.bytes)) = some (some (.agg (zao zak).toArray), (zak).length, 72) := by kernel_rfl
theorem made_E (W : World) (N : Nat) (h : N ≤ 64) : (Instr.makeSlice 22 (.int .i64 (N : Int)) (.int .i64 (N : Int))).run Try.prog W = .ok (.slice (some ⟨W.heap.size, 0, none⟩) N N) (W.alloc (.cells (madeCells (zao zak).toArray (N * (zak).length)) 66)) := by
 obtain ⟨i, hi, hz⟩ := Option.map_eq_some_iff.1 zero_E
 simp only [Prod.mk.injEq] at hz
 obtain ⟨h1, h2, h3⟩ := hz
 have := run_make (P := Try.prog) W 22 66 i _ Try.underlying22 hi h1 .i64 .i64 (N : Int) (N : Int) (by omega) (Int.le_refl _) (by rw [h3]; omega) (by omega)
 rw [h2, Int.toNat_natCast] at this
 exact this
theorem listE_c (F : Form) (hF : F.Good) (s : F.σ) (w : World) (b j g : Nat) (cs : Array Value) (T : TypeId) (A : Option Addr) (c : Nat) (rows : List (List Value)) (hI : F.Inv s w) (ho : ¬ F.own w.heap b) (hg : ¬ F.own w.heap g) (hgb : g ≠ b) (cg : w.cell? ⟨g, 0, none⟩ = some (.iface F.ty F.v))
  (hr : F.room s + (8 + zbd ((F.listR zak s 8 rows).take (F.listM s 8 rows.length))) ≤ cap) (hb : w.heap[b]? = some (.cells cs T (0, 0))) (hc : cs[j]? = some (.slice A rows.length c)) (hL : ListAt w (.slice A rows.length c) (zak).length rows)
  (hsep : ∀ k, arr (.slice A rows.length c) = some k → rows ≠ [] → k ≠ b ∧ ¬ F.own w.heap k ∧ k ≠ g) (hfit : ∀ r, r ∈ rows → fits zak r) (hnl : rows.length ≤ 9223372036854775807) :
  Calls Try.prog 63 #[.iface F.ty F.v, .pointer (some ⟨b, j, none⟩), .int .i64 8, .func (.func 64) #[] #[.pointer (some ⟨g, 0, none⟩)]] w
   (ListDone F s w b j cs T (zak).length (.slice A rows.length c) rows (F.list zak s 8 rows).1 (F.list zak s 8 rows).2 (8 + zbd ((F.listR zak s 8 rows).take (F.listM s 8 rows.length)))) := by
 have hmf : ∀ (fn : Fn) (first cap : Array Value) (w : World), (Instr.makeFunc fn first cap).run Try.prog w = .ok (.func fn first cap) w := fun _ _ _ _ => rfl
 have HA := hF.ahead 3 "meridian/wire.count" (by decide) rfl
 have HM := hF.method 3 "meridian/wire.count" (by decide) rfl
 have HE := hF.enter 3 (by decide)
 obtain ⟨l0, l1⟩ := hF.count_lim s (rows.length : Int) 8 (by omega) (by omega)
 obtain ⟨N, hN⟩ := Int.eq_ofNat_of_zero_le l0
 have HCt := hF.count_c s w.drew (rows.length : Int) 8 (hF.move hI (fun _ _ => rfl) (Nat.le_refl _)) (by omega) (by omega) (by omega)
 rw [hN] at HCt
 have HC := aK HCt
 have HL := aK hL
 have HS := aK hsep
 have HF := aK hfit
 have HR := aK hr
 have HG := aK hF
 have HO := aK ho
 have HOg := aK hg
 have HB := aK hgb
 have HCg := aK cg
 have HH := aK hb
 have HJ := aK hc
 have HN := aK (show (F.count s (rows.length : Int) ((8 : Nat) : Int)).2.toNat = N by rw [show (F.count s (rows.length : Int) ((8 : Nat) : Int)).2 = _ from hN]; rfl)
 have HNI := aK (show (F.count s (rows.length : Int) ((8 : Nat) : Int)).2 = (N : Int) from hN)
 have cb0 : w.cell? ⟨b, j, none⟩ = some (.slice A rows.length c) := (zab hb j).trans hc
 have HCb := aK cb0
 have Hl1 := aK (show N = rows.length ∨ N ≤ 8 by rw [hN] at l1; omega)
 have HHg := aK (World.block_lt_of_cell? w ⟨g, 0, none⟩ cg)
 clear l0 l1 HCt hL hsep hfit hr hF ho hg hgb hb hc hI hN cg
 generalize hn : rows.length = n at *
 have HRn := aK hn
 clear hn
 by_cases z0 : N = 0
 ·subst z0
  have t1 : (decide ((n : Int) < 0)) = false := by simp
  go_enter Try.func63, Try.ntmps63
  go_wp2
  go_region_held3 (fun W => W.cell? ⟨b, j, none⟩ = some (.slice A n c)) (go_keep) (((with_reducible refine HC.out.mono ?_); rintro e w1 ⟨rfl, H⟩; have cb1 := (World.cell?_of_block (w := w) (a := ⟨b, j, none⟩) (H.undrew.wrote.far (zad HH.out) HO.out (fun _ hp => nomatch hp))).trans HCb.out; have A1 := aK (show Stepped F s (F.count s (n : Int) ((8 : Nat) : Int)).1 [] 8 w w1 from H.undrew); clear H))
  go_wp2
  go_loopw [9] (fun i wr => i = .int .i64 0 ∧ wr = w1) (fun i _ => 0)
  case atStart => exact ⟨rfl, rfl⟩
  case round =>
   obtain ⟨rfl, rfl⟩ := hrel
   go_wp2
   go_end0
   have hnr := HRn.out
   subst hnr
   exact ListDone.none_ (most := 8) HH.out HJ.out HO.out HL.out (fun k h1 h2 => ⟨(HS.out k h1 h2).1, (HS.out k h1 h2).2.1⟩) A1.out HNI.out
 by_cases z1 : N ≤ n
 ·have h0 : rows ≠ [] := fun e => by have := HRn.out; rw [e] at this; simp at this; omega
  obtain ⟨a', c', e, hL2, _⟩ := HL.out
  obtain ⟨rb, off, csr, Tr, rfl, hbr, hRI⟩ := hL2 h0
  injection e with e1 e2 e3
  subst e1
  have HSp := aK (HS.out rb rfl h0)
  have Hbr := aK hbr
  have Hcs := aK hRI
  have H0 := aK h0
  clear hL2 h0 e2 e3 hRI hbr
  have t1 : (decide (n < N)) = false := by simp; omega
  have e2 := aK (show F.listR zak s 8 rows = rows by unfold Form.listR; rw [HRn.out, HN.out, if_neg (by omega)])
  have e3 := aK (show F.listM s 8 n = min N 8 by unfold Form.listM; rw [HN.out])
  have hm : min N 8 ≤ rows.length := by rw [HRn.out]; omega
  have HM1 := aK hm
  clear hm
  have HRo := aK (show F.room s + (8 + zbd (rows.take (min N 8))) ≤ cap by have := HR.out; rw [e2.out, e3.out] at this; exact this)
  go_enter Try.func63, Try.ntmps63
  go_wp2
  go_region_held3 (fun W => W.cell? ⟨b, j, none⟩ = some (.slice (some ⟨rb, off, none⟩) n c)) (go_keep) (((with_reducible refine HC.out.mono ?_); rintro e w1 ⟨rfl, H⟩; have cb1 := (World.cell?_of_block (w := w) (a := ⟨b, j, none⟩) (H.undrew.wrote.far (zad HH.out) HO.out (fun _ hp => nomatch hp))).trans HCb.out; have A1 := aK (show Stepped F s (F.count s (n : Int) ((8 : Nat) : Int)).1 [] 8 w w1 from H.undrew); clear H))
  have HP0 := aK (LoopP.start (fs := zak) (R := rows) (off := off) (min N 8) A1.out.inv (fun h => HSp.out.2.1 (A1.out.own rb (zad Hbr.out) h)) ((A1.out.wrote.far (zad Hbr.out) HSp.out.2.1 (fun _ hp => nomatch hp)).trans Hbr.out) Hcs.out)
  have HCg1 := aK ((World.cell?_of_block (w := w) (a := ⟨g, 0, none⟩) (A1.out.wrote.far HHg.out HOg.out (fun _ hp => nomatch hp))).trans HCg.out)
  have HCb1 := aK cb1
  have HOg1 := aK (fun h => HOg.out (A1.out.own g HHg.out h))
  have HOb1 := aK (fun h => HO.out (A1.out.own b (zad HH.out) h))
  go_wp2
  go_loopw [9] (fun i wr => ∃ k : Nat, i = .int .i64 k ∧ k ≤ min N 8 ∧ Aside0 (LoopP F zak (F.count s (n : Int) ((8 : Nat) : Int)).1 w1 rb Tr off rows (min N 8) k wr)) (fun i _ => N - (intOf i).toNat)
  case atStart => exact ⟨0, rfl, by omega, HP0⟩
  case round =>
   clear HP0
   obtain ⟨k, rfl, hk, HP⟩ := hrel
   have hcb : wr.cell? ⟨b, j, none⟩ = some (.slice (some ⟨rb, off, none⟩) n c) := by
    obtain ⟨sk, D, l, cc, cs', _, _, _, hAt, _⟩ := HP.out
    exact hAt.cell HCb1.out HOb1.out (Ne.symm HSp.out.1)
   by_cases hlt : k < min N 8
   ·have i0 : (0 : Int) ≤ (k : Int) := by omega
    have i1 : (k : Int) < (n : Int) := by omega
    have i2 : (k : Int) < (N : Int) := by omega
    have i3 : (k : Int) < 8 := by omega
    have HCs : Aside0 (Calls Try.prog 64 #[.pointer (some ⟨rb, off + k * 7, none⟩), .pointer (some ⟨g, 0, none⟩)] wr _) := aK (HP.out.step HG.out (by decide) hlt HM1.out HF.out entx_c HOg1.out (fun e => (HSp.out.2.2 e.symm)) HCg1.out (by have := HRo.out; have := A1.out.room; omega))
    go_wp2_with (go_at_call 64; (with_reducible refine HCs.out.mono ?_); rintro e w2 ⟨rfl, H⟩; have HP2 := aK H; clear H)
    go_roundw
    case rel => exact ⟨k + 1, by go_num, by omega, HP2⟩
    case measure => simp [intOf]; omega
   ·have hkm : k = min N 8 := by omega
    have hend : LoopP F zak (F.count s (n : Int) ((8 : Nat) : Int)).1 w1 rb Tr off rows (min N 8) (min N 8) wr := hkm ▸ HP.out
    have HEnd := aK hend
    clear hend
    by_cases hlt2 : k < N
    ·have i2 : (k : Int) < (N : Int) := by omega
     have i3 : ¬ (k : Int) < 8 := by omega
     go_wp2
     go_end0
     have hnr := HRn.out
     subst hnr
     exact ListDone.old (most := 8) HH.out HJ.out HO.out H0.out HSp.out.1 HSp.out.2.1 rfl (zad Hbr.out) A1.out (by rw [HN.out]; exact z1) (by rw [e3.out]; exact HEnd.out)
    ·have i2 : ¬ (k : Int) < (N : Int) := by omega
     go_wp2
     go_end0
     have hnr := HRn.out
     subst hnr
     exact ListDone.old (most := 8) HH.out HJ.out HO.out H0.out HSp.out.1 HSp.out.2.1 rfl (zad Hbr.out) A1.out (by rw [HN.out]; exact z1) (by rw [e3.out]; exact HEnd.out)
 ·have hlt : n < N := by omega
  have t1 : (decide ((n : Int) < (N : Int))) = true := by simp; omega
  have hNM : N ≤ 8 := by have := Hl1.out; omega
  have e2 := aK (show F.listR zak s 8 rows = List.replicate N (zao zak) by unfold Form.listR; rw [HRn.out, HN.out, if_pos hlt])
  have e3 := aK (show F.listM s 8 n = N by unfold Form.listM; rw [HN.out]; omega)
  have HRo := aK (show F.room s + (8 + zbd ((List.replicate N (zao zak)).take N)) ≤ cap by have := HR.out; rw [e2.out, e3.out] at this; exact this)
  have HMK := fun W => made_E W N (by omega)
  have HBl := aK (zad HH.out)
  go_enter Try.func63, Try.ntmps63
  go_wp2
  go_region_held3 (fun W => W.cell? ⟨b, j, none⟩ = some (.slice A n c)) (go_keep) (((with_reducible refine HC.out.mono ?_); rintro e w1 ⟨rfl, H⟩; have hbw1 := (H.undrew.wrote.far (zad HH.out) HO.out (fun _ hp => nomatch hp)).trans HH.out; have cb1 := (World.cell?_of_block (w := w) (a := ⟨b, j, none⟩) (H.undrew.wrote.far (zad HH.out) HO.out (fun _ hp => nomatch hp))).trans HCb.out; have A1 := aK (show Stepped F s (F.count s (n : Int) ((8 : Nat) : Int)).1 [] 8 w w1 from H.undrew); clear H))
  have hb1 : b < w1.heap.size := Nat.lt_of_lt_of_le HBl.out A1.out.wrote.size
  have fb1 := zbg hbw1 j
  have Hbw := aK hbw1
  clear hbw1
  have HCg1 := aK ((World.cell?_of_block (w := w) (a := ⟨g, 0, none⟩) (A1.out.wrote.far HHg.out HOg.out (fun _ hp => nomatch hp))).trans HCg.out)
  have HOg1 := aK (fun h => HOg.out (A1.out.own g HHg.out h))
  have HOb1 := aK (fun h => HO.out (A1.out.own b (zad HH.out) h))
  go_wp2
  have HOM := aK (HG.out.own_move (w' := ((w1.setCell ⟨b, j, none⟩ (.slice (some ⟨w1.heap.size, 0, none⟩) N N)).alloc (.cells (madeCells (zao zak).toArray (N * (zak).length)) 66))) A1.out.inv (fun k hk => (Below.heap_alloc _ _ k (by rw [World.size_setCell]; exact HG.out.lt A1.out.inv hk)).trans (Below.heap_setCell _ _ _ _ (fun e => HOb1.out (by have e' : k = b := e; rw [← e']; exact hk)))))
  have HP0 := aK (LoopP.start (F := F) (fs := zak) (s1 := (F.count s (n : Int) ((8 : Nat) : Int)).1) (wL := (w1.setCell ⟨b, j, none⟩ (.slice (some ⟨w1.heap.size, 0, none⟩) N N)).alloc (.cells (madeCells (zao zak).toArray (N * (zak).length)) 66)) (rb := w1.heap.size) (T := 66) (R := List.replicate N (zao zak)) (off := 0) N (HG.out.move A1.out.inv (fun k hk => (Below.heap_alloc _ _ k (by rw [World.size_setCell]; exact HG.out.lt A1.out.inv hk)).trans (Below.heap_setCell _ _ _ _ (fun e => HOb1.out (by have e' : k = b := e; rw [← e']; exact hk)))) (by rw [World.size_alloc, World.size_setCell]; omega)) (fun h => absurd (HG.out.lt A1.out.inv (HOM.out _ h)) (Nat.lt_irrefl _)) (by have := zfo (w1.setCell ⟨b, j, none⟩ (.slice (some ⟨w1.heap.size, 0, none⟩) N N)) (.cells (madeCells (zao zak).toArray (N * (zak).length)) 66); rw [World.size_setCell] at this; exact this) (zib _ rfl N))
  have HCgL := aK (show ((w1.setCell ⟨b, j, none⟩ (.slice (some ⟨w1.heap.size, 0, none⟩) N N)).alloc (.cells (madeCells (zao zak).toArray (N * (zak).length)) 66)).cell? ⟨g, 0, none⟩ = some (.iface F.ty F.v) by
   rw [World.cell?_alloc_past _ _ _ (by rw [World.size_setCell]; exact Nat.lt_of_lt_of_le HHg.out A1.out.wrote.size), World.cell?_setCell_other _ _ _ _ (by simp; intro e; exact absurd e.symm HB.out)]
   exact HCg1.out)
  have HCbL := aK (show ((w1.setCell ⟨b, j, none⟩ (.slice (some ⟨w1.heap.size, 0, none⟩) N N)).alloc (.cells (madeCells (zao zak).toArray (N * (zak).length)) 66)).cell? ⟨b, j, none⟩ = some (.slice (some ⟨w1.heap.size, 0, none⟩) N N) by
   rw [World.cell?_alloc_past _ _ _ (by rw [World.size_setCell]; exact hb1)]
   exact World.cell?_setCell_same _ _ _ cb1)
  have Hne := aK (show g ≠ w1.heap.size from fun e => by have := HHg.out; have := A1.out.wrote.size; omega)
  have Hnb := aK (show b ≠ w1.heap.size from fun e => by omega)
  generalize hWL : (w1.setCell ⟨b, j, none⟩ (.slice (some ⟨w1.heap.size, 0, none⟩) N N)).alloc (.cells (madeCells (zao zak).toArray (N * (zak).length)) 66) = wL at *
  have HWL := aK hWL
  clear hWL HMK cb1 fb1 cb0
  generalize hrb : w1.heap.size = rb at *
  go_loopw [9] (fun i wr => ∃ k : Nat, i = .int .i64 k ∧ k ≤ N ∧ Aside0 (LoopP F zak (F.count s (n : Int) ((8 : Nat) : Int)).1 wL rb 66 0 (List.replicate N (zao zak)) N k wr)) (fun i _ => N - (intOf i).toNat)
  case atStart => exact ⟨0, rfl, by omega, HP0⟩
  case round =>
   clear HP0
   obtain ⟨k, rfl, hk, HP⟩ := hrel
   have hcb : wr.cell? ⟨b, j, none⟩ = some (.slice (some ⟨rb, 0, none⟩) N N) := by
    obtain ⟨sk, D, l, cc, cs', _, _, _, hAt, _⟩ := HP.out
    exact hAt.cell HCbL.out (fun h => HOb1.out (HOM.out _ h)) Hnb.out
   by_cases hlt2 : k < N
   ·have i0 : (0 : Int) ≤ (k : Int) := by omega
    have i2 : (k : Int) < (N : Int) := by omega
    have i3 : (k : Int) < 8 := by omega
    have HCs : Aside0 (Calls Try.prog 64 #[.pointer (some ⟨rb, k * 7, none⟩), .pointer (some ⟨g, 0, none⟩)] wr _) := aK (by
     have := (HP.out.step HG.out (by decide) hlt2 (by simp) (fun r hr => by rw [(List.mem_replicate.1 hr).2]; exact zee _) entx_c (fun h => HOg1.out (HOM.out _ h)) Hne.out HCgL.out (by have := HRo.out; have := A1.out.room; omega))
     rw [Nat.zero_add] at this
     exact this)
    go_wp2_with (go_at_call 64; (with_reducible refine HCs.out.mono ?_); rintro e w2 ⟨rfl, H⟩; have HP2 := aK H; clear H)
    go_roundw
    case rel => exact ⟨k + 1, by go_num, by omega, HP2⟩
    case measure => simp [intOf]; omega
   ·have hkm : k = N := by omega
    have hend : LoopP F zak (F.count s (n : Int) ((8 : Nat) : Int)).1 wL rb 66 0 (List.replicate N (zao zak)) N N wr := by subst hkm; exact HP.out
    have HEnd := aK hend
    clear hend
    have i2 : ¬ (k : Int) < (N : Int) := by omega
    go_wp2
    go_end0
    have hnr := HRn.out
    have hw := HWL.out
    subst hnr
    subst hrb
    refine ListDone.new_ (most := 8) (Z := (zao zak).toArray) (Tr := 66) HG.out HH.out HO.out A1.out HN.out hlt hNM ?_
    first | (rw [hw]; exact HEnd.out) | (subst hw; exact HEnd.out)
def zat : List Fld := [.text 64, .num 0 64, .num 0 512, .flag, .text 1024]
theorem pair_c : RowX 79 zat := by
 intro F hF s w b i g cs T vs hI ho hg hgb cg0 hr hb hv hf
 obtain ⟨v0, vs, rfl⟩ : ∃ v0 r, vs = v0 :: r := by cases vs with | nil => exact hf.elim | cons a r => exact ⟨_, _, rfl⟩
 obtain ⟨⟨x0, rfl⟩, hf⟩ := hf
 obtain ⟨v1, vs, rfl⟩ : ∃ v0 r, vs = v0 :: r := by cases vs with | nil => exact hf.elim | cons a r => exact ⟨_, _, rfl⟩
 obtain ⟨⟨x1, rfl⟩, hf⟩ := hf
 obtain ⟨v2, vs, rfl⟩ : ∃ v0 r, vs = v0 :: r := by cases vs with | nil => exact hf.elim | cons a r => exact ⟨_, _, rfl⟩
 obtain ⟨⟨x2, rfl⟩, hf⟩ := hf
 obtain ⟨v3, vs, rfl⟩ : ∃ v0 r, vs = v0 :: r := by cases vs with | nil => exact hf.elim | cons a r => exact ⟨_, _, rfl⟩
 obtain ⟨⟨x3, rfl⟩, hf⟩ := hf
 obtain ⟨v4, vs, rfl⟩ : ∃ v0 r, vs = v0 :: r := by cases vs with | nil => exact hf.elim | cons a r => exact ⟨_, _, rfl⟩
 obtain ⟨⟨x4, rfl⟩, hf⟩ := hf
 obtain rfl : vs = [] := by cases vs with | nil => rfl | cons a r => exact hf.elim
 have c0 : cs[i]? = some (.string x0) := hv 0 _ rfl
 have c1 : cs[i + 1]? = some (.int .i64 x1) := hv 1 _ rfl
 have c2 : cs[i + 2]? = some (.int .i64 x2) := hv 2 _ rfl
 have c3 : cs[i + 3]? = some (.bool x3) := hv 3 _ rfl
 have c4 : cs[i + 4]? = some (.string x4) := hv 4 _ rfl
 have hmf : ∀ (fn : Fn) (first cap : Array Value) (w : World), (Instr.makeFunc fn first cap).run Try.prog w = .ok (.func fn first cap) w := fun _ _ _ _ => rfl
 have HA2 := hF.ahead 2 "meridian/wire.text" (by decide) rfl
 have HM2 := hF.method 2 "meridian/wire.text" (by decide) rfl
 have HE2 := hF.enter 2 (by decide)
 have A0 := aK (At.start hI ho hb)
 have HR := aK hr
 have HC0 := aK c0
 have HC1 := aK c1
 have HC2 := aK c2
 have HC3 := aK c3
 have HC4 := aK c4
 have HG := aK hF
 have HO := aK hg
 have HB := aK hgb
 have HW := aK cg0
 clear hI ho hr hb hv hf hF c0 c1 c2 c3 c4 hg hgb
 go_enter Try.func79, Try.ntmps79
 have C0 := aK (A0.out.text HG.out (j := i) (n := x0) (by (repeat (first | rw [Array.getElem?_setIfInBounds_ne (by omega)] | rw [zaw (by simp only [List.length_cons, List.length_nil]; omega)])); exact HC0.out) 64 (by have := HR.out; simp only [cost, zbr] at this; (try simp only [cost, zbr]); omega))
 go_wp2
 go_region_held3 (fun W => W.cell? ⟨g, 0, none⟩ = some (.iface F.ty F.v)) (go_keep) (((with_reducible refine C0.out.mono ?_); rintro e w1 ⟨rfl, H⟩; have cg1 := H.cell HW.out HO.out HB.out; have A1 := aK H; clear H))
 have C1 := aK (A1.out.row HG.out (i := i + 1) (vs := [.int .i64 x1, .int .i64 x2, .bool x3, .string x4]) zrl (zdo (by (repeat (first | rw [Array.getElem?_setIfInBounds_ne (by omega)] | rw [zaw (by simp only [List.length_cons, List.length_nil]; omega)])); exact HC1.out) (zdo (by (repeat (first | rw [Array.getElem?_setIfInBounds_ne (by omega)] | rw [zaw (by simp only [List.length_cons, List.length_nil]; omega)])); exact HC2.out) (zdo (by (repeat (first | rw [Array.getElem?_setIfInBounds_ne (by omega)] | rw [zaw (by simp only [List.length_cons, List.length_nil]; omega)])); exact HC3.out) (zdo (by (repeat (first | rw [Array.getElem?_setIfInBounds_ne (by omega)] | rw [zaw (by simp only [List.length_cons, List.length_nil]; omega)])); exact HC4.out) zkn)))) (by simp [fits, Fld.fits, zdm]) (by have := HR.out; simp only [cost, zbr] at this; (try simp only [cost, zbr]); omega))
 go_wp2
 go_region_held3 (fun W => W.cell? ⟨g, 0, none⟩ = some (.iface F.ty F.v)) (go_keep) (((with_reducible refine C1.out.mono ?_); rintro e w2 ⟨rfl, H⟩; have cg2 := H.cell HW.out HO.out HB.out; have A2 := aK H; clear H))
 go_wp2
 go_end0
 exact A2.out.did rfl rfl (by first | rfl | (simp only [cost, zbr]; done) | (simp only [cost, zbr]; omega))
def zau : List Fld := [.num 0 9007199254740992, .num 0 9007199254740992, .num 0 64, .num 0 512]
theorem seen_c : RowX 81 zau := by
 intro F hF s w b i g cs T vs hI ho hg hgb cg0 hr hb hv hf
 obtain ⟨v0, vs, rfl⟩ : ∃ v0 r, vs = v0 :: r := by cases vs with | nil => exact hf.elim | cons a r => exact ⟨_, _, rfl⟩
 obtain ⟨⟨x0, rfl⟩, hf⟩ := hf
 obtain ⟨v1, vs, rfl⟩ : ∃ v0 r, vs = v0 :: r := by cases vs with | nil => exact hf.elim | cons a r => exact ⟨_, _, rfl⟩
 obtain ⟨⟨x1, rfl⟩, hf⟩ := hf
 obtain ⟨v2, vs, rfl⟩ : ∃ v0 r, vs = v0 :: r := by cases vs with | nil => exact hf.elim | cons a r => exact ⟨_, _, rfl⟩
 obtain ⟨⟨x2, rfl⟩, hf⟩ := hf
 obtain ⟨v3, vs, rfl⟩ : ∃ v0 r, vs = v0 :: r := by cases vs with | nil => exact hf.elim | cons a r => exact ⟨_, _, rfl⟩
 obtain ⟨⟨x3, rfl⟩, hf⟩ := hf
 obtain rfl : vs = [] := by cases vs with | nil => rfl | cons a r => exact hf.elim
 have c0 : cs[i]? = some (.int .i64 x0) := hv 0 _ rfl
 have c1 : cs[i + 1]? = some (.int .i64 x1) := hv 1 _ rfl
 have c2 : cs[i + 2]? = some (.int .i64 x2) := hv 2 _ rfl
 have c3 : cs[i + 3]? = some (.int .i64 x3) := hv 3 _ rfl
 have hmf : ∀ (fn : Fn) (first cap : Array Value) (w : World), (Instr.makeFunc fn first cap).run Try.prog w = .ok (.func fn first cap) w := fun _ _ _ _ => rfl
 have HA0 := hF.ahead 0 "meridian/wire.num" (by decide) rfl
 have HM0 := hF.method 0 "meridian/wire.num" (by decide) rfl
 have HE0 := hF.enter 0 (by decide)
 have A0 := aK (At.start hI ho hb)
 have HR := aK hr
 have HC0 := aK c0
 have HC1 := aK c1
 have HC2 := aK c2
 have HC3 := aK c3
 have HG := aK hF
 have HO := aK hg
 have HB := aK hgb
 have HW := aK cg0
 clear hI ho hr hb hv hf hF c0 c1 c2 c3 hg hgb
 go_enter Try.func81, Try.ntmps81
 have C0 := aK (A0.out.num HG.out (j := i) (n := x0) (by (repeat (first | rw [Array.getElem?_setIfInBounds_ne (by omega)] | rw [zaw (by simp only [List.length_cons, List.length_nil]; omega)])); exact HC0.out) (by have := HR.out; simp only [cost, zbr] at this; (try simp only [cost, zbr]); omega) 0 9007199254740992)
 go_wp2
 go_region_held3 (fun W => W.cell? ⟨g, 0, none⟩ = some (.iface F.ty F.v)) (go_keep) (((with_reducible refine C0.out.mono ?_); rintro e w1 ⟨rfl, H⟩; have cg1 := H.cell HW.out HO.out HB.out; have A1 := aK H; clear H))
 have C1 := aK (A1.out.num HG.out (j := i + 1) (n := x1) (by (repeat (first | rw [Array.getElem?_setIfInBounds_ne (by omega)] | rw [zaw (by simp only [List.length_cons, List.length_nil]; omega)])); exact HC1.out) (by have := HR.out; simp only [cost, zbr] at this; (try simp only [cost, zbr]); omega) 0 9007199254740992)
 go_wp2
 go_region_held3 (fun W => W.cell? ⟨g, 0, none⟩ = some (.iface F.ty F.v)) (go_keep) (((with_reducible refine C1.out.mono ?_); rintro e w2 ⟨rfl, H⟩; have cg2 := H.cell HW.out HO.out HB.out; have A2 := aK H; clear H))
 have C2 := aK (A2.out.row HG.out (i := i + 2) (vs := [.int .i64 x2, .int .i64 x3]) zhy (zdo (by (repeat (first | rw [Array.getElem?_setIfInBounds_ne (by omega)] | rw [zaw (by simp only [List.length_cons, List.length_nil]; omega)])); exact HC2.out) (zdo (by (repeat (first | rw [Array.getElem?_setIfInBounds_ne (by omega)] | rw [zaw (by simp only [List.length_cons, List.length_nil]; omega)])); exact HC3.out) zkn)) (by simp [fits, Fld.fits, posF]) (by have := HR.out; simp only [cost, zbr] at this; (try simp only [cost, zbr]); omega))
 go_wp2
 go_region_held3 (fun W => W.cell? ⟨g, 0, none⟩ = some (.iface F.ty F.v)) (go_keep) (((with_reducible refine C2.out.mono ?_); rintro e w3 ⟨rfl, H⟩; have cg3 := H.cell HW.out HO.out HB.out; have A3 := aK H; clear H))
 go_wp2
 go_end0
 exact A3.out.did rfl rfl (by first | rfl | (simp only [cost, zbr]; done) | (simp only [cost, zbr]; omega))
def zaj : List Fld := [.num 0 4, .num 0 512, .flag]
theorem zrm : RowX 69 zaj := by
 intro F hF s w b i g cs T vs hI ho hg hgb cg0 hr hb hv hf
 obtain ⟨v0, vs, rfl⟩ : ∃ v0 r, vs = v0 :: r := by cases vs with | nil => exact hf.elim | cons a r => exact ⟨_, _, rfl⟩
 obtain ⟨⟨x0, rfl⟩, hf⟩ := hf
 obtain ⟨v1, vs, rfl⟩ : ∃ v0 r, vs = v0 :: r := by cases vs with | nil => exact hf.elim | cons a r => exact ⟨_, _, rfl⟩
 obtain ⟨⟨x1, rfl⟩, hf⟩ := hf
 obtain ⟨v2, vs, rfl⟩ : ∃ v0 r, vs = v0 :: r := by cases vs with | nil => exact hf.elim | cons a r => exact ⟨_, _, rfl⟩
 obtain ⟨⟨x2, rfl⟩, hf⟩ := hf
 obtain rfl : vs = [] := by cases vs with | nil => rfl | cons a r => exact hf.elim
 have c0 : cs[i]? = some (.int .i64 x0) := hv 0 _ rfl
 have c1 : cs[i + 1]? = some (.int .i64 x1) := hv 1 _ rfl
 have c2 : cs[i + 2]? = some (.bool x2) := hv 2 _ rfl
 have hmf : ∀ (fn : Fn) (first cap : Array Value) (w : World), (Instr.makeFunc fn first cap).run Try.prog w = .ok (.func fn first cap) w := fun _ _ _ _ => rfl
 have HA1 := hF.ahead 1 "meridian/wire.flag" (by decide) rfl
 have HM1 := hF.method 1 "meridian/wire.flag" (by decide) rfl
 have HE1 := hF.enter 1 (by decide)
 have HA0 := hF.ahead 0 "meridian/wire.num" (by decide) rfl
 have HM0 := hF.method 0 "meridian/wire.num" (by decide) rfl
 have HE0 := hF.enter 0 (by decide)
 have A0 := aK (At.start hI ho hb)
 have HR := aK hr
 have HC0 := aK c0
 have HC1 := aK c1
 have HC2 := aK c2
 have HG := aK hF
 have HO := aK hg
 have HB := aK hgb
 have HW := aK cg0
 clear hI ho hr hb hv hf hF c0 c1 c2 hg hgb
 go_enter Try.func69, Try.ntmps69
 have C0 := aK (A0.out.num HG.out (j := i) (n := x0) (by (repeat (first | rw [Array.getElem?_setIfInBounds_ne (by omega)] | rw [zaw (by simp only [List.length_cons, List.length_nil]; omega)])); exact HC0.out) (by have := HR.out; simp only [cost, zbr] at this; (try simp only [cost, zbr]); omega) 0 4)
 go_wp2
 go_region_held3 (fun W => W.cell? ⟨g, 0, none⟩ = some (.iface F.ty F.v)) (go_keep) (((with_reducible refine C0.out.mono ?_); rintro e w1 ⟨rfl, H⟩; have cg1 := H.cell HW.out HO.out HB.out; have A1 := aK H; clear H))
 have C1 := aK (A1.out.num HG.out (j := i + 1) (n := x1) (by (repeat (first | rw [Array.getElem?_setIfInBounds_ne (by omega)] | rw [zaw (by simp only [List.length_cons, List.length_nil]; omega)])); exact HC1.out) (by have := HR.out; simp only [cost, zbr] at this; (try simp only [cost, zbr]); omega) 0 512)
 go_wp2
 go_region_held3 (fun W => W.cell? ⟨g, 0, none⟩ = some (.iface F.ty F.v)) (go_keep) (((with_reducible refine C1.out.mono ?_); rintro e w2 ⟨rfl, H⟩; have cg2 := H.cell HW.out HO.out HB.out; have A2 := aK H; clear H))
 have C2 := aK (A2.out.flag HG.out (j := i + 2) (n := x2) (by (repeat (first | rw [Array.getElem?_setIfInBounds_ne (by omega)] | rw [zaw (by simp only [List.length_cons, List.length_nil]; omega)])); exact HC2.out) (by have := HR.out; simp only [cost, zbr] at this; (try simp only [cost, zbr]); omega))
 go_wp2
 go_region_held3 (fun W => W.cell? ⟨g, 0, none⟩ = some (.iface F.ty F.v)) (go_keep) (((with_reducible refine C2.out.mono ?_); rintro e w3 ⟨rfl, H⟩; have cg3 := H.cell HW.out HO.out HB.out; have A3 := aK H; clear H))
 go_wp2
 go_end0
 exact A3.out.did rfl rfl (by first | rfl | (simp only [cost, zbr]; done) | (simp only [cost, zbr]; omega))
theorem zero_P : (Try.prog.info? 68).map (fun i => (i.zero, i.size, i.bytes)) = some (some (.agg (zao zat).toArray), (zat).length, 56) := by kernel_rfl
theorem made_P (W : World) (N : Nat) (h : N ≤ 64) : (Instr.makeSlice 25 (.int .i64 (N : Int)) (.int .i64 (N : Int))).run Try.prog W = .ok (.slice (some ⟨W.heap.size, 0, none⟩) N N) (W.alloc (.cells (madeCells (zao zat).toArray (N * (zat).length)) 68)) := by
 obtain ⟨i, hi, hz⟩ := Option.map_eq_some_iff.1 zero_P
 simp only [Prod.mk.injEq] at hz
 obtain ⟨h1, h2, h3⟩ := hz
 have := run_make (P := Try.prog) W 25 68 i _ Try.underlying25 hi h1 .i64 .i64 (N : Int) (N : Int) (by omega) (Int.le_refl _) (by rw [h3]; omega) (by omega)
 rw [h2, Int.toNat_natCast] at this
 exact this
theorem listP_c (F : Form) (hF : F.Good) (s : F.σ) (w : World) (b j g : Nat) (cs : Array Value) (T : TypeId) (A : Option Addr) (c : Nat) (rows : List (List Value)) (hI : F.Inv s w) (ho : ¬ F.own w.heap b) (hg : ¬ F.own w.heap g) (hgb : g ≠ b) (cg : w.cell? ⟨g, 0, none⟩ = some (.iface F.ty F.v))
  (hr : F.room s + (8 + zbd ((F.listR zat s 8 rows).take (F.listM s 8 rows.length))) ≤ cap) (hb : w.heap[b]? = some (.cells cs T (0, 0))) (hc : cs[j]? = some (.slice A rows.length c)) (hL : ListAt w (.slice A rows.length c) (zat).length rows)
  (hsep : ∀ k, arr (.slice A rows.length c) = some k → rows ≠ [] → k ≠ b ∧ ¬ F.own w.heap k ∧ k ≠ g) (hfit : ∀ r, r ∈ rows → fits zat r) (hnl : rows.length ≤ 9223372036854775807) :
  Calls Try.prog 78 #[.iface F.ty F.v, .pointer (some ⟨b, j, none⟩), .int .i64 8, .func (.func 79) #[] #[.pointer (some ⟨g, 0, none⟩)]] w
   (ListDone F s w b j cs T (zat).length (.slice A rows.length c) rows (F.list zat s 8 rows).1 (F.list zat s 8 rows).2 (8 + zbd ((F.listR zat s 8 rows).take (F.listM s 8 rows.length)))) := by
 have hmf : ∀ (fn : Fn) (first cap : Array Value) (w : World), (Instr.makeFunc fn first cap).run Try.prog w = .ok (.func fn first cap) w := fun _ _ _ _ => rfl
 have HA := hF.ahead 3 "meridian/wire.count" (by decide) rfl
 have HM := hF.method 3 "meridian/wire.count" (by decide) rfl
 have HE := hF.enter 3 (by decide)
 obtain ⟨l0, l1⟩ := hF.count_lim s (rows.length : Int) 8 (by omega) (by omega)
 obtain ⟨N, hN⟩ := Int.eq_ofNat_of_zero_le l0
 have HCt := hF.count_c s w.drew (rows.length : Int) 8 (hF.move hI (fun _ _ => rfl) (Nat.le_refl _)) (by omega) (by omega) (by omega)
 rw [hN] at HCt
 have HC := aK HCt
 have HL := aK hL
 have HS := aK hsep
 have HF := aK hfit
 have HR := aK hr
 have HG := aK hF
 have HO := aK ho
 have HOg := aK hg
 have HB := aK hgb
 have HCg := aK cg
 have HH := aK hb
 have HJ := aK hc
 have HN := aK (show (F.count s (rows.length : Int) ((8 : Nat) : Int)).2.toNat = N by rw [show (F.count s (rows.length : Int) ((8 : Nat) : Int)).2 = _ from hN]; rfl)
 have HNI := aK (show (F.count s (rows.length : Int) ((8 : Nat) : Int)).2 = (N : Int) from hN)
 have cb0 : w.cell? ⟨b, j, none⟩ = some (.slice A rows.length c) := (zab hb j).trans hc
 have HCb := aK cb0
 have Hl1 := aK (show N = rows.length ∨ N ≤ 8 by rw [hN] at l1; omega)
 have HHg := aK (World.block_lt_of_cell? w ⟨g, 0, none⟩ cg)
 clear l0 l1 HCt hL hsep hfit hr hF ho hg hgb hb hc hI hN cg
 generalize hn : rows.length = n at *
 have HRn := aK hn
 clear hn
 by_cases z0 : N = 0
 ·subst z0
  have t1 : (decide ((n : Int) < 0)) = false := by simp
  go_enter Try.func78, Try.ntmps78
  go_wp2
  go_region_held3 (fun W => W.cell? ⟨b, j, none⟩ = some (.slice A n c)) (go_keep) (((with_reducible refine HC.out.mono ?_); rintro e w1 ⟨rfl, H⟩; have cb1 := (World.cell?_of_block (w := w) (a := ⟨b, j, none⟩) (H.undrew.wrote.far (zad HH.out) HO.out (fun _ hp => nomatch hp))).trans HCb.out; have A1 := aK (show Stepped F s (F.count s (n : Int) ((8 : Nat) : Int)).1 [] 8 w w1 from H.undrew); clear H))
  go_wp2
  go_loopw [9] (fun i wr => i = .int .i64 0 ∧ wr = w1) (fun i _ => 0)
  case atStart => exact ⟨rfl, rfl⟩
  case round =>
   obtain ⟨rfl, rfl⟩ := hrel
   go_wp2
   go_end0
   have hnr := HRn.out
   subst hnr
   exact ListDone.none_ (most := 8) HH.out HJ.out HO.out HL.out (fun k h1 h2 => ⟨(HS.out k h1 h2).1, (HS.out k h1 h2).2.1⟩) A1.out HNI.out
 by_cases z1 : N ≤ n
 ·have h0 : rows ≠ [] := fun e => by have := HRn.out; rw [e] at this; simp at this; omega
  obtain ⟨a', c', e, hL2, _⟩ := HL.out
  obtain ⟨rb, off, csr, Tr, rfl, hbr, hRI⟩ := hL2 h0
  injection e with e1 e2 e3
  subst e1
  have HSp := aK (HS.out rb rfl h0)
  have Hbr := aK hbr
  have Hcs := aK hRI
  have H0 := aK h0
  clear hL2 h0 e2 e3 hRI hbr
  have t1 : (decide (n < N)) = false := by simp; omega
  have e2 := aK (show F.listR zat s 8 rows = rows by unfold Form.listR; rw [HRn.out, HN.out, if_neg (by omega)])
  have e3 := aK (show F.listM s 8 n = min N 8 by unfold Form.listM; rw [HN.out])
  have hm : min N 8 ≤ rows.length := by rw [HRn.out]; omega
  have HM1 := aK hm
  clear hm
  have HRo := aK (show F.room s + (8 + zbd (rows.take (min N 8))) ≤ cap by have := HR.out; rw [e2.out, e3.out] at this; exact this)
  go_enter Try.func78, Try.ntmps78
  go_wp2
  go_region_held3 (fun W => W.cell? ⟨b, j, none⟩ = some (.slice (some ⟨rb, off, none⟩) n c)) (go_keep) (((with_reducible refine HC.out.mono ?_); rintro e w1 ⟨rfl, H⟩; have cb1 := (World.cell?_of_block (w := w) (a := ⟨b, j, none⟩) (H.undrew.wrote.far (zad HH.out) HO.out (fun _ hp => nomatch hp))).trans HCb.out; have A1 := aK (show Stepped F s (F.count s (n : Int) ((8 : Nat) : Int)).1 [] 8 w w1 from H.undrew); clear H))
  have HP0 := aK (LoopP.start (fs := zat) (R := rows) (off := off) (min N 8) A1.out.inv (fun h => HSp.out.2.1 (A1.out.own rb (zad Hbr.out) h)) ((A1.out.wrote.far (zad Hbr.out) HSp.out.2.1 (fun _ hp => nomatch hp)).trans Hbr.out) Hcs.out)
  have HCg1 := aK ((World.cell?_of_block (w := w) (a := ⟨g, 0, none⟩) (A1.out.wrote.far HHg.out HOg.out (fun _ hp => nomatch hp))).trans HCg.out)
  have HCb1 := aK cb1
  have HOg1 := aK (fun h => HOg.out (A1.out.own g HHg.out h))
  have HOb1 := aK (fun h => HO.out (A1.out.own b (zad HH.out) h))
  go_wp2
  go_loopw [9] (fun i wr => ∃ k : Nat, i = .int .i64 k ∧ k ≤ min N 8 ∧ Aside0 (LoopP F zat (F.count s (n : Int) ((8 : Nat) : Int)).1 w1 rb Tr off rows (min N 8) k wr)) (fun i _ => N - (intOf i).toNat)
  case atStart => exact ⟨0, rfl, by omega, HP0⟩
  case round =>
   clear HP0
   obtain ⟨k, rfl, hk, HP⟩ := hrel
   have hcb : wr.cell? ⟨b, j, none⟩ = some (.slice (some ⟨rb, off, none⟩) n c) := by
    obtain ⟨sk, D, l, cc, cs', _, _, _, hAt, _⟩ := HP.out
    exact hAt.cell HCb1.out HOb1.out (Ne.symm HSp.out.1)
   by_cases hlt : k < min N 8
   ·have i0 : (0 : Int) ≤ (k : Int) := by omega
    have i1 : (k : Int) < (n : Int) := by omega
    have i2 : (k : Int) < (N : Int) := by omega
    have i3 : (k : Int) < 8 := by omega
    have HCs : Aside0 (Calls Try.prog 79 #[.pointer (some ⟨rb, off + k * 5, none⟩), .pointer (some ⟨g, 0, none⟩)] wr _) := aK (HP.out.step HG.out (by decide) hlt HM1.out HF.out pair_c HOg1.out (fun e => (HSp.out.2.2 e.symm)) HCg1.out (by have := HRo.out; have := A1.out.room; omega))
    go_wp2_with (go_at_call 79; (with_reducible refine HCs.out.mono ?_); rintro e w2 ⟨rfl, H⟩; have HP2 := aK H; clear H)
    go_roundw
    case rel => exact ⟨k + 1, by go_num, by omega, HP2⟩
    case measure => simp [intOf]; omega
   ·have hkm : k = min N 8 := by omega
    have hend : LoopP F zat (F.count s (n : Int) ((8 : Nat) : Int)).1 w1 rb Tr off rows (min N 8) (min N 8) wr := hkm ▸ HP.out
    have HEnd := aK hend
    clear hend
    by_cases hlt2 : k < N
    ·have i2 : (k : Int) < (N : Int) := by omega
     have i3 : ¬ (k : Int) < 8 := by omega
     go_wp2
     go_end0
     have hnr := HRn.out
     subst hnr
     exact ListDone.old (most := 8) HH.out HJ.out HO.out H0.out HSp.out.1 HSp.out.2.1 rfl (zad Hbr.out) A1.out (by rw [HN.out]; exact z1) (by rw [e3.out]; exact HEnd.out)
    ·have i2 : ¬ (k : Int) < (N : Int) := by omega
     go_wp2
     go_end0
     have hnr := HRn.out
     subst hnr
     exact ListDone.old (most := 8) HH.out HJ.out HO.out H0.out HSp.out.1 HSp.out.2.1 rfl (zad Hbr.out) A1.out (by rw [HN.out]; exact z1) (by rw [e3.out]; exact HEnd.out)
 ·have hlt : n < N := by omega
  have t1 : (decide ((n : Int) < (N : Int))) = true := by simp; omega
  have hNM : N ≤ 8 := by have := Hl1.out; omega
  have e2 := aK (show F.listR zat s 8 rows = List.replicate N (zao zat) by unfold Form.listR; rw [HRn.out, HN.out, if_pos hlt])
  have e3 := aK (show F.listM s 8 n = N by unfold Form.listM; rw [HN.out]; omega)
  have HRo := aK (show F.room s + (8 + zbd ((List.replicate N (zao zat)).take N)) ≤ cap by have := HR.out; rw [e2.out, e3.out] at this; exact this)
  have HMK := fun W => made_P W N (by omega)
  have HBl := aK (zad HH.out)
  go_enter Try.func78, Try.ntmps78
  go_wp2
  go_region_held3 (fun W => W.cell? ⟨b, j, none⟩ = some (.slice A n c)) (go_keep) (((with_reducible refine HC.out.mono ?_); rintro e w1 ⟨rfl, H⟩; have hbw1 := (H.undrew.wrote.far (zad HH.out) HO.out (fun _ hp => nomatch hp)).trans HH.out; have cb1 := (World.cell?_of_block (w := w) (a := ⟨b, j, none⟩) (H.undrew.wrote.far (zad HH.out) HO.out (fun _ hp => nomatch hp))).trans HCb.out; have A1 := aK (show Stepped F s (F.count s (n : Int) ((8 : Nat) : Int)).1 [] 8 w w1 from H.undrew); clear H))
  have hb1 : b < w1.heap.size := Nat.lt_of_lt_of_le HBl.out A1.out.wrote.size
  have fb1 := zbg hbw1 j
  have Hbw := aK hbw1
  clear hbw1
  have HCg1 := aK ((World.cell?_of_block (w := w) (a := ⟨g, 0, none⟩) (A1.out.wrote.far HHg.out HOg.out (fun _ hp => nomatch hp))).trans HCg.out)
  have HOg1 := aK (fun h => HOg.out (A1.out.own g HHg.out h))
  have HOb1 := aK (fun h => HO.out (A1.out.own b (zad HH.out) h))
  go_wp2
  have HOM := aK (HG.out.own_move (w' := ((w1.setCell ⟨b, j, none⟩ (.slice (some ⟨w1.heap.size, 0, none⟩) N N)).alloc (.cells (madeCells (zao zat).toArray (N * (zat).length)) 68))) A1.out.inv (fun k hk => (Below.heap_alloc _ _ k (by rw [World.size_setCell]; exact HG.out.lt A1.out.inv hk)).trans (Below.heap_setCell _ _ _ _ (fun e => HOb1.out (by have e' : k = b := e; rw [← e']; exact hk)))))
  have HP0 := aK (LoopP.start (F := F) (fs := zat) (s1 := (F.count s (n : Int) ((8 : Nat) : Int)).1) (wL := (w1.setCell ⟨b, j, none⟩ (.slice (some ⟨w1.heap.size, 0, none⟩) N N)).alloc (.cells (madeCells (zao zat).toArray (N * (zat).length)) 68)) (rb := w1.heap.size) (T := 68) (R := List.replicate N (zao zat)) (off := 0) N (HG.out.move A1.out.inv (fun k hk => (Below.heap_alloc _ _ k (by rw [World.size_setCell]; exact HG.out.lt A1.out.inv hk)).trans (Below.heap_setCell _ _ _ _ (fun e => HOb1.out (by have e' : k = b := e; rw [← e']; exact hk)))) (by rw [World.size_alloc, World.size_setCell]; omega)) (fun h => absurd (HG.out.lt A1.out.inv (HOM.out _ h)) (Nat.lt_irrefl _)) (by have := zfo (w1.setCell ⟨b, j, none⟩ (.slice (some ⟨w1.heap.size, 0, none⟩) N N)) (.cells (madeCells (zao zat).toArray (N * (zat).length)) 68); rw [World.size_setCell] at this; exact this) (zib _ rfl N))
  have HCgL := aK (show ((w1.setCell ⟨b, j, none⟩ (.slice (some ⟨w1.heap.size, 0, none⟩) N N)).alloc (.cells (madeCells (zao zat).toArray (N * (zat).length)) 68)).cell? ⟨g, 0, none⟩ = some (.iface F.ty F.v) by
   rw [World.cell?_alloc_past _ _ _ (by rw [World.size_setCell]; exact Nat.lt_of_lt_of_le HHg.out A1.out.wrote.size), World.cell?_setCell_other _ _ _ _ (by simp; intro e; exact absurd e.symm HB.out)]
   exact HCg1.out)
  have HCbL := aK (show ((w1.setCell ⟨b, j, none⟩ (.slice (some ⟨w1.heap.size, 0, none⟩) N N)).alloc (.cells (madeCells (zao zat).toArray (N * (zat).length)) 68)).cell? ⟨b, j, none⟩ = some (.slice (some ⟨w1.heap.size, 0, none⟩) N N) by
   rw [World.cell?_alloc_past _ _ _ (by rw [World.size_setCell]; exact hb1)]
   exact World.cell?_setCell_same _ _ _ cb1)
  have Hne := aK (show g ≠ w1.heap.size from fun e => by have := HHg.out; have := A1.out.wrote.size; omega)
  have Hnb := aK (show b ≠ w1.heap.size from fun e => by omega)
  generalize hWL : (w1.setCell ⟨b, j, none⟩ (.slice (some ⟨w1.heap.size, 0, none⟩) N N)).alloc (.cells (madeCells (zao zat).toArray (N * (zat).length)) 68) = wL at *
  have HWL := aK hWL
  clear hWL HMK cb1 fb1 cb0
  generalize hrb : w1.heap.size = rb at *
  go_loopw [9] (fun i wr => ∃ k : Nat, i = .int .i64 k ∧ k ≤ N ∧ Aside0 (LoopP F zat (F.count s (n : Int) ((8 : Nat) : Int)).1 wL rb 68 0 (List.replicate N (zao zat)) N k wr)) (fun i _ => N - (intOf i).toNat)
  case atStart => exact ⟨0, rfl, by omega, HP0⟩
  case round =>
   clear HP0
   obtain ⟨k, rfl, hk, HP⟩ := hrel
   have hcb : wr.cell? ⟨b, j, none⟩ = some (.slice (some ⟨rb, 0, none⟩) N N) := by
    obtain ⟨sk, D, l, cc, cs', _, _, _, hAt, _⟩ := HP.out
    exact hAt.cell HCbL.out (fun h => HOb1.out (HOM.out _ h)) Hnb.out
   by_cases hlt2 : k < N
   ·have i0 : (0 : Int) ≤ (k : Int) := by omega
    have i2 : (k : Int) < (N : Int) := by omega
    have i3 : (k : Int) < 8 := by omega
    have HCs : Aside0 (Calls Try.prog 79 #[.pointer (some ⟨rb, k * 5, none⟩), .pointer (some ⟨g, 0, none⟩)] wr _) := aK (by
     have := (HP.out.step HG.out (by decide) hlt2 (by simp) (fun r hr => by rw [(List.mem_replicate.1 hr).2]; exact zee _) pair_c (fun h => HOg1.out (HOM.out _ h)) Hne.out HCgL.out (by have := HRo.out; have := A1.out.room; omega))
     rw [Nat.zero_add] at this
     exact this)
    go_wp2_with (go_at_call 79; (with_reducible refine HCs.out.mono ?_); rintro e w2 ⟨rfl, H⟩; have HP2 := aK H; clear H)
    go_roundw
    case rel => exact ⟨k + 1, by go_num, by omega, HP2⟩
    case measure => simp [intOf]; omega
   ·have hkm : k = N := by omega
    have hend : LoopP F zat (F.count s (n : Int) ((8 : Nat) : Int)).1 wL rb 68 0 (List.replicate N (zao zat)) N N wr := by subst hkm; exact HP.out
    have HEnd := aK hend
    clear hend
    have i2 : ¬ (k : Int) < (N : Int) := by omega
    go_wp2
    go_end0
    have hnr := HRn.out
    have hw := HWL.out
    subst hnr
    subst hrb
    refine ListDone.new_ (most := 8) (Z := (zao zat).toArray) (Tr := 68) HG.out HH.out HO.out A1.out HN.out hlt hNM ?_
    first | (rw [hw]; exact HEnd.out) | (subst hw; exact HEnd.out)
theorem zero_S : (Try.prog.info? 70).map (fun i => (i.zero, i.size, i.bytes)) = some (some (.agg (zao zau).toArray), (zau).length, 32) := by kernel_rfl
theorem made_S (W : World) (N : Nat) (h : N ≤ 64) : (Instr.makeSlice 26 (.int .i64 (N : Int)) (.int .i64 (N : Int))).run Try.prog W = .ok (.slice (some ⟨W.heap.size, 0, none⟩) N N) (W.alloc (.cells (madeCells (zao zau).toArray (N * (zau).length)) 70)) := by
 obtain ⟨i, hi, hz⟩ := Option.map_eq_some_iff.1 zero_S
 simp only [Prod.mk.injEq] at hz
 obtain ⟨h1, h2, h3⟩ := hz
 have := run_make (P := Try.prog) W 26 70 i _ Try.underlying26 hi h1 .i64 .i64 (N : Int) (N : Int) (by omega) (Int.le_refl _) (by rw [h3]; omega) (by omega)
 rw [h2, Int.toNat_natCast] at this
 exact this
theorem listS_c (F : Form) (hF : F.Good) (s : F.σ) (w : World) (b j g : Nat) (cs : Array Value) (T : TypeId) (A : Option Addr) (c : Nat) (rows : List (List Value)) (hI : F.Inv s w) (ho : ¬ F.own w.heap b) (hg : ¬ F.own w.heap g) (hgb : g ≠ b) (cg : w.cell? ⟨g, 0, none⟩ = some (.iface F.ty F.v))
  (hr : F.room s + (8 + zbd ((F.listR zau s 8 rows).take (F.listM s 8 rows.length))) ≤ cap) (hb : w.heap[b]? = some (.cells cs T (0, 0))) (hc : cs[j]? = some (.slice A rows.length c)) (hL : ListAt w (.slice A rows.length c) (zau).length rows)
  (hsep : ∀ k, arr (.slice A rows.length c) = some k → rows ≠ [] → k ≠ b ∧ ¬ F.own w.heap k ∧ k ≠ g) (hfit : ∀ r, r ∈ rows → fits zau r) (hnl : rows.length ≤ 9223372036854775807) :
  Calls Try.prog 80 #[.iface F.ty F.v, .pointer (some ⟨b, j, none⟩), .int .i64 8, .func (.func 81) #[] #[.pointer (some ⟨g, 0, none⟩)]] w
   (ListDone F s w b j cs T (zau).length (.slice A rows.length c) rows (F.list zau s 8 rows).1 (F.list zau s 8 rows).2 (8 + zbd ((F.listR zau s 8 rows).take (F.listM s 8 rows.length)))) := by
 have hmf : ∀ (fn : Fn) (first cap : Array Value) (w : World), (Instr.makeFunc fn first cap).run Try.prog w = .ok (.func fn first cap) w := fun _ _ _ _ => rfl
 have HA := hF.ahead 3 "meridian/wire.count" (by decide) rfl
 have HM := hF.method 3 "meridian/wire.count" (by decide) rfl
 have HE := hF.enter 3 (by decide)
 obtain ⟨l0, l1⟩ := hF.count_lim s (rows.length : Int) 8 (by omega) (by omega)
 obtain ⟨N, hN⟩ := Int.eq_ofNat_of_zero_le l0
 have HCt := hF.count_c s w.drew (rows.length : Int) 8 (hF.move hI (fun _ _ => rfl) (Nat.le_refl _)) (by omega) (by omega) (by omega)
 rw [hN] at HCt
 have HC := aK HCt
 have HL := aK hL
 have HS := aK hsep
 have HF := aK hfit
 have HR := aK hr
 have HG := aK hF
 have HO := aK ho
 have HOg := aK hg
 have HB := aK hgb
 have HCg := aK cg
 have HH := aK hb
 have HJ := aK hc
 have HN := aK (show (F.count s (rows.length : Int) ((8 : Nat) : Int)).2.toNat = N by rw [show (F.count s (rows.length : Int) ((8 : Nat) : Int)).2 = _ from hN]; rfl)
 have HNI := aK (show (F.count s (rows.length : Int) ((8 : Nat) : Int)).2 = (N : Int) from hN)
 have cb0 : w.cell? ⟨b, j, none⟩ = some (.slice A rows.length c) := (zab hb j).trans hc
 have HCb := aK cb0
 have Hl1 := aK (show N = rows.length ∨ N ≤ 8 by rw [hN] at l1; omega)
 have HHg := aK (World.block_lt_of_cell? w ⟨g, 0, none⟩ cg)
 clear l0 l1 HCt hL hsep hfit hr hF ho hg hgb hb hc hI hN cg
 generalize hn : rows.length = n at *
 have HRn := aK hn
 clear hn
 by_cases z0 : N = 0
 ·subst z0
  have t1 : (decide ((n : Int) < 0)) = false := by simp
  go_enter Try.func80, Try.ntmps80
  go_wp2
  go_region_held3 (fun W => W.cell? ⟨b, j, none⟩ = some (.slice A n c)) (go_keep) (((with_reducible refine HC.out.mono ?_); rintro e w1 ⟨rfl, H⟩; have cb1 := (World.cell?_of_block (w := w) (a := ⟨b, j, none⟩) (H.undrew.wrote.far (zad HH.out) HO.out (fun _ hp => nomatch hp))).trans HCb.out; have A1 := aK (show Stepped F s (F.count s (n : Int) ((8 : Nat) : Int)).1 [] 8 w w1 from H.undrew); clear H))
  go_wp2
  go_loopw [9] (fun i wr => i = .int .i64 0 ∧ wr = w1) (fun i _ => 0)
  case atStart => exact ⟨rfl, rfl⟩
  case round =>
   obtain ⟨rfl, rfl⟩ := hrel
   go_wp2
   go_end0
   have hnr := HRn.out
   subst hnr
   exact ListDone.none_ (most := 8) HH.out HJ.out HO.out HL.out (fun k h1 h2 => ⟨(HS.out k h1 h2).1, (HS.out k h1 h2).2.1⟩) A1.out HNI.out
 by_cases z1 : N ≤ n
 ·have h0 : rows ≠ [] := fun e => by have := HRn.out; rw [e] at this; simp at this; omega
  obtain ⟨a', c', e, hL2, _⟩ := HL.out
  obtain ⟨rb, off, csr, Tr, rfl, hbr, hRI⟩ := hL2 h0
  injection e with e1 e2 e3
  subst e1
  have HSp := aK (HS.out rb rfl h0)
  have Hbr := aK hbr
  have Hcs := aK hRI
  have H0 := aK h0
  clear hL2 h0 e2 e3 hRI hbr
  have t1 : (decide (n < N)) = false := by simp; omega
  have e2 := aK (show F.listR zau s 8 rows = rows by unfold Form.listR; rw [HRn.out, HN.out, if_neg (by omega)])
  have e3 := aK (show F.listM s 8 n = min N 8 by unfold Form.listM; rw [HN.out])
  have hm : min N 8 ≤ rows.length := by rw [HRn.out]; omega
  have HM1 := aK hm
  clear hm
  have HRo := aK (show F.room s + (8 + zbd (rows.take (min N 8))) ≤ cap by have := HR.out; rw [e2.out, e3.out] at this; exact this)
  go_enter Try.func80, Try.ntmps80
  go_wp2
  go_region_held3 (fun W => W.cell? ⟨b, j, none⟩ = some (.slice (some ⟨rb, off, none⟩) n c)) (go_keep) (((with_reducible refine HC.out.mono ?_); rintro e w1 ⟨rfl, H⟩; have cb1 := (World.cell?_of_block (w := w) (a := ⟨b, j, none⟩) (H.undrew.wrote.far (zad HH.out) HO.out (fun _ hp => nomatch hp))).trans HCb.out; have A1 := aK (show Stepped F s (F.count s (n : Int) ((8 : Nat) : Int)).1 [] 8 w w1 from H.undrew); clear H))
  have HP0 := aK (LoopP.start (fs := zau) (R := rows) (off := off) (min N 8) A1.out.inv (fun h => HSp.out.2.1 (A1.out.own rb (zad Hbr.out) h)) ((A1.out.wrote.far (zad Hbr.out) HSp.out.2.1 (fun _ hp => nomatch hp)).trans Hbr.out) Hcs.out)
  have HCg1 := aK ((World.cell?_of_block (w := w) (a := ⟨g, 0, none⟩) (A1.out.wrote.far HHg.out HOg.out (fun _ hp => nomatch hp))).trans HCg.out)
  have HCb1 := aK cb1
  have HOg1 := aK (fun h => HOg.out (A1.out.own g HHg.out h))
  have HOb1 := aK (fun h => HO.out (A1.out.own b (zad HH.out) h))
  go_wp2
  go_loopw [9] (fun i wr => ∃ k : Nat, i = .int .i64 k ∧ k ≤ min N 8 ∧ Aside0 (LoopP F zau (F.count s (n : Int) ((8 : Nat) : Int)).1 w1 rb Tr off rows (min N 8) k wr)) (fun i _ => N - (intOf i).toNat)
  case atStart => exact ⟨0, rfl, by omega, HP0⟩
  case round =>
   clear HP0
   obtain ⟨k, rfl, hk, HP⟩ := hrel
   have hcb : wr.cell? ⟨b, j, none⟩ = some (.slice (some ⟨rb, off, none⟩) n c) := by
    obtain ⟨sk, D, l, cc, cs', _, _, _, hAt, _⟩ := HP.out
    exact hAt.cell HCb1.out HOb1.out (Ne.symm HSp.out.1)
   by_cases hlt : k < min N 8
   ·have i0 : (0 : Int) ≤ (k : Int) := by omega
    have i1 : (k : Int) < (n : Int) := by omega
    have i2 : (k : Int) < (N : Int) := by omega
    have i3 : (k : Int) < 8 := by omega
    have HCs : Aside0 (Calls Try.prog 81 #[.pointer (some ⟨rb, off + k * 4, none⟩), .pointer (some ⟨g, 0, none⟩)] wr _) := aK (HP.out.step HG.out (by decide) hlt HM1.out HF.out seen_c HOg1.out (fun e => (HSp.out.2.2 e.symm)) HCg1.out (by have := HRo.out; have := A1.out.room; omega))
    go_wp2_with (go_at_call 81; (with_reducible refine HCs.out.mono ?_); rintro e w2 ⟨rfl, H⟩; have HP2 := aK H; clear H)
    go_roundw
    case rel => exact ⟨k + 1, by go_num, by omega, HP2⟩
    case measure => simp [intOf]; omega
   ·have hkm : k = min N 8 := by omega
    have hend : LoopP F zau (F.count s (n : Int) ((8 : Nat) : Int)).1 w1 rb Tr off rows (min N 8) (min N 8) wr := hkm ▸ HP.out
    have HEnd := aK hend
    clear hend
    by_cases hlt2 : k < N
    ·have i2 : (k : Int) < (N : Int) := by omega
     have i3 : ¬ (k : Int) < 8 := by omega
     go_wp2
     go_end0
     have hnr := HRn.out
     subst hnr
     exact ListDone.old (most := 8) HH.out HJ.out HO.out H0.out HSp.out.1 HSp.out.2.1 rfl (zad Hbr.out) A1.out (by rw [HN.out]; exact z1) (by rw [e3.out]; exact HEnd.out)
    ·have i2 : ¬ (k : Int) < (N : Int) := by omega
     go_wp2
     go_end0
     have hnr := HRn.out
     subst hnr
     exact ListDone.old (most := 8) HH.out HJ.out HO.out H0.out HSp.out.1 HSp.out.2.1 rfl (zad Hbr.out) A1.out (by rw [HN.out]; exact z1) (by rw [e3.out]; exact HEnd.out)
 ·have hlt : n < N := by omega
  have t1 : (decide ((n : Int) < (N : Int))) = true := by simp; omega
  have hNM : N ≤ 8 := by have := Hl1.out; omega
  have e2 := aK (show F.listR zau s 8 rows = List.replicate N (zao zau) by unfold Form.listR; rw [HRn.out, HN.out, if_pos hlt])
  have e3 := aK (show F.listM s 8 n = N by unfold Form.listM; rw [HN.out]; omega)
  have HRo := aK (show F.room s + (8 + zbd ((List.replicate N (zao zau)).take N)) ≤ cap by have := HR.out; rw [e2.out, e3.out] at this; exact this)
  have HMK := fun W => made_S W N (by omega)
  have HBl := aK (zad HH.out)
  go_enter Try.func80, Try.ntmps80
  go_wp2
  go_region_held3 (fun W => W.cell? ⟨b, j, none⟩ = some (.slice A n c)) (go_keep) (((with_reducible refine HC.out.mono ?_); rintro e w1 ⟨rfl, H⟩; have hbw1 := (H.undrew.wrote.far (zad HH.out) HO.out (fun _ hp => nomatch hp)).trans HH.out; have cb1 := (World.cell?_of_block (w := w) (a := ⟨b, j, none⟩) (H.undrew.wrote.far (zad HH.out) HO.out (fun _ hp => nomatch hp))).trans HCb.out; have A1 := aK (show Stepped F s (F.count s (n : Int) ((8 : Nat) : Int)).1 [] 8 w w1 from H.undrew); clear H))
  have hb1 : b < w1.heap.size := Nat.lt_of_lt_of_le HBl.out A1.out.wrote.size
  have fb1 := zbg hbw1 j
  have Hbw := aK hbw1
  clear hbw1
  have HCg1 := aK ((World.cell?_of_block (w := w) (a := ⟨g, 0, none⟩) (A1.out.wrote.far HHg.out HOg.out (fun _ hp => nomatch hp))).trans HCg.out)
  have HOg1 := aK (fun h => HOg.out (A1.out.own g HHg.out h))
  have HOb1 := aK (fun h => HO.out (A1.out.own b (zad HH.out) h))
  go_wp2
  have HOM := aK (HG.out.own_move (w' := ((w1.setCell ⟨b, j, none⟩ (.slice (some ⟨w1.heap.size, 0, none⟩) N N)).alloc (.cells (madeCells (zao zau).toArray (N * (zau).length)) 70))) A1.out.inv (fun k hk => (Below.heap_alloc _ _ k (by rw [World.size_setCell]; exact HG.out.lt A1.out.inv hk)).trans (Below.heap_setCell _ _ _ _ (fun e => HOb1.out (by have e' : k = b := e; rw [← e']; exact hk)))))
  have HP0 := aK (LoopP.start (F := F) (fs := zau) (s1 := (F.count s (n : Int) ((8 : Nat) : Int)).1) (wL := (w1.setCell ⟨b, j, none⟩ (.slice (some ⟨w1.heap.size, 0, none⟩) N N)).alloc (.cells (madeCells (zao zau).toArray (N * (zau).length)) 70)) (rb := w1.heap.size) (T := 70) (R := List.replicate N (zao zau)) (off := 0) N (HG.out.move A1.out.inv (fun k hk => (Below.heap_alloc _ _ k (by rw [World.size_setCell]; exact HG.out.lt A1.out.inv hk)).trans (Below.heap_setCell _ _ _ _ (fun e => HOb1.out (by have e' : k = b := e; rw [← e']; exact hk)))) (by rw [World.size_alloc, World.size_setCell]; omega)) (fun h => absurd (HG.out.lt A1.out.inv (HOM.out _ h)) (Nat.lt_irrefl _)) (by have := zfo (w1.setCell ⟨b, j, none⟩ (.slice (some ⟨w1.heap.size, 0, none⟩) N N)) (.cells (madeCells (zao zau).toArray (N * (zau).length)) 70); rw [World.size_setCell] at this; exact this) (zib _ rfl N))
  have HCgL := aK (show ((w1.setCell ⟨b, j, none⟩ (.slice (some ⟨w1.heap.size, 0, none⟩) N N)).alloc (.cells (madeCells (zao zau).toArray (N * (zau).length)) 70)).cell? ⟨g, 0, none⟩ = some (.iface F.ty F.v) by
   rw [World.cell?_alloc_past _ _ _ (by rw [World.size_setCell]; exact Nat.lt_of_lt_of_le HHg.out A1.out.wrote.size), World.cell?_setCell_other _ _ _ _ (by simp; intro e; exact absurd e.symm HB.out)]
   exact HCg1.out)
  have HCbL := aK (show ((w1.setCell ⟨b, j, none⟩ (.slice (some ⟨w1.heap.size, 0, none⟩) N N)).alloc (.cells (madeCells (zao zau).toArray (N * (zau).length)) 70)).cell? ⟨b, j, none⟩ = some (.slice (some ⟨w1.heap.size, 0, none⟩) N N) by
   rw [World.cell?_alloc_past _ _ _ (by rw [World.size_setCell]; exact hb1)]
   exact World.cell?_setCell_same _ _ _ cb1)
  have Hne := aK (show g ≠ w1.heap.size from fun e => by have := HHg.out; have := A1.out.wrote.size; omega)
  have Hnb := aK (show b ≠ w1.heap.size from fun e => by omega)
  generalize hWL : (w1.setCell ⟨b, j, none⟩ (.slice (some ⟨w1.heap.size, 0, none⟩) N N)).alloc (.cells (madeCells (zao zau).toArray (N * (zau).length)) 70) = wL at *
  have HWL := aK hWL
  clear hWL HMK cb1 fb1 cb0
  generalize hrb : w1.heap.size = rb at *
  go_loopw [9] (fun i wr => ∃ k : Nat, i = .int .i64 k ∧ k ≤ N ∧ Aside0 (LoopP F zau (F.count s (n : Int) ((8 : Nat) : Int)).1 wL rb 70 0 (List.replicate N (zao zau)) N k wr)) (fun i _ => N - (intOf i).toNat)
  case atStart => exact ⟨0, rfl, by omega, HP0⟩
  case round =>
   clear HP0
   obtain ⟨k, rfl, hk, HP⟩ := hrel
   have hcb : wr.cell? ⟨b, j, none⟩ = some (.slice (some ⟨rb, 0, none⟩) N N) := by
    obtain ⟨sk, D, l, cc, cs', _, _, _, hAt, _⟩ := HP.out
    exact hAt.cell HCbL.out (fun h => HOb1.out (HOM.out _ h)) Hnb.out
   by_cases hlt2 : k < N
   ·have i0 : (0 : Int) ≤ (k : Int) := by omega
    have i2 : (k : Int) < (N : Int) := by omega
    have i3 : (k : Int) < 8 := by omega
    have HCs : Aside0 (Calls Try.prog 81 #[.pointer (some ⟨rb, k * 4, none⟩), .pointer (some ⟨g, 0, none⟩)] wr _) := aK (by
     have := (HP.out.step HG.out (by decide) hlt2 (by simp) (fun r hr => by rw [(List.mem_replicate.1 hr).2]; exact zee _) seen_c (fun h => HOg1.out (HOM.out _ h)) Hne.out HCgL.out (by have := HRo.out; have := A1.out.room; omega))
     rw [Nat.zero_add] at this
     exact this)
    go_wp2_with (go_at_call 81; (with_reducible refine HCs.out.mono ?_); rintro e w2 ⟨rfl, H⟩; have HP2 := aK H; clear H)
    go_roundw
    case rel => exact ⟨k + 1, by go_num, by omega, HP2⟩
    case measure => simp [intOf]; omega
   ·have hkm : k = N := by omega
    have hend : LoopP F zau (F.count s (n : Int) ((8 : Nat) : Int)).1 wL rb 70 0 (List.replicate N (zao zau)) N N wr := by subst hkm; exact HP.out
    have HEnd := aK hend
    clear hend
    have i2 : ¬ (k : Int) < (N : Int) := by omega
    go_wp2
    go_end0
    have hnr := HRn.out
    have hw := HWL.out
    subst hnr
    subst hrb
    refine ListDone.new_ (most := 8) (Z := (zao zau).toArray) (Tr := 70) HG.out HH.out HO.out A1.out HN.out hlt hNM ?_
    first | (rw [hw]; exact HEnd.out) | (subst hw; exact HEnd.out)
theorem zero_T : (Try.prog.info? 72).map (fun i => (i.zero, i.size, i.bytes)) = some (some (.agg (zao zaj).toArray), (zaj).length, 24) := by kernel_rfl
theorem made_T (W : World) (N : Nat) (h : N ≤ 64) : (Instr.makeSlice 27 (.int .i64 (N : Int)) (.int .i64 (N : Int))).run Try.prog W = .ok (.slice (some ⟨W.heap.size, 0, none⟩) N N) (W.alloc (.cells (madeCells (zao zaj).toArray (N * (zaj).length)) 72)) := by
 obtain ⟨i, hi, hz⟩ := Option.map_eq_some_iff.1 zero_T
 simp only [Prod.mk.injEq] at hz
 obtain ⟨h1, h2, h3⟩ := hz
 have := run_make (P := Try.prog) W 27 72 i _ Try.underlying27 hi h1 .i64 .i64 (N : Int) (N : Int) (by omega) (Int.le_refl _) (by rw [h3]; omega) (by omega)
 rw [h2, Int.toNat_natCast] at this
 exact this
theorem listT_c (F : Form) (hF : F.Good) (s : F.σ) (w : World) (b j g : Nat) (cs : Array Value) (T : TypeId) (A : Option Addr) (c : Nat) (rows : List (List Value)) (hI : F.Inv s w) (ho : ¬ F.own w.heap b) (hg : ¬ F.own w.heap g) (hgb : g ≠ b) (cg : w.cell? ⟨g, 0, none⟩ = some (.iface F.ty F.v))
  (hr : F.room s + (8 + zbd ((F.listR zaj s 64 rows).take (F.listM s 64 rows.length))) ≤ cap) (hb : w.heap[b]? = some (.cells cs T (0, 0))) (hc : cs[j]? = some (.slice A rows.length c)) (hL : ListAt w (.slice A rows.length c) (zaj).length rows)
  (hsep : ∀ k, arr (.slice A rows.length c) = some k → rows ≠ [] → k ≠ b ∧ ¬ F.own w.heap k ∧ k ≠ g) (hfit : ∀ r, r ∈ rows → fits zaj r) (hnl : rows.length ≤ 9223372036854775807) :
  Calls Try.prog 68 #[.iface F.ty F.v, .pointer (some ⟨b, j, none⟩), .int .i64 64, .func (.func 69) #[] #[.pointer (some ⟨g, 0, none⟩)]] w
   (ListDone F s w b j cs T (zaj).length (.slice A rows.length c) rows (F.list zaj s 64 rows).1 (F.list zaj s 64 rows).2 (8 + zbd ((F.listR zaj s 64 rows).take (F.listM s 64 rows.length)))) := by
 have hmf : ∀ (fn : Fn) (first cap : Array Value) (w : World), (Instr.makeFunc fn first cap).run Try.prog w = .ok (.func fn first cap) w := fun _ _ _ _ => rfl
 have HA := hF.ahead 3 "meridian/wire.count" (by decide) rfl
 have HM := hF.method 3 "meridian/wire.count" (by decide) rfl
 have HE := hF.enter 3 (by decide)
 obtain ⟨l0, l1⟩ := hF.count_lim s (rows.length : Int) 64 (by omega) (by omega)
 obtain ⟨N, hN⟩ := Int.eq_ofNat_of_zero_le l0
 have HCt := hF.count_c s w.drew (rows.length : Int) 64 (hF.move hI (fun _ _ => rfl) (Nat.le_refl _)) (by omega) (by omega) (by omega)
 rw [hN] at HCt
 have HC := aK HCt
 have HL := aK hL
 have HS := aK hsep
 have HF := aK hfit
 have HR := aK hr
 have HG := aK hF
 have HO := aK ho
 have HOg := aK hg
 have HB := aK hgb
 have HCg := aK cg
 have HH := aK hb
 have HJ := aK hc
 have HN := aK (show (F.count s (rows.length : Int) ((64 : Nat) : Int)).2.toNat = N by rw [show (F.count s (rows.length : Int) ((64 : Nat) : Int)).2 = _ from hN]; rfl)
 have HNI := aK (show (F.count s (rows.length : Int) ((64 : Nat) : Int)).2 = (N : Int) from hN)
 have cb0 : w.cell? ⟨b, j, none⟩ = some (.slice A rows.length c) := (zab hb j).trans hc
 have HCb := aK cb0
 have Hl1 := aK (show N = rows.length ∨ N ≤ 64 by rw [hN] at l1; omega)
 have HHg := aK (World.block_lt_of_cell? w ⟨g, 0, none⟩ cg)
 clear l0 l1 HCt hL hsep hfit hr hF ho hg hgb hb hc hI hN cg
 generalize hn : rows.length = n at *
 have HRn := aK hn
 clear hn
 by_cases z0 : N = 0
 ·subst z0
  have t1 : (decide ((n : Int) < 0)) = false := by simp
  go_enter Try.func68, Try.ntmps68
  go_wp2
  go_region_held3 (fun W => W.cell? ⟨b, j, none⟩ = some (.slice A n c)) (go_keep) (((with_reducible refine HC.out.mono ?_); rintro e w1 ⟨rfl, H⟩; have cb1 := (World.cell?_of_block (w := w) (a := ⟨b, j, none⟩) (H.undrew.wrote.far (zad HH.out) HO.out (fun _ hp => nomatch hp))).trans HCb.out; have A1 := aK (show Stepped F s (F.count s (n : Int) ((64 : Nat) : Int)).1 [] 8 w w1 from H.undrew); clear H))
  go_wp2
  go_loopw [9] (fun i wr => i = .int .i64 0 ∧ wr = w1) (fun i _ => 0)
  case atStart => exact ⟨rfl, rfl⟩
  case round =>
   obtain ⟨rfl, rfl⟩ := hrel
   go_wp2
   go_end0
   have hnr := HRn.out
   subst hnr
   exact ListDone.none_ (most := 64) HH.out HJ.out HO.out HL.out (fun k h1 h2 => ⟨(HS.out k h1 h2).1, (HS.out k h1 h2).2.1⟩) A1.out HNI.out
 by_cases z1 : N ≤ n
 ·have h0 : rows ≠ [] := fun e => by have := HRn.out; rw [e] at this; simp at this; omega
  obtain ⟨a', c', e, hL2, _⟩ := HL.out
  obtain ⟨rb, off, csr, Tr, rfl, hbr, hRI⟩ := hL2 h0
  injection e with e1 e2 e3
  subst e1
  have HSp := aK (HS.out rb rfl h0)
  have Hbr := aK hbr
  have Hcs := aK hRI
  have H0 := aK h0
  clear hL2 h0 e2 e3 hRI hbr
  have t1 : (decide (n < N)) = false := by simp; omega
  have e2 := aK (show F.listR zaj s 64 rows = rows by unfold Form.listR; rw [HRn.out, HN.out, if_neg (by omega)])
  have e3 := aK (show F.listM s 64 n = min N 64 by unfold Form.listM; rw [HN.out])
  have hm : min N 64 ≤ rows.length := by rw [HRn.out]; omega
  have HM1 := aK hm
  clear hm
  have HRo := aK (show F.room s + (8 + zbd (rows.take (min N 64))) ≤ cap by have := HR.out; rw [e2.out, e3.out] at this; exact this)
  go_enter Try.func68, Try.ntmps68
  go_wp2
  go_region_held3 (fun W => W.cell? ⟨b, j, none⟩ = some (.slice (some ⟨rb, off, none⟩) n c)) (go_keep) (((with_reducible refine HC.out.mono ?_); rintro e w1 ⟨rfl, H⟩; have cb1 := (World.cell?_of_block (w := w) (a := ⟨b, j, none⟩) (H.undrew.wrote.far (zad HH.out) HO.out (fun _ hp => nomatch hp))).trans HCb.out; have A1 := aK (show Stepped F s (F.count s (n : Int) ((64 : Nat) : Int)).1 [] 8 w w1 from H.undrew); clear H))
  have HP0 := aK (LoopP.start (fs := zaj) (R := rows) (off := off) (min N 64) A1.out.inv (fun h => HSp.out.2.1 (A1.out.own rb (zad Hbr.out) h)) ((A1.out.wrote.far (zad Hbr.out) HSp.out.2.1 (fun _ hp => nomatch hp)).trans Hbr.out) Hcs.out)
  have HCg1 := aK ((World.cell?_of_block (w := w) (a := ⟨g, 0, none⟩) (A1.out.wrote.far HHg.out HOg.out (fun _ hp => nomatch hp))).trans HCg.out)
  have HCb1 := aK cb1
  have HOg1 := aK (fun h => HOg.out (A1.out.own g HHg.out h))
  have HOb1 := aK (fun h => HO.out (A1.out.own b (zad HH.out) h))
  go_wp2
  go_loopw [9] (fun i wr => ∃ k : Nat, i = .int .i64 k ∧ k ≤ min N 64 ∧ Aside0 (LoopP F zaj (F.count s (n : Int) ((64 : Nat) : Int)).1 w1 rb Tr off rows (min N 64) k wr)) (fun i _ => N - (intOf i).toNat)
  case atStart => exact ⟨0, rfl, by omega, HP0⟩
  case round =>
   clear HP0
   obtain ⟨k, rfl, hk, HP⟩ := hrel
   have hcb : wr.cell? ⟨b, j, none⟩ = some (.slice (some ⟨rb, off, none⟩) n c) := by
    obtain ⟨sk, D, l, cc, cs', _, _, _, hAt, _⟩ := HP.out
    exact hAt.cell HCb1.out HOb1.out (Ne.symm HSp.out.1)
   by_cases hlt : k < min N 64
   ·have i0 : (0 : Int) ≤ (k : Int) := by omega
    have i1 : (k : Int) < (n : Int) := by omega
    have i2 : (k : Int) < (N : Int) := by omega
    have i3 : (k : Int) < 64 := by omega
    have HCs : Aside0 (Calls Try.prog 69 #[.pointer (some ⟨rb, off + k * 3, none⟩), .pointer (some ⟨g, 0, none⟩)] wr _) := aK (HP.out.step HG.out (by decide) hlt HM1.out HF.out zrm HOg1.out (fun e => (HSp.out.2.2 e.symm)) HCg1.out (by have := HRo.out; have := A1.out.room; omega))
    go_wp2_with (go_at_call 69; (with_reducible refine HCs.out.mono ?_); rintro e w2 ⟨rfl, H⟩; have HP2 := aK H; clear H)
    go_roundw
    case rel => exact ⟨k + 1, by go_num, by omega, HP2⟩
    case measure => simp [intOf]; omega
   ·have hkm : k = min N 64 := by omega
    have hend : LoopP F zaj (F.count s (n : Int) ((64 : Nat) : Int)).1 w1 rb Tr off rows (min N 64) (min N 64) wr := hkm ▸ HP.out
    have HEnd := aK hend
    clear hend
    by_cases hlt2 : k < N
    ·have i2 : (k : Int) < (N : Int) := by omega
     have i3 : ¬ (k : Int) < 64 := by omega
     go_wp2
     go_end0
     have hnr := HRn.out
     subst hnr
     exact ListDone.old (most := 64) HH.out HJ.out HO.out H0.out HSp.out.1 HSp.out.2.1 rfl (zad Hbr.out) A1.out (by rw [HN.out]; exact z1) (by rw [e3.out]; exact HEnd.out)
    ·have i2 : ¬ (k : Int) < (N : Int) := by omega
     go_wp2
     go_end0
     have hnr := HRn.out
     subst hnr
     exact ListDone.old (most := 64) HH.out HJ.out HO.out H0.out HSp.out.1 HSp.out.2.1 rfl (zad Hbr.out) A1.out (by rw [HN.out]; exact z1) (by rw [e3.out]; exact HEnd.out)
 ·have hlt : n < N := by omega
  have t1 : (decide ((n : Int) < (N : Int))) = true := by simp; omega
  have hNM : N ≤ 64 := by have := Hl1.out; omega
  have e2 := aK (show F.listR zaj s 64 rows = List.replicate N (zao zaj) by unfold Form.listR; rw [HRn.out, HN.out, if_pos hlt])
  have e3 := aK (show F.listM s 64 n = N by unfold Form.listM; rw [HN.out]; omega)
  have HRo := aK (show F.room s + (8 + zbd ((List.replicate N (zao zaj)).take N)) ≤ cap by have := HR.out; rw [e2.out, e3.out] at this; exact this)
  have HMK := fun W => made_T W N (by omega)
  have HBl := aK (zad HH.out)
  go_enter Try.func68, Try.ntmps68
  go_wp2
  go_region_held3 (fun W => W.cell? ⟨b, j, none⟩ = some (.slice A n c)) (go_keep) (((with_reducible refine HC.out.mono ?_); rintro e w1 ⟨rfl, H⟩; have hbw1 := (H.undrew.wrote.far (zad HH.out) HO.out (fun _ hp => nomatch hp)).trans HH.out; have cb1 := (World.cell?_of_block (w := w) (a := ⟨b, j, none⟩) (H.undrew.wrote.far (zad HH.out) HO.out (fun _ hp => nomatch hp))).trans HCb.out; have A1 := aK (show Stepped F s (F.count s (n : Int) ((64 : Nat) : Int)).1 [] 8 w w1 from H.undrew); clear H))
  have hb1 : b < w1.heap.size := Nat.lt_of_lt_of_le HBl.out A1.out.wrote.size
  have fb1 := zbg hbw1 j
  have Hbw := aK hbw1
  clear hbw1
  have HCg1 := aK ((World.cell?_of_block (w := w) (a := ⟨g, 0, none⟩) (A1.out.wrote.far HHg.out HOg.out (fun _ hp => nomatch hp))).trans HCg.out)
  have HOg1 := aK (fun h => HOg.out (A1.out.own g HHg.out h))
  have HOb1 := aK (fun h => HO.out (A1.out.own b (zad HH.out) h))
  go_wp2
  have HOM := aK (HG.out.own_move (w' := ((w1.setCell ⟨b, j, none⟩ (.slice (some ⟨w1.heap.size, 0, none⟩) N N)).alloc (.cells (madeCells (zao zaj).toArray (N * (zaj).length)) 72))) A1.out.inv (fun k hk => (Below.heap_alloc _ _ k (by rw [World.size_setCell]; exact HG.out.lt A1.out.inv hk)).trans (Below.heap_setCell _ _ _ _ (fun e => HOb1.out (by have e' : k = b := e; rw [← e']; exact hk)))))
  have HP0 := aK (LoopP.start (F := F) (fs := zaj) (s1 := (F.count s (n : Int) ((64 : Nat) : Int)).1) (wL := (w1.setCell ⟨b, j, none⟩ (.slice (some ⟨w1.heap.size, 0, none⟩) N N)).alloc (.cells (madeCells (zao zaj).toArray (N * (zaj).length)) 72)) (rb := w1.heap.size) (T := 72) (R := List.replicate N (zao zaj)) (off := 0) N (HG.out.move A1.out.inv (fun k hk => (Below.heap_alloc _ _ k (by rw [World.size_setCell]; exact HG.out.lt A1.out.inv hk)).trans (Below.heap_setCell _ _ _ _ (fun e => HOb1.out (by have e' : k = b := e; rw [← e']; exact hk)))) (by rw [World.size_alloc, World.size_setCell]; omega)) (fun h => absurd (HG.out.lt A1.out.inv (HOM.out _ h)) (Nat.lt_irrefl _)) (by have := zfo (w1.setCell ⟨b, j, none⟩ (.slice (some ⟨w1.heap.size, 0, none⟩) N N)) (.cells (madeCells (zao zaj).toArray (N * (zaj).length)) 72); rw [World.size_setCell] at this; exact this) (zib _ rfl N))
  have HCgL := aK (show ((w1.setCell ⟨b, j, none⟩ (.slice (some ⟨w1.heap.size, 0, none⟩) N N)).alloc (.cells (madeCells (zao zaj).toArray (N * (zaj).length)) 72)).cell? ⟨g, 0, none⟩ = some (.iface F.ty F.v) by
   rw [World.cell?_alloc_past _ _ _ (by rw [World.size_setCell]; exact Nat.lt_of_lt_of_le HHg.out A1.out.wrote.size), World.cell?_setCell_other _ _ _ _ (by simp; intro e; exact absurd e.symm HB.out)]
   exact HCg1.out)
  have HCbL := aK (show ((w1.setCell ⟨b, j, none⟩ (.slice (some ⟨w1.heap.size, 0, none⟩) N N)).alloc (.cells (madeCells (zao zaj).toArray (N * (zaj).length)) 72)).cell? ⟨b, j, none⟩ = some (.slice (some ⟨w1.heap.size, 0, none⟩) N N) by
   rw [World.cell?_alloc_past _ _ _ (by rw [World.size_setCell]; exact hb1)]
   exact World.cell?_setCell_same _ _ _ cb1)
  have Hne := aK (show g ≠ w1.heap.size from fun e => by have := HHg.out; have := A1.out.wrote.size; omega)
  have Hnb := aK (show b ≠ w1.heap.size from fun e => by omega)
  generalize hWL : (w1.setCell ⟨b, j, none⟩ (.slice (some ⟨w1.heap.size, 0, none⟩) N N)).alloc (.cells (madeCells (zao zaj).toArray (N * (zaj).length)) 72) = wL at *
  have HWL := aK hWL
  clear hWL HMK cb1 fb1 cb0
  generalize hrb : w1.heap.size = rb at *
  go_loopw [9] (fun i wr => ∃ k : Nat, i = .int .i64 k ∧ k ≤ N ∧ Aside0 (LoopP F zaj (F.count s (n : Int) ((64 : Nat) : Int)).1 wL rb 72 0 (List.replicate N (zao zaj)) N k wr)) (fun i _ => N - (intOf i).toNat)
  case atStart => exact ⟨0, rfl, by omega, HP0⟩
  case round =>
   clear HP0
   obtain ⟨k, rfl, hk, HP⟩ := hrel
   have hcb : wr.cell? ⟨b, j, none⟩ = some (.slice (some ⟨rb, 0, none⟩) N N) := by
    obtain ⟨sk, D, l, cc, cs', _, _, _, hAt, _⟩ := HP.out
    exact hAt.cell HCbL.out (fun h => HOb1.out (HOM.out _ h)) Hnb.out
   by_cases hlt2 : k < N
   ·have i0 : (0 : Int) ≤ (k : Int) := by omega
    have i2 : (k : Int) < (N : Int) := by omega
    have i3 : (k : Int) < 64 := by omega
    have HCs : Aside0 (Calls Try.prog 69 #[.pointer (some ⟨rb, k * 3, none⟩), .pointer (some ⟨g, 0, none⟩)] wr _) := aK (by
     have := (HP.out.step HG.out (by decide) hlt2 (by simp) (fun r hr => by rw [(List.mem_replicate.1 hr).2]; exact zee _) zrm (fun h => HOg1.out (HOM.out _ h)) Hne.out HCgL.out (by have := HRo.out; have := A1.out.room; omega))
     rw [Nat.zero_add] at this
     exact this)
    go_wp2_with (go_at_call 69; (with_reducible refine HCs.out.mono ?_); rintro e w2 ⟨rfl, H⟩; have HP2 := aK H; clear H)
    go_roundw
    case rel => exact ⟨k + 1, by go_num, by omega, HP2⟩
    case measure => simp [intOf]; omega
   ·have hkm : k = N := by omega
    have hend : LoopP F zaj (F.count s (n : Int) ((64 : Nat) : Int)).1 wL rb 72 0 (List.replicate N (zao zaj)) N N wr := by subst hkm; exact HP.out
    have HEnd := aK hend
    clear hend
    have i2 : ¬ (k : Int) < (N : Int) := by omega
    go_wp2
    go_end0
    have hnr := HRn.out
    have hw := HWL.out
    subst hnr
    subst hrb
    refine ListDone.new_ (most := 64) (Z := (zao zaj).toArray) (Tr := 72) HG.out HH.out HO.out A1.out HN.out hlt hNM ?_
    first | (rw [hw]; exact HEnd.out) | (subst hw; exact HEnd.out)
structure M where
 c : Nat → Value
 L : Nat → List (List Value)
def scalar (i : Nat) : Bool := decide (i < 26) && !(i == 3 || i == 8 || i == 9 || i == 10)
def zck (i : Nat) : Fld := if i = 13 ∨ i = 17 ∨ i = 24 then .flag else if i = 16 ∨ i = 18 ∨ i = 25 then .text 0 else .num 0 0
def Fld.like : Fld → Fld → Bool
 | .num _ _, .num _ _ => true
 | .flag, .flag => true
 | .text _, .text _ => true
 | _, _ => false
theorem Fld.like_fits {f g : Fld} {v : Value} (h : f.like g = true) (k : f.fits v) : g.fits v := by
 cases f <;> cases g <;> first | exact k | exact Bool.noConfusion h
def zfk : Nat → List Fld → Bool
 | _, [] => true
 | i, f :: fs => scalar i && (f.like (zck i) && (zck i).like f) && zfk (i + 1) fs
def zaq (c : Nat → Value) : Nat → Nat → List Value
 | _, 0 => []
 | i, n + 1 => c i :: zaq c (i + 1) n
def zdy (c : Nat → Value) (i : Nat) (vs : List Value) : Nat → Value := fun k => if i ≤ k then (vs[k - i]?).getD (c k) else c k
def upL (L : Nat → List (List Value)) (j : Nat) (r : List (List Value)) : Nat → List (List Value) := fun k => if k = j then r else L k
def Form.rowM (F : Form) (s : F.σ) (m : M) (i : Nat) (fs : List Fld) : F.σ × M :=
 ((F.row s fs (zaq m.c i fs.length)).1, { m with c := zdy m.c i (F.row s fs (zaq m.c i fs.length)).2 })
def Form.lstM (F : Form) (s : F.σ) (m : M) (j : Nat) (fs : List Fld) (most : Nat) : F.σ × M :=
 ((F.list fs s most (m.L j)).1, { m with L := upL m.L j (F.list fs s most (m.L j)).2 })
def zah : List (Nat × List Fld) := [(3, zak), (8, zat), (9, zau), (10, zaj)]
theorem zdi (c : Nat → Value) : ∀ (n i : Nat), (zaq c i n).length = n
 | 0, _ => rfl
 | n + 1, i => by simp only [zaq, List.length_cons, zdi c n]
theorem zfx (c : Nat → Value) : ∀ (n i k : Nat) (v : Value), (zaq c i n)[k]? = some v → v = c (i + k)
 | 0, i, k, v, h => by simp [zaq] at h
 | n + 1, i, 0, v, h => by simp only [zaq, List.getElem?_cons_zero, Option.some.injEq] at h; exact h.symm
 | n + 1, i, k + 1, v, h => by
  simp only [zaq, List.getElem?_cons_succ] at h
  rw [zfx c n (i + 1) k v h, show i + 1 + k = i + (k + 1) by omega]
theorem zcp : ∀ {fs : List Fld} {i : Nat}, zfk i fs = true → ∀ k, k < fs.length → scalar (i + k) = true
 | [], i, _, k, hk => by simp at hk
 | f :: fs, i, h, 0, _ => by simp only [zfk, Bool.and_eq_true] at h; exact h.1.1
 | f :: fs, i, h, k + 1, hk => by
  simp only [zfk, Bool.and_eq_true] at h
  rw [show i + (k + 1) = i + 1 + k by omega]
  exact zcp h.2 k (by simpa using hk)
theorem zde : ∀ {fs : List Fld} {i : Nat} {c : Nat → Value}, zfk i fs = true → (∀ k, scalar k = true → (zck k).fits (c k)) → fits fs (zaq c i fs.length)
 | [], i, c, _, _ => trivial
 | f :: fs, i, c, h, hc => by
  simp only [zfk, Bool.and_eq_true] at h
  exact ⟨Fld.like_fits h.1.2.2 (hc i h.1.1), zde h.2 hc⟩
theorem zjr : ∀ {fs : List Fld} {i : Nat} {vs : List Value}, zfk i fs = true → fits fs vs → ∀ k v, vs[k]? = some v → (zck (i + k)).fits v
 | [], i, [], _, _, k, v, hv => by simp at hv
 | [], i, _ :: _, _, hf, k, v, hv => hf.elim
 | _ :: _, i, [], _, hf, k, v, hv => hf.elim
 | f :: fs, i, u :: vs, h, hf, 0, v, hv => by
  simp only [zfk, Bool.and_eq_true] at h
  simp only [List.getElem?_cons_zero, Option.some.injEq] at hv
  subst hv
  exact Fld.like_fits h.1.2.1 hf.1
 | f :: fs, i, u :: vs, h, hf, k + 1, v, hv => by
  simp only [zfk, Bool.and_eq_true] at h
  rw [List.getElem?_cons_succ] at hv
  rw [show i + (k + 1) = i + 1 + k by omega]
  exact zjr h.2 hf.2 k v hv
theorem zen {j : Nat} {fs : List Fld} (h : (j, fs) ∈ zah) : scalar j = false ∧ j < 26 := by
 simp only [zah, List.mem_cons, Prod.mk.injEq, List.not_mem_nil, or_false] at h
 rcases h with ⟨rfl, _⟩ | ⟨rfl, _⟩ | ⟨rfl, _⟩ | ⟨rfl, _⟩ <;> exact ⟨rfl, by omega⟩
theorem zlx {j : Nat} {fs gs : List Fld} (h : (j, fs) ∈ zah) (k : (j, gs) ∈ zah) : fs = gs := by
 simp only [zah, List.mem_cons, Prod.mk.injEq, List.not_mem_nil, or_false] at h k
 rcases h with ⟨rfl, rfl⟩ | ⟨rfl, rfl⟩ | ⟨rfl, rfl⟩ | ⟨rfl, rfl⟩ <;> rcases k with ⟨k, rfl⟩ | ⟨k, rfl⟩ | ⟨k, rfl⟩ | ⟨k, rfl⟩ <;> first | rfl | omega
structure MAt (F : Form) (s0 : F.σ) (w0 : World) (b : Nat) (A : Nat → Prop) (s : F.σ) (c : Nat) (m : M) (w : World) : Prop where
 inv : F.Inv s w
 own : ∀ k, k < w0.heap.size → F.own w.heap k → F.own w0.heap k
 room : F.room s ≤ F.room s0 + c
 no : ¬ F.own w.heap b
 only : Only (fun k => F.own w0.heap k ∨ k = b ∨ A k) w0 w
 typed : ∀ i, scalar i = true → (zck i).fits (m.c i)
 blk : ∃ cs : Array Value, cs.size = 26 ∧ w.heap[b]? = some (.cells cs 35 (0, 0)) ∧ (∀ i, scalar i = true → cs[i]? = some (m.c i)) ∧
  ∀ j fs, (j, fs) ∈ zah → ((∀ r, r ∈ m.L j → fits fs r) ∧ (m.L j).length ≤ 9223372036854775807) ∧ ∃ sv, cs[j]? = some sv ∧ ListAt w sv fs.length (m.L j) ∧
   ∀ k, arr sv = some k → m.L j ≠ [] → k ≠ b ∧ ¬ F.own w.heap k ∧ (A k ∨ w0.heap.size ≤ k) ∧ ∀ j' fs' sv', (j', fs') ∈ zah → j' ≠ j → cs[j']? = some sv' → m.L j' ≠ [] → arr sv' ≠ some k
def MOn (F : Form) (s0 : F.σ) (w0 : World) (b : Nat) (A : Nat → Prop) (s : F.σ) (c : Nat) (m : M) (e : Ending) (w : World) : Prop :=
 e = .returned (.tuple #[]) ∧ MAt F s0 w0 b A s c m w
variable {F : Form} {s0 s : F.σ} {w0 w : World} {b : Nat} {A : Nat → Prop} {c : Nat} {m : M}
theorem MAt.drew (hF : F.Good) (h : MAt F s0 w0 b A s c m w) : MAt F s0 w0 b A s c m w.drew := by
 obtain ⟨cs, h1, h2, h3, h4⟩ := h.blk
 exact ⟨hF.move h.inv (fun _ _ => rfl) (Nat.le_refl _), h.own, h.room, h.no, h.only.drew, h.typed, cs, h1, h2, h3, fun j fs hj => by
  obtain ⟨hf, sv, g1, g2, g3⟩ := h4 j fs hj
  exact ⟨hf, sv, g1, g2.move (fun _ _ _ => rfl), g3⟩⟩
theorem ListAt.lt {w : World} {sv : Value} {st : Nat} {rows : List (List Value)} (h : ListAt w sv st rows) {k : Nat} (hk : arr sv = some k) (h0 : rows ≠ []) : k < w.heap.size := by
 obtain ⟨a, c, rfl, h, _⟩ := h
 obtain ⟨rb, off, cs, T, rfl, hb, _⟩ := h h0
 cases hk
 exact zad hb
theorem MAt.rowDid (h : MAt F s0 w0 b A s c m w) {i : Nat} {fs : List Fld} (hi : zfk i fs = true) {d : Nat} {w1 : World} (k : Stepped F s (F.row s fs (zaq m.c i fs.length)).1 (zbt b i (F.row s fs (zaq m.c i fs.length)).2) d w w1) :
  MAt F s0 w0 b A (F.rowM s m i fs).1 (c + d) (F.rowM s m i fs).2 w1 := by
 obtain ⟨cs, h1, h2, h3, h4⟩ := h.blk
 have hbl := zad h2
 have hfit := zde hi h.typed
 have hfr := zia F s hfit
 have hlr := zax hfr
 have hb1 : w1.heap[b]? = some (.cells (into b cs (zbt b i (F.row s fs (zaq m.c i fs.length)).2)) 35 (0, 0)) :=
  (k.wrote.block b hbl h.no).trans (ziu _ (fun p hp => (zdd p hp).2) h2)
 have hsz : fs ≠ [] → i + (F.row s fs (zaq m.c i fs.length)).2.length ≤ cs.size := fun h0 => by
  have hl : 0 < fs.length := List.length_pos_iff.2 h0
  have := zcp hi (fs.length - 1) (by omega)
  unfold scalar at this
  simp only [Bool.and_eq_true, decide_eq_true_eq] at this
  omega
 have hput : ∀ q, (into b cs (zbt b i (F.row s fs (zaq m.c i fs.length)).2))[q]? = if i ≤ q ∧ q < i + (F.row s fs (zaq m.c i fs.length)).2.length then (F.row s fs (zaq m.c i fs.length)).2[q - i]? else cs[q]? := by
  intro q
  split
  ·rename_i hq
   have h0 : fs ≠ [] := fun e => by have h9 : fs.length = 0 := List.length_eq_zero_iff.2 e; omega
   have hv := List.getElem?_eq_getElem (l := (F.row s fs (zaq m.c i fs.length)).2) (i := q - i) (by omega)
   have := zrj (b := b) (i := i) (cs := cs) hv (hsz h0)
   rw [show i + (q - i) = q by omega] at this
   rw [this, hv]
  ·rename_i hq
   exact zhz (by omega)
 have hfar : ∀ q, q < w.heap.size → ¬ F.own w.heap q → q ≠ b → w1.heap[q]? = w.heap[q]? := fun q hq ho hqb => k.wrote.far hq ho (fun p hp => by rw [(zdd p hp).1]; exact hqb.symm)
 refine ⟨k.inv, fun q hq ho => h.own q hq (k.own q (Nat.lt_of_lt_of_le hq h.only.size) ho), by have := h.room; have := k.room; simp only [Form.rowM]; omega, fun ho => h.no (k.own b hbl ho), ?_, ?_, ?_⟩
 ·refine h.only.trans (k.wrote.only (S' := fun q => F.own w.heap q ∨ q = b) (fun q _ hq => .inl hq) (fun p hp => .inr (zdd p hp).1)) ?_
  intro q hq hs
  rcases hs with hs | hs
  ·exact .inl (h.own q hq hs)
  ·exact .inr (.inl hs)
 ·intro q hq
  simp only [Form.rowM, zdy]
  split
  ·rename_i hiq
   cases hv : (F.row s fs (zaq m.c i fs.length)).2[q - i]? with
   | none => exact h.typed q hq
   | some v =>
    have := zjr hi hfr (q - i) v hv
    rw [show i + (q - i) = q by omega] at this
    exact this
  ·exact h.typed q hq
 ·refine ⟨_, by rw [zrk]; exact h1, hb1, ?_, ?_⟩
  ·intro q hq
   rw [hput q]
   simp only [Form.rowM, zdy]
   split
   ·rename_i hq'
    rw [if_pos hq'.1]
    have hv := List.getElem?_eq_getElem (l := (F.row s fs (zaq m.c i fs.length)).2) (i := q - i) (by omega)
    rw [hv]; rfl
   ·rename_i hq'
    rw [h3 q hq]
    split
    ·rename_i hiq
     rw [List.getElem?_eq_none (by omega)]; rfl
    ·rfl
  ·intro j gs hj
   obtain ⟨hf, sv, g1, g2, g3⟩ := h4 j gs hj
   have hjn : ∀ {j' : Nat} {gs' : List Fld}, (j', gs') ∈ zah → (into b cs (zbt b i (F.row s fs (zaq m.c i fs.length)).2))[j']? = cs[j']? := fun {j' gs'} hj' => by
    rw [hput j', if_neg]
    intro hq'
    have := zcp hi (j' - i) (by omega)
    rw [show i + (j' - i) = j' by omega, (zen hj').1] at this
    exact Bool.noConfusion this
   refine ⟨hf, sv, (hjn hj).trans g1, g2.move (fun q hq h0 => hfar q (g2.lt hq h0) (g3 q hq h0).2.1 (g3 q hq h0).1), fun q hq h0 => ?_⟩
   obtain ⟨e1, e2, e3, e4⟩ := g3 q hq h0
   exact ⟨e1, fun ho => e2 (k.own q (g2.lt hq h0) ho), e3, fun j' fs' sv' hj' hne hsv' => e4 j' fs' sv' hj' hne ((hjn hj').symm.trans hsv')⟩
def ListC (k kc : FuncId) (fs : List Fld) (most : Nat) (mi : Int) : Prop :=
 ∀ (F : Form) (_ : F.Good) (s : F.σ) (w : World) (b j g : Nat) (cs : Array Value) (T : TypeId) (A : Option Addr) (c : Nat) (rows : List (List Value)) (_ : F.Inv s w) (_ : ¬ F.own w.heap b) (_ : ¬ F.own w.heap g) (_ : g ≠ b) (_ : w.cell? ⟨g, 0, none⟩ = some (.iface F.ty F.v))
  (_ : F.room s + (8 + zbd ((F.listR fs s most rows).take (F.listM s most rows.length))) ≤ cap) (_ : w.heap[b]? = some (.cells cs T (0, 0))) (_ : cs[j]? = some (.slice A rows.length c)) (_ : ListAt w (.slice A rows.length c) fs.length rows)
  (_ : ∀ k, arr (.slice A rows.length c) = some k → rows ≠ [] → k ≠ b ∧ ¬ F.own w.heap k ∧ k ≠ g) (_ : ∀ r, r ∈ rows → fits fs r) (_ : rows.length ≤ 9223372036854775807),
  Calls Try.prog k #[.iface F.ty F.v, .pointer (some ⟨b, j, none⟩), .int .i64 mi, .func (.func kc) #[] #[.pointer (some ⟨g, 0, none⟩)]] w
   (ListDone F s w b j cs T fs.length (.slice A rows.length c) rows (F.list fs s most rows).1 (F.list fs s most rows).2 (8 + zbd ((F.listR fs s most rows).take (F.listM s most rows.length))))
def Form.lstCost (F : Form) (s : F.σ) (m : M) (j : Nat) (fs : List Fld) (most : Nat) : Nat := 8 + zbd ((F.listR fs s most (m.L j)).take (F.listM s most (m.L j).length))
theorem zrn (hF : F.Good) {fs : List Fld} {most : Nat} {rows : List (List Value)} (hm : most ≤ 64) (h : ∀ r, r ∈ rows → fits fs r) (hl : rows.length ≤ 9223372036854775807) :
  (∀ r, r ∈ (F.list fs s most rows).2 → fits fs r) ∧ (F.list fs s most rows).2.length ≤ 9223372036854775807 := by
 have hR : ∀ r, r ∈ F.listR fs s most rows → fits fs r := fun r hr => by
  unfold Form.listR at hr
  split at hr
  ·rw [(List.mem_replicate.1 hr).2]; exact zee _
  ·exact h r hr
 refine ⟨fun r hr => ?_, ?_⟩
 ·unfold Form.list at hr
  rcases List.mem_append.1 hr with hr | hr
  ·exact zlw F fs _ _ (fun q hq => hR q (List.mem_of_mem_take hq)) r hr
  ·exact hR r (List.mem_of_mem_drop hr)
 ·have e : (F.list fs s most rows).2.length = (F.listR fs s most rows).length := by
   unfold Form.list
   rw [List.length_append, zef, List.length_take, List.length_drop]
   have : F.listM s most rows.length ≤ (F.listR fs s most rows).length := by
    unfold Form.listM Form.listR
    split
    ·simp; omega
    ·omega
   omega
  rw [e]
  unfold Form.listR
  split
  ·obtain ⟨l0, l1⟩ := hF.count_lim s (rows.length : Int) (most : Int) (by omega) (by omega)
   simp only [List.length_replicate]
   omega
  ·exact hl
theorem MAt.lst (h : MAt F s0 w0 b A s c m w) (hF : F.Good) {k kc : FuncId} {j : Nat} {fs : List Fld} {most : Nat} {mi : Int} (hC : ListC k kc fs most mi) (hm : most ≤ 64) (hj : (j, fs) ∈ zah) {g : Nat} (hg : ¬ F.own w0.heap g) (hgb : g ≠ b) (hgA : ¬ A g) (cg : w0.cell? ⟨g, 0, none⟩ = some (.iface F.ty F.v))
  (hr : F.room s0 + c + F.lstCost s m j fs most ≤ cap) :
  Calls Try.prog k #[.iface F.ty F.v, .pointer (some ⟨b, j, none⟩), .int .i64 mi, .func (.func kc) #[] #[.pointer (some ⟨g, 0, none⟩)]] w (MOn F s0 w0 b A (F.lstM s m j fs most).1 (c + F.lstCost s m j fs most) (F.lstM s m j fs most).2) := by
 have hgl := World.block_lt_of_cell? w0 ⟨g, 0, none⟩ cg
 have cg' : w.cell? ⟨g, 0, none⟩ = some (.iface F.ty F.v) := h.only.cell cg (by
  rintro (hs | hs | hs)
  ·exact hg hs
  ·exact hgb hs
  ·exact hgA hs)
 obtain ⟨cs, h1, h2, h3, h4⟩ := h.blk
 obtain ⟨⟨hf, hl⟩, sv, g1, g2, g3⟩ := h4 j fs hj
 have g2' := g2
 obtain ⟨a, cc, rfl, _⟩ := g2'
 have hbl := zad h2
 refine (hC F hF s w b j g cs _ a cc (m.L j) h.inv h.no (fun ho => hg (h.own g hgl ho)) hgb cg' (by have := h.room; unfold Form.lstCost at hr; omega) h2 g1 g2 (fun q hq h0 => ⟨(g3 q hq h0).1, (g3 q hq h0).2.1, fun e => by
  rcases (g3 q hq h0).2.2.1 with hA | hA
  ·exact hgA (e ▸ hA)
  ·have hgl' : g < w0.heap.size := hgl
   omega⟩) hf hl).mono ?_
 rintro e w' ⟨rfl, sv', i1, i2, i3, i4, i5, i6, i7, i8⟩
 have hlf := zrn (s := s) hF hm hf hl
 have hkeep : ∀ q, q < w.heap.size → ¬ F.own w.heap q → q ≠ b → (arr (.slice a (m.L j).length cc) = some q → m.L j = []) → w'.heap[q]? = w.heap[q]? := fun q hq ho hqb hqa => i8.block q hq (by
  rintro (hs | hs | hs)
  ·exact ho hs
  ·exact hqb hs
  ·exact hs.2 (hqa hs.1))
 have hold : (F.list fs s most (m.L j)).2 ≠ [] → sv' = .slice a (m.L j).length cc → m.L j ≠ [] := fun h0 e e0 => by
  obtain ⟨a2, c2, e2, _⟩ := i5
  rw [e] at e2
  injection e2 with _ e2 _
  have e9 : (m.L j).length = 0 := List.length_eq_zero_iff.2 e0
  exact h0 (List.length_eq_zero_iff.1 (e2.symm.trans e9))
 have hj26 := (zen hj).2
 refine ⟨rfl, i1, fun q hq ho => h.own q hq (i2 q (Nat.lt_of_lt_of_le hq h.only.size) ho), by have := h.room; unfold Form.lstCost; simp only [Form.lstM]; omega, fun ho => h.no (i2 b hbl ho), ?_, h.typed, ?_⟩
 ·refine h.only.trans i8 ?_
  intro q hq hs
  rcases hs with hs | hs | ⟨hs, h0⟩
  ·exact .inl (h.own q hq hs)
  ·exact .inr (.inl hs)
  ·rcases (g3 q hs h0).2.2.1 with hA | hA
   ·exact .inr (.inr hA)
   ·omega
 ·refine ⟨_, by rw [Array.size_setIfInBounds]; exact h1, i4, ?_, ?_⟩
  ·intro q hq
   have hne : j ≠ q := fun e => by subst e; rw [(zen hj).1] at hq; exact Bool.noConfusion hq
   rw [Array.getElem?_setIfInBounds_ne hne]
   exact h3 q hq
  ·intro j' fs' hj'
   by_cases e : j' = j
   ·subst e
    have := zlx hj hj'
    subst this
    refine ⟨by simp only [Form.lstM, upL, if_true]; exact hlf, sv', by rw [Array.getElem?_setIfInBounds_self_of_lt (by omega)], by simp only [Form.lstM, upL, if_true]; exact i5, ?_⟩
    simp only [Form.lstM, upL, if_true]
    intro q hq h0
    refine ⟨(i7 q hq h0).1, (i7 q hq h0).2, ?_, ?_⟩
    ·rcases i6 with e | ⟨k', e, hk'⟩
     ·exact (g3 q (e ▸ hq) (hold h0 e)).2.2.1
     ·rw [e] at hq
      injection hq with hq
      subst hq
      exact .inr (Nat.le_trans h.only.size hk')
    ·intro j2 fs2 sv2 hj2 hne hsv2 hL2 ha2
     rw [Array.getElem?_setIfInBounds_ne (Ne.symm hne)] at hsv2
     rw [if_neg hne] at hL2
     obtain ⟨_, sv3, k1, k2, k3⟩ := h4 j2 fs2 hj2
     rw [hsv2] at k1
     injection k1 with k1
     subst k1
     rcases i6 with e | ⟨k', e, hk'⟩
     ·exact (g3 q (e ▸ hq) (hold h0 e)).2.2.2 j2 fs2 sv2 hj2 hne hsv2 hL2 ha2
     ·rw [e] at hq
      injection hq with hq
      subst hq
      have := k2.lt ha2 hL2
      omega
   ·obtain ⟨hf', sv2, k1, k2, k3⟩ := h4 j' fs' hj'
    have hL' : (F.lstM s m j fs most).2.L j' = m.L j' := by simp only [Form.lstM, upL, if_neg e]
    rw [hL']
    refine ⟨hf', sv2, by rw [Array.getElem?_setIfInBounds_ne (Ne.symm e)]; exact k1, k2.move (fun q hq h0 => hkeep q (k2.lt hq h0) (k3 q hq h0).2.1 (k3 q hq h0).1 (fun ha => ?_)), fun q hq h0 => ⟨(k3 q hq h0).1, fun ho => (k3 q hq h0).2.1 (i2 q (k2.lt hq h0) ho), (k3 q hq h0).2.2.1, ?_⟩⟩
    ·by_cases hL : m.L j = []
     ·exact hL
     ·exact absurd ha ((k3 q hq h0).2.2.2 j fs _ hj (Ne.symm e) g1 hL)
    ·intro j2 fs2 sv3 hj2 hne hsv3 hL3 ha3
     by_cases e2 : j2 = j
     ·subst e2
      rw [Array.getElem?_setIfInBounds_self_of_lt (by omega)] at hsv3
      injection hsv3 with hsv3
      subst hsv3
      have hL3' : (F.list fs s most (m.L j2)).2 ≠ [] := by simpa only [Form.lstM, upL, if_true] using hL3
      rcases i6 with e | ⟨k', e, hk'⟩
      ·exact (k3 q hq h0).2.2.2 j2 fs _ hj hne g1 (hold hL3' e) (e ▸ ha3)
      ·rw [e] at ha3
       injection ha3 with ha3
       subst ha3
       have := k2.lt hq h0
       omega
     ·rw [Array.getElem?_setIfInBounds_ne (Ne.symm e2)] at hsv3
      have hL3' : m.L j2 ≠ [] := by simpa only [Form.lstM, upL, if_neg e2] using hL3
      exact (k3 q hq h0).2.2.2 j2 fs2 sv3 hj2 hne hsv3 hL3' ha3
def ListRd (w : World) (sv : Value) (st : Nat) (rows : List (List Value)) : Prop :=
 ∃ a c, sv = .slice a rows.length c ∧ (a = none → c = 0) ∧ (rows ≠ [] → ∃ ad, a = some ad ∧ ∀ k r, rows[k]? = some r → ∀ j v, r[j]? = some v → w.cell? (ad.add (k * st + j)) = some v)
theorem ListRd.below {w w' : World} {sv : Value} {st : Nat} {rows : List (List Value)} (h : ListRd w sv st rows) (hst : 0 < st) (hl : ∀ r, r ∈ rows → r.length = st) (hB : Below w.heap.size w w') : ListRd w' sv st rows := by
 obtain ⟨a, c, rfl, h0, h3⟩ := h
 refine ⟨a, c, rfl, h0, fun h' => ?_⟩
 obtain ⟨ad, rfl, h4⟩ := h3 h'
 refine ⟨ad, rfl, fun k r hr j v hv => ?_⟩
 have hc := h4 k r hr j v hv
 rw [hB.cell (World.block_lt_of_cell? w _ hc)]
 exact hc
theorem zko {st : Nat} : ∀ {rows : List (List Value)} (_ : ∀ r, r ∈ rows → r.length = st) {i : Nat} {u : Value}, rows.flatten[i]? = some u → ∃ k r j, rows[k]? = some r ∧ r[j]? = some u ∧ i = k * st + j
 | [], _, i, u, h => by simp at h
 | r :: rows, hl, i, u, h => by
  rw [List.flatten_cons] at h
  have hr := hl r (.head _)
  rcases Nat.lt_or_ge i r.length with hi | hi
  ·rw [List.getElem?_append_left hi] at h
   exact ⟨0, r, i, rfl, h, by omega⟩
  ·rw [List.getElem?_append_right hi] at h
   obtain ⟨k, r', j, h1, h2, h3⟩ := zko (fun q hq => hl q (.tail _ hq)) h
   exact ⟨k + 1, r', j, by simpa using h1, h2, by rw [Nat.add_mul]; omega⟩
theorem zro {st : Nat} : ∀ {rows : List (List Value)} (_ : ∀ r, r ∈ rows → r.length = st) {k : Nat} {r : List Value} {j : Nat} {v : Value}, rows[k]? = some r → r[j]? = some v → rows.flatten[k * st + j]? = some v
 | [], _, k, r, j, v, h, _ => by simp at h
 | q :: rows, hl, 0, r, j, v, h, hv => by
  simp only [List.getElem?_cons_zero, Option.some.injEq] at h
  subst h
  rw [List.flatten_cons, List.getElem?_append_left (by have := (List.getElem?_eq_some_iff.1 hv).1; omega)]
  simpa using hv
 | q :: rows, hl, k + 1, r, j, v, h, hv => by
  have hr := hl q (.head _)
  rw [List.getElem?_cons_succ] at h
  rw [List.flatten_cons, List.getElem?_append_right (by rw [Nat.add_mul]; omega), show (k + 1) * st + j - q.length = k * st + j by rw [Nat.add_mul]; omega]
  exact zro (fun q hq => hl q (.tail _ hq)) h hv
theorem zgi {st : Nat} : ∀ {rows : List (List Value)} (_ : ∀ r, r ∈ rows → r.length = st), rows.flatten.length = rows.length * st
 | [], _ => by simp
 | r :: rows, hl => by rw [List.flatten_cons, List.length_append, zgi (fun q hq => hl q (.tail _ hq)), hl r (.head _), List.length_cons, Nat.add_mul]; omega
theorem fits_one {fs : List Fld} {vs : List Value} (h : fits fs vs) : ∀ u, u ∈ vs → u.oneCell' = true := by
 induction fs generalizing vs with
 | nil => cases vs with
  | nil => intro u hu; nomatch hu
  | cons v vs => exact h.elim
 | cons f fs ih => cases vs with
  | nil => exact h.elim
  | cons v vs =>
   intro u hu
   rcases List.mem_cons.1 hu with rfl | hu
   ·have := h.1
    cases f <;> obtain ⟨x, rfl⟩ := this <;> rfl
   ·exact ih h.2 u hu
theorem zdz {w : World} {base : Nat} {e : TypeId} {st : Nat} {v : Value} {rows : List (List Value)} (hl : ∀ r, r ∈ rows → r.length = st) (h : w.ownsRow base e st v rows.length rows.flatten) :
  ListAt w v st rows ∧ ListRd w v st rows ∧ ∀ k, arr v = some k → base ≤ k := by
 obtain ⟨h1, h2⟩ := h
 rcases h2 with ⟨rfl, h2⟩ | ⟨g, cap, cur, rfl, hb, hg, hn, hm, hs, ht⟩
 ·have e : rows = [] := List.length_eq_zero_iff.1 h2
  subst e
  exact ⟨⟨none, 0, rfl, fun h => absurd rfl h, fun _ => rfl⟩, ⟨none, 0, rfl, fun _ => rfl, fun h => absurd rfl h⟩, fun k hk => by simp [arr] at hk⟩
 ·have key : RowsIn cur 0 st rows := fun k r hr j v hv => by
   have := zro hl hr hv
   rw [← ht, List.getElem?_take] at this
   split at this
   ·rw [Nat.zero_add]; simpa using this
   ·cases this
  refine ⟨⟨some ⟨g, 0, none⟩, cap, rfl, fun _ => ⟨g, 0, cur, e, rfl, hg, key⟩, fun h => by simp at h⟩, ⟨some ⟨g, 0, none⟩, cap, rfl, fun h => by simp at h, fun _ => ⟨⟨g, 0, none⟩, rfl, fun k r hr j v hv => ?_⟩⟩, fun k hk => by simp only [arr, Option.some.injEq] at hk; omega⟩
  have hc := key k r hr j v hv
  rw [Nat.zero_add] at hc
  rcases Nat.eq_zero_or_pos (k * st + j) with h0 | h0
  ·rw [h0] at hc ⊢; exact (zab hg 0).trans hc
  ·have e : (⟨g, 0, none⟩ : Addr).add (k * st + j) = ⟨g, k * st + j, none⟩ := by
    unfold Addr.add; rw [if_neg (by omega)]; simp
   rw [e]
   exact (zab hg _).trans hc
theorem ListAt.rd {w : World} {sv : Value} {st : Nat} {rows : List (List Value)} (h : ListAt w sv st rows) : ListRd w sv st rows := by
 obtain ⟨a, c, rfl, h, hz⟩ := h
 refine ⟨a, c, rfl, hz, fun h' => ?_⟩
 obtain ⟨rb, off, cs, T, rfl, hg, hr⟩ := h h'
 refine ⟨_, rfl, fun k r hk j v hv => ?_⟩
 have hc := hr k r hk j v hv
 rcases Nat.eq_zero_or_pos (k * st + j) with h0 | h0
 ·rw [h0]; rw [Nat.add_assoc, h0] at hc; exact (zab hg _).trans hc
 ·have e : (⟨rb, off, none⟩ : Addr).add (k * st + j) = ⟨rb, off + (k * st + j), none⟩ := by
   unfold Addr.add; rw [if_neg (by omega)]
  rw [e]; rw [Nat.add_assoc] at hc
  exact (zab hg _).trans hc
section
variable {P : Program} {ops : Array Oper} {rest : List Oper} {o : Oper} {a : Act} {Q : Exit → Act → World → Prop}
theorem zex {w0 W : World} (base : Nat) (hgd : o.guard = none) (s x : Operand) (t e : TypeId) (z : Value) (size bytes : Nat)
  (ho : o.op = .call { callee := .builtin .append, args := #[s, x], argTypes := #[t, t] })
  (ht : P.underlying t = some (.slice e)) (hinfo : (P.info? e).map (fun i => (i.zero, i.size, i.bytes)) = some (some z, size, bytes)) (hz : z.cells.size = size) (hs0 : 0 < size) (hb0 : 0 < bytes)
  (v sv : Value) (xs rows : List (List Value)) (fs : List Fld) (hfs : fs.length = size) (hs : a.eval s = v) (hx : a.eval x = sv) (hf : ∀ r, r ∈ rows → fits fs r)
  (HO : W.ownsRow base e size v xs.length xs.flatten) (HR : ListRd W sv size rows) (HB : Below base w0 W) (hbase : base ≤ W.heap.size) (hl : (xs.length + rows.length) * bytes ≤ 140737488355328)
  (h : ∀ v1 w1, w1.ownsRow base e size v1 (xs ++ rows).length (xs ++ rows).flatten → Below base w0 w1 → W.grownBy w1 v.ownBlock → (v1.ownBlock = v.ownBlock ∨ ∃ b, v1.ownBlock = some b ∧ W.heap.size ≤ b) → wpList P ops Q rest (a.put o.dst v1) w1) :
  wpList P ops Q (o :: rest) a W := by
 obtain ⟨i0, hi, hzz⟩ := Option.map_eq_some_iff.1 hinfo
 simp only [Prod.mk.injEq] at hzz
 obtain ⟨hz0, hz1, hz2⟩ := hzz
 have hlen : xs.length + rows.length ≤ 140737488355328 := Nat.le_trans (Nat.le_mul_of_pos_right _ hb0) hl
 have hlr : ∀ r, r ∈ rows → r.length = size := fun r hr => (zax (hf r hr)).trans hfs
 obtain ⟨A, c, rfl, h0, h3⟩ := HR
 cases A with
 | none =>
  have hc := h0 rfl
  have e0 : rows = [] := Classical.byContradiction fun h => by obtain ⟨_, e, _⟩ := h3 h; cases e
  subst e0
  subst hc
  refine wpList_append_own_none hgd s x t ho base e i0 size ht hi v xs.length xs.flatten hs HO hx ?_
  exact h v W (by simpa using HO) HB ⟨rfl, rfl, rfl, Nat.le_refl _, fun _ _ _ => rfl⟩ (.inl rfl)
 | some ad =>
  refine wpList_append_own_at W hgd s x t ho base e i0 z size bytes ht hi hz0 hz1 hz2 hz hs0 v xs.length xs.flatten hs HO ad rows.length c rows.flatten hx (zgi hlr) (fun i u hu => ?_) (fun u hu => ?_) (by simp only [maxLen]; omega) hl hbase ?_
  ·obtain ⟨k, r, j, k1, k2, k3⟩ := zko hlr hu
   obtain ⟨ad', e', h4⟩ := h3 (fun e => by subst e; simp at k1)
   injection e' with e'
   subst e'
   subst k3
   exact h4 k r k1 j u k2
  ·obtain ⟨r, hr, hu⟩ := List.mem_flatten.1 hu
   exact fits_one (hf r hr) u hu
  ·intro v1 w1 hown hg _ hat
   refine h v1 w1 (by simpa using hown) (HB.grown hg hbase (zdh HO)) hg ?_
   rcases hat with hat | hat
   ·exact .inl hat
   ·exact .inr ⟨_, hat, Nat.le_refl _⟩
end
def zoe (st : Nat) (rows : List (List Value)) (w : World) (e : Ending) (w' : World) : Prop :=
 ∃ sv, e = .returned sv ∧ Below w.heap.size w w' ∧ ListAt w' sv st rows ∧ ListRd w' sv st rows ∧ ∀ k, arr sv = some k → w.heap.size ≤ k
theorem zly : (Try.prog.info? 66).map (fun i => (i.zero, i.size, i.bytes)) = some (some (.agg #[(.int .i64 0), (.int .i64 0), (.int .i64 0), (.int .i64 0), (.string ⟨#[]⟩), (.bool false), (.string ⟨#[]⟩)]), 7, 72) := by kernel_rfl
theorem zlz (w : World) (sv : Value) (rows : List (List Value)) (hR : ListRd w sv 7 rows) (hf : ∀ r, r ∈ rows → fits zak r) (hn : rows.length ≤ 1048576) :
  Calls Try.prog 35 #[sv] w (zoe 7 rows w) := by
 have HR := aK hR
 obtain ⟨A, c, rfl, h0, h3⟩ := hR
 cases A with
 | none =>
  obtain rfl : c = 0 := h0 rfl
  obtain rfl : rows = [] := Classical.byContradiction fun h => by obtain ⟨_, e, _⟩ := h3 h; cases e
  have hq : ∀ w, (binOp .eql 22 (.slice none 0 0) (.slice none 0 0)).run Try.prog w = .ok (.bool true) w := fun _ => rfl
  clear h0 h3 hf hn
  go_enter Try.func35, Try.ntmps35
  go_wp2
  go_ret
  exact ⟨_, rfl, Below.refl _ _, ⟨none, 0, rfl, fun h => absurd rfl h, fun _ => rfl⟩, HR.out, fun k hk => by simp [arr] at hk⟩
 | some ad =>
  have HF := aK hf
  have HL := aK (fun r (hr : r ∈ rows) => zax (hf r hr))
  have HN := aK hn
  have HB := aK ((Below.refl w.heap.size w).alloc (Nat.le_refl _) (.cells #[] 66))
  have HR1 := aK (HR.out.below (by omega) (fun r hr => zax (hf r hr)) HB.out)
  have HO := aK (World.ownsRow_lit (base := w.heap.size) (e := 66) (size := 7) w #[] 0 (Nat.le_refl _) (by omega) rfl)
  have hq : ∀ w, (binOp .eql 22 (.slice (some ad) rows.length c) (.slice none 0 0)).run Try.prog w = .ok (.bool false) w := fun _ => rfl
  clear h0 h3 hf hn
  go_enter Try.func35, Try.ntmps35
  go_wp2_with (at_builtin; refine zex (w0 := w) w.heap.size rfl (.tmp 5) (.tmp 6) 22 66 _ 7 72 rfl Try.underlying22 zly rfl (by omega) (by omega) (.slice (some ⟨w.heap.size, 0, none⟩) 0 0) _ [] rows zak rfl rfl rfl HF.out HO.out HR1.out HB.out (by simp) (by have := HN.out; simp; omega) ?_; intro v1 w1 hO hB hg hat; have HB1 := aK hB; have HO1 := aK hO; clear hO hg hat hB)
  go_ret
  have K := zdz (rows := rows) HL.out HO1.out
  exact ⟨_, rfl, HB1.out, K⟩
theorem zof : (Try.prog.info? 68).map (fun i => (i.zero, i.size, i.bytes)) = some (some (.agg #[(.string ⟨#[]⟩), (.int .i64 0), (.int .i64 0), (.bool false), (.string ⟨#[]⟩)]), 5, 56) := by kernel_rfl
theorem zne (w : World) (sv : Value) (rows : List (List Value)) (hR : ListRd w sv 5 rows) (hf : ∀ r, r ∈ rows → fits zat r) (hn : rows.length ≤ 1048576) :
  Calls Try.prog 36 #[sv] w (zoe 5 rows w) := by
 have HR := aK hR
 obtain ⟨A, c, rfl, h0, h3⟩ := hR
 cases A with
 | none =>
  obtain rfl : c = 0 := h0 rfl
  obtain rfl : rows = [] := Classical.byContradiction fun h => by obtain ⟨_, e, _⟩ := h3 h; cases e
  have hq : ∀ w, (binOp .eql 25 (.slice none 0 0) (.slice none 0 0)).run Try.prog w = .ok (.bool true) w := fun _ => rfl
  clear h0 h3 hf hn
  go_enter Try.func36, Try.ntmps36
  go_wp2
  go_ret
  exact ⟨_, rfl, Below.refl _ _, ⟨none, 0, rfl, fun h => absurd rfl h, fun _ => rfl⟩, HR.out, fun k hk => by simp [arr] at hk⟩
 | some ad =>
  have HF := aK hf
  have HL := aK (fun r (hr : r ∈ rows) => zax (hf r hr))
  have HN := aK hn
  have HB := aK ((Below.refl w.heap.size w).alloc (Nat.le_refl _) (.cells #[] 68))
  have HR1 := aK (HR.out.below (by omega) (fun r hr => zax (hf r hr)) HB.out)
  have HO := aK (World.ownsRow_lit (base := w.heap.size) (e := 68) (size := 5) w #[] 0 (Nat.le_refl _) (by omega) rfl)
  have hq : ∀ w, (binOp .eql 25 (.slice (some ad) rows.length c) (.slice none 0 0)).run Try.prog w = .ok (.bool false) w := fun _ => rfl
  clear h0 h3 hf hn
  go_enter Try.func36, Try.ntmps36
  go_wp2_with (at_builtin; refine zex (w0 := w) w.heap.size rfl (.tmp 5) (.tmp 6) 25 68 _ 5 56 rfl Try.underlying25 zof rfl (by omega) (by omega) (.slice (some ⟨w.heap.size, 0, none⟩) 0 0) _ [] rows zat rfl rfl rfl HF.out HO.out HR1.out HB.out (by simp) (by have := HN.out; simp; omega) ?_; intro v1 w1 hO hB hg hat; have HB1 := aK hB; have HO1 := aK hO; clear hO hg hat hB)
  go_ret
  have K := zdz (rows := rows) HL.out HO1.out
  exact ⟨_, rfl, HB1.out, K⟩
theorem zog : (Try.prog.info? 70).map (fun i => (i.zero, i.size, i.bytes)) = some (some (.agg #[(.int .i64 0), (.int .i64 0), (.int .i64 0), (.int .i64 0)]), 4, 32) := by kernel_rfl
theorem znf (w : World) (sv : Value) (rows : List (List Value)) (hR : ListRd w sv 4 rows) (hf : ∀ r, r ∈ rows → fits zau r) (hn : rows.length ≤ 1048576) :
  Calls Try.prog 37 #[sv] w (zoe 4 rows w) := by
 have HR := aK hR
 obtain ⟨A, c, rfl, h0, h3⟩ := hR
 cases A with
 | none =>
  obtain rfl : c = 0 := h0 rfl
  obtain rfl : rows = [] := Classical.byContradiction fun h => by obtain ⟨_, e, _⟩ := h3 h; cases e
  have hq : ∀ w, (binOp .eql 26 (.slice none 0 0) (.slice none 0 0)).run Try.prog w = .ok (.bool true) w := fun _ => rfl
  clear h0 h3 hf hn
  go_enter Try.func37, Try.ntmps37
  go_wp2
  go_ret
  exact ⟨_, rfl, Below.refl _ _, ⟨none, 0, rfl, fun h => absurd rfl h, fun _ => rfl⟩, HR.out, fun k hk => by simp [arr] at hk⟩
 | some ad =>
  have HF := aK hf
  have HL := aK (fun r (hr : r ∈ rows) => zax (hf r hr))
  have HN := aK hn
  have HB := aK ((Below.refl w.heap.size w).alloc (Nat.le_refl _) (.cells #[] 70))
  have HR1 := aK (HR.out.below (by omega) (fun r hr => zax (hf r hr)) HB.out)
  have HO := aK (World.ownsRow_lit (base := w.heap.size) (e := 70) (size := 4) w #[] 0 (Nat.le_refl _) (by omega) rfl)
  have hq : ∀ w, (binOp .eql 26 (.slice (some ad) rows.length c) (.slice none 0 0)).run Try.prog w = .ok (.bool false) w := fun _ => rfl
  clear h0 h3 hf hn
  go_enter Try.func37, Try.ntmps37
  go_wp2_with (at_builtin; refine zex (w0 := w) w.heap.size rfl (.tmp 5) (.tmp 6) 26 70 _ 4 32 rfl Try.underlying26 zog rfl (by omega) (by omega) (.slice (some ⟨w.heap.size, 0, none⟩) 0 0) _ [] rows zau rfl rfl rfl HF.out HO.out HR1.out HB.out (by simp) (by have := HN.out; simp; omega) ?_; intro v1 w1 hO hB hg hat; have HB1 := aK hB; have HO1 := aK hO; clear hO hg hat hB)
  go_ret
  have K := zdz (rows := rows) HL.out HO1.out
  exact ⟨_, rfl, HB1.out, K⟩
theorem zma : (Try.prog.info? 72).map (fun i => (i.zero, i.size, i.bytes)) = some (some (.agg #[(.int .i64 0), (.int .i64 0), (.bool false)]), 3, 24) := by kernel_rfl
theorem zmb (w : World) (sv : Value) (rows : List (List Value)) (hR : ListRd w sv 3 rows) (hf : ∀ r, r ∈ rows → fits zaj r) (hn : rows.length ≤ 1048576) :
  Calls Try.prog 38 #[sv] w (zoe 3 rows w) := by
 have HR := aK hR
 obtain ⟨A, c, rfl, h0, h3⟩ := hR
 cases A with
 | none =>
  obtain rfl : c = 0 := h0 rfl
  obtain rfl : rows = [] := Classical.byContradiction fun h => by obtain ⟨_, e, _⟩ := h3 h; cases e
  have hq : ∀ w, (binOp .eql 27 (.slice none 0 0) (.slice none 0 0)).run Try.prog w = .ok (.bool true) w := fun _ => rfl
  clear h0 h3 hf hn
  go_enter Try.func38, Try.ntmps38
  go_wp2
  go_ret
  exact ⟨_, rfl, Below.refl _ _, ⟨none, 0, rfl, fun h => absurd rfl h, fun _ => rfl⟩, HR.out, fun k hk => by simp [arr] at hk⟩
 | some ad =>
  have HF := aK hf
  have HL := aK (fun r (hr : r ∈ rows) => zax (hf r hr))
  have HN := aK hn
  have HB := aK ((Below.refl w.heap.size w).alloc (Nat.le_refl _) (.cells #[] 72))
  have HR1 := aK (HR.out.below (by omega) (fun r hr => zax (hf r hr)) HB.out)
  have HO := aK (World.ownsRow_lit (base := w.heap.size) (e := 72) (size := 3) w #[] 0 (Nat.le_refl _) (by omega) rfl)
  have hq : ∀ w, (binOp .eql 27 (.slice (some ad) rows.length c) (.slice none 0 0)).run Try.prog w = .ok (.bool false) w := fun _ => rfl
  clear h0 h3 hf hn
  go_enter Try.func38, Try.ntmps38
  go_wp2_with (at_builtin; refine zex (w0 := w) w.heap.size rfl (.tmp 5) (.tmp 6) 27 72 _ 3 24 rfl Try.underlying27 zma rfl (by omega) (by omega) (.slice (some ⟨w.heap.size, 0, none⟩) 0 0) _ [] rows zaj rfl rfl rfl HF.out HO.out HR1.out HB.out (by simp) (by have := HN.out; simp; omega) ?_; intro v1 w1 hO hB hg hat; have HB1 := aK hB; have HO1 := aK hO; clear hO hg hat hB)
  go_ret
  have K := zdz (rows := rows) HL.out HO1.out
  exact ⟨_, rfl, HB1.out, K⟩
inductive Step where
 | row (i : Nat) (fs : List Fld)
 | most
 | lst (j : Nat) (fs : List Fld) (most : Nat)
def zgd : Value → Int
 | .int .i64 x => if 1 < x then x else 1
 | _ => 1
def Form.step (F : Form) (s : F.σ) (m : M) : Step → F.σ × M
 | .row i fs => F.rowM s m i fs
 | .most => F.rowM s m 7 [.num (zgd (m.c 6)) 128]
 | .lst j fs n => F.lstM s m j fs n
def Form.stepCost (F : Form) (s : F.σ) (m : M) : Step → Nat
 | .row i fs => cost (zaq m.c i fs.length)
 | .most => 8
 | .lst j fs n => F.lstCost s m j fs n
def Form.run (F : Form) (s : F.σ) (m : M) : List Step → F.σ × M
 | [] => (s, m)
 | t :: ts => F.run (F.step s m t).1 (F.step s m t).2 ts
def Form.runCost (F : Form) (s : F.σ) (m : M) : List Step → Nat
 | [] => 0
 | t :: ts => F.stepCost s m t + F.runCost (F.step s m t).1 (F.step s m t).2 ts
theorem zjs (F : Form) : ∀ (ts us : List Step) (s : F.σ) (m : M), F.run s m (ts ++ us) = F.run (F.run s m ts).1 (F.run s m ts).2 us
 | [], us, s, m => rfl
 | t :: ts, us, s, m => zjs F ts us _ _
theorem zgf (F : Form) : ∀ (ts us : List Step) (s : F.σ) (m : M), F.runCost s m (ts ++ us) = F.runCost s m ts + F.runCost (F.run s m ts).1 (F.run s m ts).2 us
 | [], us, s, m => by simp [Form.runCost, Form.run]
 | t :: ts, us, s, m => by
  simp only [List.cons_append, Form.runCost, Form.run, zgf F ts us]
  omega
def Stand (F : Form) (s0 : F.σ) (w0 : World) (b : Nat) (A : Nat → Prop) (K : Value) (C : Nat) (sF : F.σ) (mF : M) (ts : List Step) (w : World) : Prop :=
 ∃ s c m, MAt F s0 w0 b A s c m w ∧ m.c 0 = K ∧ c + F.runCost s m ts = C ∧ F.run s m ts = (sF, mF)
def zey (F : Form) (s0 : F.σ) (w0 : World) (b : Nat) (A : Nat → Prop) (K : Value) (C : Nat) (sF : F.σ) (mF : M) (ts : List Step) (e : Ending) (w : World) : Prop :=
 e = .returned (.tuple #[]) ∧ Stand F s0 w0 b A K C sF mF ts w
variable {F : Form} {s0 s sF : F.σ} {w0 w : World} {b : Nat} {A : Nat → Prop} {K : Value} {c C : Nat} {m mF : M} {ts : List Step} {i j n : Nat} {fs : List Fld} {lo up lim : Int}
theorem Stand.drew (hF : F.Good) (h : Stand F s0 w0 b A K C sF mF ts w) : Stand F s0 w0 b A K C sF mF ts w.drew := by
 obtain ⟨s, c, m, h1, h2⟩ := h
 exact ⟨s, c, m, h1.drew hF, h2⟩
theorem Stand.start (h : MAt F s w b A s 0 m w) (ts : List Step) : Stand F s w b A (m.c 0) (F.runCost s m ts) (F.run s m ts).1 (F.run s m ts).2 ts w := ⟨s, 0, m, h, rfl, by simp, rfl⟩
theorem Stand.done (h : Stand F s0 w0 b A K C sF mF [] w) : MOn F s0 w0 b A sF C mF (.returned (.tuple #[])) w := by
 obtain ⟨s, c, m, h1, h2, h3, h4⟩ := h
 simp only [Form.runCost, Form.run, Nat.add_zero, Prod.mk.injEq] at h3 h4
 obtain ⟨rfl, rfl⟩ := h4
 subst h3
 exact ⟨rfl, h1⟩
theorem MAt.kind (h : MAt F s0 w0 b A s c m w) {i : Nat} (hi : scalar i = true) : w.cell? ⟨b, i, none⟩ = some (m.c i) ∧ w.frozen? ⟨b, i, none⟩ = false := by
 obtain ⟨cs, h1, h2, h3, _⟩ := h.blk
 exact ⟨(zab h2 i).trans (h3 i hi), zbg h2 i⟩
theorem Stand.kind (h : Stand F s0 w0 b A K C sF mF ts w) : w.cell? ⟨b, 0, none⟩ = some K := by
 obtain ⟨s, c, m, h1, h2, _⟩ := h
 rw [← h2]
 exact (h1.kind rfl).1
theorem zkp {i : Nat} {fs : List Fld} (hi : 0 < i) : (F.rowM s m i fs).2.c 0 = m.c 0 := by
 simp only [Form.rowM, zdy]
 rw [if_neg (by omega)]
theorem Stand.did {i : Nat} {fs : List Fld} {t : Step} (h : MAt F s0 w0 b A s c m w) (hK : m.c 0 = K) (hC : c + F.runCost s m (t :: ts) = C) (hR : F.run s m (t :: ts) = (sF, mF)) (ht : F.step s m t = F.rowM s m i fs) (hc : F.stepCost s m t = cost (zaq m.c i fs.length)) (hi : zfk i fs = true) (h0 : 0 < i) {k : FuncId} {args : Array Value}
  (H : Calls Try.prog k args w (Did F s (F.row s fs (zaq m.c i fs.length)).1 (zbt b i (F.row s fs (zaq m.c i fs.length)).2) (cost (zaq m.c i fs.length)) w)) :
  Calls Try.prog k args w (zey F s0 w0 b A K C sF mF ts) := by
 refine H.mono ?_
 rintro e w' ⟨rfl, hS⟩
 have := h.rowDid hi hS
 refine ⟨rfl, _, _, _, this, (zkp h0).trans hK, ?_, ?_⟩
 ·rw [← hC]; simp only [Form.runCost, ht, hc]; omega
 ·rw [← hR]; simp only [Form.run, ht]
theorem Stand.num (h : Stand F s0 w0 b A K C sF mF (.row i [.num lo up] :: ts) w) (hF : F.Good) (hr : F.room s0 + C ≤ cap) (hi : zfk i [.num lo up] = true) (h0 : 0 < i) :
  Calls Try.prog (F.k 0) #[F.v, .pointer (some ⟨b, i, none⟩), .int .i64 lo, .int .i64 up] w.drew (zey F s0 w0 b A K C sF mF ts) := by
 obtain ⟨s, c, m, h1, h2, h3, h4⟩ := Stand.drew hF h
 refine Stand.did h1 h2 h3 h4 rfl rfl hi h0 ?_
 obtain ⟨cs, k1, k2, k3, _⟩ := h1.blk
 have hs := zcp hi 0 (by simp)
 obtain ⟨n, hn⟩ := (zde hi h1.typed).1
 have := hF.num_c s w.drew b i cs _ n lo up h1.inv h1.no (by have := h1.room; simp only [Form.runCost, Form.stepCost, List.length_cons, List.length_nil, zaq, hn, cost, zbr] at h3; omega) k2 (by rw [← hn]; exact k3 i hs)
 simpa [zaq, hn, Form.row, Form.fld, zbt, cost, zbr] using this
theorem Stand.flag (h : Stand F s0 w0 b A K C sF mF (.row i [.flag] :: ts) w) (hF : F.Good) (hr : F.room s0 + C ≤ cap) (hi : zfk i [.flag] = true) (h0 : 0 < i) :
  Calls Try.prog (F.k 1) #[F.v, .pointer (some ⟨b, i, none⟩)] w.drew (zey F s0 w0 b A K C sF mF ts) := by
 obtain ⟨s, c, m, h1, h2, h3, h4⟩ := Stand.drew hF h
 refine Stand.did h1 h2 h3 h4 rfl rfl hi h0 ?_
 obtain ⟨cs, k1, k2, k3, _⟩ := h1.blk
 have hs := zcp hi 0 (by simp)
 obtain ⟨n, hn⟩ := (zde hi h1.typed).1
 have := hF.flag_c s w.drew b i cs _ n h1.inv h1.no (by have := h1.room; simp only [Form.runCost, Form.stepCost, List.length_cons, List.length_nil, zaq, hn, cost, zbr] at h3; omega) k2 (by rw [← hn]; exact k3 i hs)
 simpa [zaq, hn, Form.row, Form.fld, zbt, cost, zbr] using this
theorem Stand.text (h : Stand F s0 w0 b A K C sF mF (.row i [.text lim] :: ts) w) (hF : F.Good) (hr : F.room s0 + C ≤ cap) (hi : zfk i [.text lim] = true) (h0 : 0 < i) :
  Calls Try.prog (F.k 2) #[F.v, .pointer (some ⟨b, i, none⟩), .int .i64 lim] w.drew (zey F s0 w0 b A K C sF mF ts) := by
 obtain ⟨s, c, m, h1, h2, h3, h4⟩ := Stand.drew hF h
 refine Stand.did h1 h2 h3 h4 rfl rfl hi h0 ?_
 obtain ⟨cs, k1, k2, k3, _⟩ := h1.blk
 have hs := zcp hi 0 (by simp)
 obtain ⟨n, hn⟩ := (zde hi h1.typed).1
 have := hF.text_c s w.drew b i cs _ n lim h1.inv h1.no (by have := h1.room; simp only [Form.runCost, Form.stepCost, List.length_cons, List.length_nil, zaq, hn, cost, zbr] at h3; omega) k2 (by rw [← hn]; exact k3 i hs)
 simpa [zaq, hn, Form.row, Form.fld, zbt, cost, zbr] using this
theorem Stand.rowC' (h : Stand F s0 w0 b A K C sF mF (.row i fs :: ts) w) (hF : F.Good) (hr : F.room s0 + C ≤ cap) {k : FuncId} (hk : RowC k fs) (hi : zfk i fs = true) (h0 : 0 < i) :
  Calls Try.prog k #[.iface F.ty F.v, .pointer (some ⟨b, i, none⟩)] w (zey F s0 w0 b A K C sF mF ts) := by
 obtain ⟨s, c, m, h1, h2, h3, h4⟩ := h
 refine Stand.did h1 h2 h3 h4 rfl rfl hi h0 ?_
 obtain ⟨cs, k1, k2, k3, _⟩ := h1.blk
 refine hk F hF s w b i cs _ _ h1.inv h1.no (by have := h1.room; simp only [Form.runCost, Form.stepCost] at h3; omega) k2 (fun j v hj => ?_) (zde hi h1.typed)
 have hjl : j < fs.length := by have := (List.getElem?_eq_some_iff.1 hj).1; rwa [zdi] at this
 rw [zfx _ _ _ _ _ hj]
 exact k3 _ (zcp hi j hjl)
theorem Stand.rowC (h : Stand F s0 w0 b A K C sF mF (.row i fs :: ts) w) (hF : F.Good) (hr : F.room s0 + C ≤ cap) {k : FuncId} (hk : RowC k fs) (hi : zfk i fs = true) (h0 : 0 < i) :
  Calls Try.prog k #[.iface F.ty F.v, .pointer (some ⟨b, i, none⟩)] w.drew (zey F s0 w0 b A K C sF mF ts) := Stand.rowC' (Stand.drew hF h) hF hr hk hi h0
theorem Stand.lst (h : Stand F s0 w0 b A K C sF mF (.lst j fs n :: ts) w) (hF : F.Good) (hr : F.room s0 + C ≤ cap) {k kc : FuncId} {mi : Int} (hC : ListC k kc fs n mi) (hm : n ≤ 64) (hj : (j, fs) ∈ zah) {g : Nat} (hg : ¬ F.own w0.heap g) (hgb : g ≠ b) (hgA : ¬ A g) (cg : w0.cell? ⟨g, 0, none⟩ = some (.iface F.ty F.v)) :
  Calls Try.prog k #[.iface F.ty F.v, .pointer (some ⟨b, j, none⟩), .int .i64 mi, .func (.func kc) #[] #[.pointer (some ⟨g, 0, none⟩)]] w.drew (zey F s0 w0 b A K C sF mF ts) := by
 obtain ⟨s, c, m, h1, h2, h3, h4⟩ := Stand.drew hF h
 simp only [Form.runCost, Form.stepCost] at h3
 refine (h1.lst hF hC hm hj hg hgb hgA cg (by omega)).mono ?_
 rintro e w' ⟨rfl, hS⟩
 refine ⟨rfl, _, _, _, hS, h2, ?_, ?_⟩
 ·rw [← h3]; simp only [Form.step]; omega
 ·rw [← h4]; rfl
theorem Stand.cell (h : Stand F s0 w0 b A K C sF mF ts w) {g : Nat} {v : Value} (hg : ¬ F.own w0.heap g) (hgb : g ≠ b) (hgA : ¬ A g) (cg : w0.cell? ⟨g, 0, none⟩ = some v) : w.cell? ⟨g, 0, none⟩ = some v := by
 obtain ⟨s, c, m, h1, _⟩ := h
 refine h1.only.cell cg ?_
 rintro (hs | hs | hs)
 ·exact hg hs
 ·exact hgb hs
 ·exact hgA hs
def zdv (k : FuncId) (ts : List Step) (KP : Value → Prop) : Prop :=
 ∀ (F : Form), F.Good → ∀ (s : F.σ) (w : World) (b : Nat) (A : Nat → Prop) (m : M), (∀ k, A k → k < w.heap.size) → MAt F s w b A s 0 m w → KP (m.c 0) → F.room s + F.runCost s m ts ≤ cap →
  Calls Try.prog k #[.iface F.ty F.v, .pointer (some ⟨b, 0, none⟩)] w (MOn F s w b A (F.run s m ts).1 (F.runCost s m ts) (F.run s m ts).2)
def whoS : List Step := [.row 14 [.num 0 9007199254740992], .row 15 [.num 0 9007199254740992]]
theorem who_c : zdv 70 whoS (fun _ => True) := by
 intro F hF s w b A m hAl h _ hr
 have hmf : ∀ (fn : Fn) (first cap : Array Value) (w : World), (Instr.makeFunc fn first cap).run Try.prog w = .ok (.func fn first cap) w := fun _ _ _ _ => rfl
 have HA := hF.ahead 0 "meridian/wire.num" (by decide) rfl
 have HM := hF.method 0 "meridian/wire.num" (by decide) rfl
 have HE := hF.enter 0 (by decide)
 have S0 := aK (Stand.start h whoS)
 have HR := aK hr
 have HG := aK hF
 generalize (F.run s m whoS).1 = sF at *
 generalize (F.run s m whoS).2 = mF at *
 generalize F.runCost s m whoS = C at *
 generalize m.c 0 = K at *
 clear h hr hF
 have C1 := aK (S0.out.num HG.out HR.out rfl (by omega))
 go_enter Try.func70, Try.ntmps70
 go_wp2
 go_region_held3 (fun _ => True) (trivial) (((with_reducible refine C1.out.mono ?_); rintro e w1 ⟨rfl, H⟩; have S1 := aK H; clear H))
 have C2 := aK (S1.out.num HG.out HR.out rfl (by omega))
 go_wp2
 go_region_held3 (fun _ => True) (trivial) (((with_reducible refine C2.out.mono ?_); rintro e w2 ⟨rfl, H⟩; have S2 := aK H; clear H))
 go_wp2
 go_end0
 exact S2.out.done
def zgt (n : Int) : List Step := if n = 4 then [] else if n = 6 then [.row 2 [.num 0 64]] else [.row 1 [.num 0 4], .row 2 [.num 0 64]]
theorem head_c (n : Int) : zdv 40 (zgt n) (fun v => v = .int .i64 n) := by
 intro F hF s w b A m hAl h hK hr
 have hmf : ∀ (fn : Fn) (first cap : Array Value) (w : World), (Instr.makeFunc fn first cap).run Try.prog w = .ok (.func fn first cap) w := fun _ _ _ _ => rfl
 have HA := hF.ahead 0 "meridian/wire.num" (by decide) rfl
 have HM := hF.method 0 "meridian/wire.num" (by decide) rfl
 have HE := hF.enter 0 (by decide)
 have S0 := aK (Stand.start h (zgt n))
 have HR := aK hr
 have HG := aK hF
 generalize (F.run s m (zgt n)).1 = sF at *
 generalize (F.run s m (zgt n)).2 = mF at *
 generalize F.runCost s m (zgt n) = C at *
 rw [hK] at S0
 have ck := S0.out.kind
 clear h hr hF hK
 by_cases h4 : n = 4
 ·subst h4
  have S0' := aK (show Stand F s w b A (.int .i64 4) C sF mF [] w from S0.out)
  go_enter Try.func40, Try.ntmps40
  go_wp2
  go_end0
  exact S0'.out.done
 ·have t4 : (n == 4) = false := by simpa using h4
  by_cases h6 : n = 6
  ·subst h6
   have S0' := aK (show Stand F s w b A (.int .i64 6) C sF mF [.row 2 [.num 0 64]] w from S0.out)
   have C1 := aK (S0'.out.num HG.out HR.out rfl (by omega))
   go_enter Try.func40, Try.ntmps40
   go_wp2
   go_region_held3 (fun _ => True) (trivial) (((with_reducible refine C1.out.mono ?_); rintro e w1 ⟨rfl, H⟩; have S1 := aK H; clear H))
   go_wp2
   go_end0
   exact S1.out.done
  ·have t6 : (n != 6) = true := by simpa using h6
   have e : zgt n = [.row 1 [.num 0 4], .row 2 [.num 0 64]] := by unfold zgt; rw [if_neg h4, if_neg h6]
   rw [e] at S0
   have C1 := aK (S0.out.num HG.out HR.out rfl (by omega))
   clear e
   go_enter Try.func40, Try.ntmps40
   go_wp2
   go_region_held3 (fun _ => True) (trivial) (((with_reducible refine C1.out.mono ?_); rintro e w1 ⟨rfl, H⟩; have S1 := aK H; clear H))
   have C2 := aK (S1.out.num HG.out HR.out rfl (by omega))
   go_wp2
   go_region_held3 (fun _ => True) (trivial) (((with_reducible refine C2.out.mono ?_); rintro e w2 ⟨rfl, H⟩; have S2 := aK H; clear H))
   go_wp2
   go_end0
   exact S2.out.done
theorem MAt.alloc {F : Form} (hF : F.Good) {s : F.σ} {w : World} {b : Nat} {A : Nat → Prop} {m : M} (h : MAt F s w b A s 0 m w) (o : Obj) : MAt F s (w.alloc o) b A s 0 m (w.alloc o) := by
 obtain ⟨cs, h1, h2, h3, h4⟩ := h.blk
 have hom : ∀ k, F.own (w.alloc o).heap k → F.own w.heap k := hF.own_move h.inv (fun k hk => Below.heap_alloc w o k (hF.lt h.inv hk))
 refine ⟨hF.move h.inv (fun k hk => Below.heap_alloc w o k (hF.lt h.inv hk)) (by rw [World.size_alloc]; omega), fun k hk ho => ho, h.room, fun ho => h.no (hom b ho), Only.refl _ _, h.typed, cs, h1, (Below.heap_alloc w o b (zad h2)).trans h2, h3, fun j fs hj => ?_⟩
 obtain ⟨hf, sv, g1, g2, g3⟩ := h4 j fs hj
 refine ⟨hf, sv, g1, g2.move (fun k hk h0 => Below.heap_alloc w o k (g2.lt hk h0)), fun k hk h0 => ⟨(g3 k hk h0).1, fun ho => (g3 k hk h0).2.1 (hom k ho), ?_, (g3 k hk h0).2.2.2⟩⟩
 rcases (g3 k hk h0).2.2.1 with hA | hA
 ·exact .inl hA
 ·have := g2.lt hk h0; omega
theorem zbn {F : Form} (hF : F.Good) {s : F.σ} {w : World} (hI : F.Inv s w) (o : Obj) : ∀ k, F.own (w.alloc o).heap k → F.own w.heap k := hF.own_move hI (fun k hk => Below.heap_alloc w o k (hF.lt hI hk))
theorem MOn.unalloc {F : Form} (hF : F.Good) {s s' : F.σ} {w w' : World} {b : Nat} {A : Nat → Prop} {c : Nat} {m : M} {o : Obj} {e : Ending} (hI : F.Inv s w) (h : MOn F s (w.alloc o) b A s' c m e w') : MOn F s w b A s' c m e w' := by
 obtain ⟨rfl, h⟩ := h
 obtain ⟨cs, h1, h2, h3, h4⟩ := h.blk
 refine ⟨rfl, h.inv, fun k hk ho => zbn hF hI o k (h.own k (by rw [World.size_alloc]; omega) ho), h.room, h.no, ((Only.refl _ w).alloc o).trans h.only (fun i _ hs => hs.imp (zbn hF hI o i) id), h.typed, cs, h1, h2, h3, fun j fs hj => ?_⟩
 obtain ⟨hf, sv, g1, g2, g3⟩ := h4 j fs hj
 refine ⟨hf, sv, g1, g2, fun k hk h0 => ⟨(g3 k hk h0).1, (g3 k hk h0).2.1, ?_, (g3 k hk h0).2.2.2⟩⟩
 rcases (g3 k hk h0).2.2.1 with hA | hA
 ·exact .inl hA
 ·rw [World.size_alloc] at hA; exact .inr (by omega)
def zhm : List Step := [.row 21 [.num 0 15]]
theorem Stepped.fault {F : Form} (hF : F.Good) {s s' : F.σ} {w w2 : World} {b : Nat} {u v : Value} {o : Obj} (hI : F.Inv s w) (hb : b < w.heap.size) (hbo : ¬ F.own w.heap b)
  (h : Stepped F s s' [(⟨w.heap.size, 0, none⟩, u)] 8 (w.alloc o) w2) : Stepped F s s' [(⟨b, 21, none⟩, v)] 8 w (w2.setCell ⟨b, 21, none⟩ v) := by
 have hs : w.heap.size + 1 ≤ w2.heap.size := by have := h.wrote.size; rwa [World.size_alloc] at this
 refine ⟨hF.move h.inv (fun k hk => Below.heap_setCell _ _ _ _ (fun e => hbo (zbn hF hI o b (h.own b (by rw [World.size_alloc]; omega) (by have e' : k = b := e; rwa [e'] at hk))))) (by rw [World.size_setCell]; omega), fun k hk ho => zbn hF hI o k (h.own k (by rw [World.size_alloc]; omega) (hF.own_move h.inv (fun k hk => Below.heap_setCell _ _ _ _ (fun e => hbo (zbn hF hI o b (h.own b (by rw [World.size_alloc]; omega) (by have e' : k = b := e; rwa [e'] at hk))))) k ho)), ?_, h.room⟩
 refine ⟨h.wrote.os, h.wrote.tape, h.wrote.output, by rw [World.size_setCell]; omega, fun k hk hn => zew ?_ _ _⟩
 rw [h.wrote.far (by rw [World.size_alloc]; omega) (fun ho => hn (zbn hF hI o k ho)) (fun p hp => by simp only [List.mem_singleton] at hp; subst hp; simp only; omega)]
 exact Below.heap_alloc w o k hk
theorem zrp : zdv 71 zhm (fun _ => True) := by
 intro F hF s w b A m hAl h _ hr
 have HM := hF.method 0 "meridian/wire.num" (by decide) rfl
 have HE := hF.enter 0 (by decide)
 obtain ⟨n, hn⟩ : ∃ n, m.c 21 = .int .i64 n := h.typed 21 rfl
 obtain ⟨cs, h1, h2, h3, h4⟩ := h.blk
 have hbl := zad h2
 have ck : w.cell? ⟨b, 21, none⟩ = some (.int .i64 n) := (h.kind (i := 21) rfl).1.trans (by rw [hn])
 have fk : w.frozen? ⟨b, 21, none⟩ = false := (h.kind (i := 21) rfl).2
 have C := aK (hF.num_c s (w.alloc (.cells #[.int .i64 n] 3)) w.heap.size 0 #[.int .i64 n] 3 n 0 15 (hF.move h.inv (fun k hk => Below.heap_alloc w _ k (hF.lt h.inv hk)) (by rw [World.size_alloc]; omega)) (fun ho => absurd (hF.lt h.inv (zbn hF h.inv _ _ ho)) (Nat.lt_irrefl _)) (by have := h.room; simp only [Form.runCost, Form.stepCost, zhm, List.length_cons, List.length_nil, zaq, hn, cost, zbr] at hr; omega) (zfo w _) rfl)
 have HN := aK hn
 have HH := aK h
 have HG := aK hF
 have HB := aK h2
 clear h hr hF h1 h2 h3 h4 hn hAl
 go_enter Try.func71, Try.ntmps71
 go_wp2_with ((with_reducible refine C.out.mono ?_); rintro e w2 ⟨rfl, H⟩; have c2 : w2.cell? ⟨w.heap.size, 0, none⟩ = some (.int .i64 (F.num s n 0 15).2) := (World.cell?_of_block (w := zge (w.alloc (.cells #[.int .i64 n] 3)) [(⟨w.heap.size, 0, none⟩, .int .i64 (F.num s n 0 15).2)]) (a := ⟨w.heap.size, 0, none⟩) (H.wrote.block w.heap.size (by rw [World.size_alloc]; omega) (fun ho => absurd (HG.out.lt HH.out.inv (zbn HG.out HH.out.inv _ _ ho)) (Nat.lt_irrefl _)))).trans (World.cell?_setCell_same _ _ _ (show (w.alloc (.cells #[.int .i64 n] 3)).cell? ⟨w.heap.size, 0, none⟩ = some (.int .i64 n) by rw [World.cell?_alloc_at _ _ _ _ rfl]; rfl)); have hb2 : w2.heap[b]? = w.heap[b]? := (H.wrote.far (by rw [World.size_alloc]; omega) (fun ho => HH.out.no (zbn HG.out HH.out.inv _ _ ho)) (fun p hp => by simp only [List.mem_singleton] at hp; subst hp; simp only; omega)).trans (Below.heap_alloc w _ b hbl); have cb2 := (World.cell?_of_block (w := w) (a := ⟨b, 21, none⟩) hb2).trans ck; have fb2 := zbg (hb2.trans HB.out) 21; have HS := aK H; clear H hb2)
 go_end0
 have HR := HH.out.rowDid (i := 21) (fs := [.num 0 15]) rfl (d := 8) (w1 := w2.setCell ⟨b, 21, none⟩ (.int .i64 (F.num s n 0 15).2)) (by
  have := Stepped.fault (v := .int .i64 (F.num s n 0 15).2) HG.out HH.out.inv hbl HH.out.no HS.out
  simpa [zaq, HN.out, Form.row, Form.fld, zbt] using this)
 refine ⟨rfl, ?_⟩
 simpa [zhm, Form.run, Form.step, Form.runCost, Form.stepCost, zaq, HN.out, cost, zbr] using HR
end Go.Proofs.Ytcbehfbfaonanaa.Wr
end
