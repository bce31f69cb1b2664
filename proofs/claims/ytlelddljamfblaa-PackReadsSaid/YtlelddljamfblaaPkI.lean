/- Numbers written one behind the other are the bytes of the first ones, and those of the others: the walk of the law. -/
import Derived.Test.YtlelddljamfblaaPkH
import Derived.Outline
namespace Go.Proofs.Ytlelddljamfblaa.Pk
open Go.RowKit Go.Proofs.YtlelddljamfblaaW.PrintWords Go.Proofs.YtlelddljamfblaaW.PrintLast Go.Proofs.YtlelddljamfblaaW.PrintMore Go.Proofs.Ytlelddljamfblaa.PPk
set_option linter.unusedVariables false
set_option linter.unusedSimpArgs false

def Dis (g : Nat) (v : Value) (g' : Nat) (v' : Value) : Prop := ∀ k, WS g v k → ¬ WS g' v' k
theorem Dis.symm {g g' : Nat} {v v' : Value} (h : Dis g v g' v') : Dis g' v' g v := fun k h1 h2 => h k h2 h1
theorem Dis.step {w : World} {g T g' T' : Nat} {v v1 v' : Value} {r r' : List Value} {xs ys : List Int} {b b' : Bool} (h : Dis g v g' v') (hn : NewRow w v v1) (hw : WrAt w g T r v xs b) (hw' : WrAt w g' T' r' v' ys b') : Dis g v1 g' v' := by
  intro k h1 h2
  have hk : k < w.heap.size := by
    rcases h2 with rfl | h2
    · exact blk_lt hw'.1
    · exact own_lt hw'.2.1 k h2
  exact h k (WS.step hn hk h1) h2
def Tri (w wr : World) (g1 g2 g3 T : Nat) (R1 R2 R3 : List Int × Bool) : Prop :=
  ∃ v1 v2 v3, WrAt wr g1 T [] v1 R1.1 R1.2 ∧ WrAt wr g2 T [] v2 R2.1 R2.2 ∧ WrAt wr g3 T [] v3 R3.1 R3.2 ∧ Dis g1 v1 g2 v2 ∧ Dis g2 v2 g3 v3 ∧ Dis g3 v3 g1 v1 ∧
    (∀ k, WS g1 v1 k → w.heap.size ≤ k) ∧ (∀ k, WS g2 v2 k → w.heap.size ≤ k) ∧ (∀ k, WS g3 v3 k → w.heap.size ≤ k) ∧ Below w.heap.size w wr
theorem Tri.rot {w wr : World} {g1 g2 g3 T : Nat} {R1 R2 R3 : List Int × Bool} (h : Tri w wr g1 g2 g3 T R1 R2 R3) : Tri w wr g2 g3 g1 T R2 R3 R1 := by
  obtain ⟨v1, v2, v3, a1, a2, a3, d1, d2, d3, n1, n2, n3, b⟩ := h
  exact ⟨v2, v3, v1, a2, a3, a1, d2, d3, d1, n2, n3, n1, b⟩
theorem below_only {w wr w2 : World} {S : Nat → Prop} (hb : Below w.heap.size w wr) (hO : Only S wr w2) (hs : ∀ k, S k → w.heap.size ≤ k) : Below w.heap.size w w2 :=
  ⟨hO.os.trans hb.os, hO.tape.trans hb.tape, hO.output.trans hb.output, Nat.le_trans hb.size hO.size, fun i hi => (hO.block i (Nat.lt_of_lt_of_le hi hb.size) (fun s => by have := hs i s; omega)).trans (hb.block i hi)⟩
theorem Tri.num {w wr : World} {g1 g2 g3 T : Nat} {R1 R2 R3 : List Int × Bool} (h : Tri w wr g1 g2 g3 T R1 R2 R3) (n : Int) (hn : R1.1.length ≤ 140737488350000) :
    Calls Try.prog 10 #[.pointer (some ⟨g1, 0, none⟩), .int .i64 n] wr fun e w2 => e = .returned (.tuple #[]) ∧ Tri w w2 g1 g2 g3 T (wnum n R1.1 R1.2) R2 R3 := by
  obtain ⟨v1, v2, v3, a1, a2, a3, d1, d2, d3, n1, n2, n3, b⟩ := h
  refine (wNum_c n g1 T [] v1 R1.1 R1.2 wr a1 hn).mono ?_
  rintro e w2 ⟨v, rfl, hW, hN, hO⟩
  refine ⟨rfl, v, v2, v3, hW, a2.only hO (fun s => d1 _ s (.inl rfl)) (fun k hk s => d1 _ s (.inr hk)), a3.only hO (fun s => d3 _ (.inl rfl) s) (fun k hk s => d3 _ (.inr hk) s), d1.step hN a1 a2, d2, (d3.symm.step hN a1 a3).symm, fun k s => ?_, n2, n3, below_only b hO n1⟩
  by_cases hk : k < wr.heap.size
  · exact n1 k (WS.step hN hk s)
  · have := b.size; omega
theorem Tri.bytes {w wr : World} {g1 g2 g3 T : Nat} {R1 R2 R3 : List Int × Bool} (h : Tri w wr g1 g2 g3 T R1 R2 R3) (hb1 : R1.2 = false) (hn : R1.1.length ≤ 140737488350000) :
    Calls Try.prog 11 #[.pointer (some ⟨g1, 0, none⟩)] wr fun e w2 => ∃ q c, e = .returned (.tuple #[.slice (some ⟨q, 0, none⟩) R1.1.length c, .int .i64 0]) ∧ w2.ownsRow 0 5 1 (.slice (some ⟨q, 0, none⟩) R1.1.length c) R1.1.length (nums .u8 R1.1) ∧ Below wr.heap.size wr w2 ∧ Tri w w2 g1 g2 g3 T R1 R2 R3 := by
  obtain ⟨v1, v2, v3, a1, a2, a3, d1, d2, d3, n1, n2, n3, b⟩ := h
  refine (wBytes_c g1 T [] v1 R1.1 wr (hb1 ▸ a1) (Nat.le_trans hn (by decide))).mono ?_
  rintro e w2 ⟨q, c, rfl, hO, h1, h2, h3, hB⟩
  have ho := Only.of_below hB (fun _ => False)
  exact ⟨q, c, rfl, own_less hO (Nat.zero_le _), hB, v1, v2, v3, a1.only ho id (fun _ _ => id), a2.only ho id (fun _ _ => id), a3.only ho id (fun _ _ => id), d1, d2, d3, n1, n2, n3, below_step b hB⟩
theorem Tri.start {w w1 : World} (hb : Below w.heap.size w w1) : Tri w (((w1.alloc (.cells #[.slice none 0 0, .bool false] 29)).alloc (.cells #[.slice none 0 0, .bool false] 29)).alloc (.cells #[.slice none 0 0, .bool false] 29)) w1.heap.size (w1.heap.size + 1) (w1.heap.size + 1 + 1) 29 ([], false) ([], false) ([], false) := by
  have own : ∀ W : World, W.ownsRow 0 5 1 (.slice none 0 0) ([] : List Int).length (nums .u8 []) := fun W => World.ownsRow_nil _ _ _ _
  have hw : ∀ g k, WS g (.slice none 0 0) k → k = g := fun g k s => by
    rcases s with s | s
    · exact s
    · simp [Value.ownBlock] at s
  have hs := hb.size
  refine ⟨.slice none 0 0, .slice none 0 0, .slice none 0 0, ⟨?_, own _, by simp [Value.ownBlock]⟩, ⟨?_, own _, by simp [Value.ownBlock]⟩, ⟨?_, own _, by simp [Value.ownBlock]⟩, ?_, ?_, ?_, ?_, ?_, ?_, below_alloc (below_alloc (below_alloc hb _) _) _⟩
  · rw [Below.heap_alloc _ _ _ (by simp; omega), Below.heap_alloc _ _ _ (by simp)]; exact heap_alloc_new _ _
  · rw [Below.heap_alloc _ _ _ (by simp)]; simpa using heap_alloc_new (w1.alloc (.cells #[.slice none 0 0, .bool false] 29)) _
  · simpa using heap_alloc_new ((w1.alloc (.cells #[.slice none 0 0, .bool false] 29)).alloc (.cells #[.slice none 0 0, .bool false] 29)) _
  all_goals (intro k s; have := hw _ _ s; first | omega | (intro s'; have := hw _ _ s'; omega))

/-- Numbers one behind the other. -/
def encs (l : List Int) : List Int := l.flatMap fun n => enc n.toNat
theorem encs_append (a b : List Int) : encs (a ++ b) = encs a ++ encs b := by simp [encs]
theorem encs_le {l : List Int} (h : ∀ n ∈ l, 0 ≤ n ∧ n ≤ 9007199254740992) : (encs l).length ≤ 8 * l.length := by
  induction l with
  | nil => simp [encs]
  | cons n l ih =>
    have h1 := ih (fun x hx => h x (by simp [hx]))
    obtain ⟨h2, h3⟩ := h n (by simp)
    have h4 := enc_len8 (n := n.toNat) (by omega)
    simp only [encs, List.flatMap_cons, List.length_append, List.length_cons] at h1 ⊢
    omega
theorem wnum_encs {n : Int} (h0 : 0 ≤ n) (h1 : n ≤ 9007199254740992) (l : List Int) : wnum n (encs l) false = (encs (l ++ [n]), false) := by
  unfold wnum
  rw [if_neg (by omega), if_neg (by simp), encs_append]
  simp [encs]
def SplitAt (w wr : World) (l : List Int) (cut k : Nat) (b : Nat) : Prop :=
  Tri w wr b (b + 1) (b + 1 + 1) 29 (encs (l.take k), false) (encs ((l.take k).take cut), false) (encs ((l.take k).drop cut), false) ∧ (∀ n ∈ l.take k, 0 ≤ n ∧ n ≤ 9007199254740992)

theorem take_snoc' {l : List Int} {k : Nat} (h : k < l.length) : l.take (k + 1) = l.take k ++ [rd l k] := by
  rw [List.take_succ_eq_append_getElem h]
  unfold rd
  rw [Int.toNat_natCast, List.getD_eq_getElem?_getD, List.getElem?_eq_getElem h]
  rfl
theorem SplitAt.all {w wr : World} {l : List Int} {cut k b : Nat} (h : SplitAt w wr l cut k b) (hl : l.length ≤ 10000) (hk : k < l.length) (h0 : 0 ≤ rd l k) (h1 : rd l k ≤ 9007199254740992) :
    Calls Try.prog 10 #[.pointer (some ⟨b, 0, none⟩), .int .i64 (rd l k)] wr fun e w2 => e = .returned (.tuple #[]) ∧ Tri w w2 b (b + 1) (b + 1 + 1) 29 (encs (l.take (k + 1)), false) (encs ((l.take k).take cut), false) (encs ((l.take k).drop cut), false) := by
  have hle := encs_le h.2
  rw [List.length_take] at hle
  have := h.1.num (rd l k) (by simp only; omega)
  rw [wnum_encs h0 h1, ← take_snoc' hk] at this
  exact this
theorem SplitAt.low {w wr : World} {l : List Int} {cut k b : Nat} (hb : ∀ n ∈ l.take k, 0 ≤ n ∧ n ≤ 9007199254740992) (hl : l.length ≤ 10000) (hk : k < l.length) (h0 : 0 ≤ rd l k) (h1 : rd l k ≤ 9007199254740992) (hc : k < cut)
    (h : Tri w wr b (b + 1) (b + 1 + 1) 29 (encs (l.take (k + 1)), false) (encs ((l.take k).take cut), false) (encs ((l.take k).drop cut), false)) :
    Calls Try.prog 10 #[.pointer (some ⟨b + 1, 0, none⟩), .int .i64 (rd l k)] wr fun e w2 => e = .returned (.tuple #[]) ∧ SplitAt w w2 l cut (k + 1) b := by
  have hle := encs_le (l := (l.take k).take cut) (fun n hn => hb n (List.mem_of_mem_take hn))
  rw [List.length_take, List.length_take] at hle
  refine (h.rot.num (rd l k) (by simp only; omega)).mono ?_
  rintro e w2 ⟨rfl, k2⟩
  rw [wnum_encs h0 h1] at k2
  have e1 : (l.take (k + 1)).take cut = (l.take k).take cut ++ [rd l k] := by
    rw [List.take_take, List.take_take, show min cut (k + 1) = k + 1 by omega, show min cut k = k by omega, take_snoc' hk]
  have e2 : (l.take (k + 1)).drop cut = (l.take k).drop cut := by
    rw [List.drop_eq_nil_of_le (by rw [List.length_take]; omega), List.drop_eq_nil_of_le (by rw [List.length_take]; omega)]
  refine ⟨rfl, ?_, fun n hn => ?_⟩
  · rw [e1, e2]; exact k2.rot.rot
  · rw [take_snoc' hk] at hn
    rcases List.mem_append.1 hn with hn | hn
    · exact hb n hn
    · obtain rfl := List.mem_singleton.1 hn
      exact ⟨h0, h1⟩
theorem SplitAt.high {w wr : World} {l : List Int} {cut k b : Nat} (hb : ∀ n ∈ l.take k, 0 ≤ n ∧ n ≤ 9007199254740992) (hl : l.length ≤ 10000) (hk : k < l.length) (h0 : 0 ≤ rd l k) (h1 : rd l k ≤ 9007199254740992) (hc : ¬ k < cut)
    (h : Tri w wr b (b + 1) (b + 1 + 1) 29 (encs (l.take (k + 1)), false) (encs ((l.take k).take cut), false) (encs ((l.take k).drop cut), false)) :
    Calls Try.prog 10 #[.pointer (some ⟨b + 1 + 1, 0, none⟩), .int .i64 (rd l k)] wr fun e w2 => e = .returned (.tuple #[]) ∧ SplitAt w w2 l cut (k + 1) b := by
  have hle := encs_le (l := (l.take k).drop cut) (fun n hn => hb n (List.mem_of_mem_drop hn))
  rw [List.length_drop, List.length_take] at hle
  refine (h.rot.rot.num (rd l k) (by simp only; omega)).mono ?_
  rintro e w2 ⟨rfl, k2⟩
  rw [wnum_encs h0 h1] at k2
  have e1 : (l.take (k + 1)).take cut = (l.take k).take cut := by
    rw [List.take_take, List.take_take, show min cut (k + 1) = min cut k by omega]
  have e2 : (l.take (k + 1)).drop cut = (l.take k).drop cut ++ [rd l k] := by
    rw [take_snoc' hk, List.drop_append_of_le_length (by rw [List.length_take]; omega)]
  refine ⟨rfl, ?_, fun n hn => ?_⟩
  · rw [e1, e2]; exact k2.rot
  · rw [take_snoc' hk] at hn
    rcases List.mem_append.1 hn with hn | hn
    · exact hb n hn
    · obtain rfl := List.mem_singleton.1 hn
      exact ⟨h0, h1⟩
theorem SplitAt.below {w wr : World} {l : List Int} {cut k b : Nat} (h : SplitAt w wr l cut k b) : Below w.heap.size w wr := by
  obtain ⟨⟨v1, v2, v3, _, _, _, _, _, _, _, _, _, hb⟩, _⟩ := h
  exact hb
theorem strOf_append (a b : List Int) : strOfNums (a ++ b) = strOfNums a ++ strOfNums b := by
  apply ByteArray.ext
  rw [ByteArray.data_append]
  simp [strOfNums]

set_option maxRecDepth 100000 in
set_option maxHeartbeats 4000000 in
theorem packSplits_c (A : Option Addr) (c : Nat) (l : List Int) (cut : Int) (w : World) (hr : ReadsInt w .i64 A l.length l) :
    Calls Try.prog 3 #[.slice A l.length c, .int .i64 cut] w fun e w' => e = .returned (.bool true) ∧ Below w.heap.size w w' := by
  have HR := Aside0.mk hr
  clear hr
  generalize hll : l.length = n at *
  have HLL := Aside0.mk hll
  clear hll
  have C0 := Aside0.mk (awake_c w)
  by_cases h1 : cut < 0
  · have h1' : decide (cut < 0) = true := decide_eq_true h1
    go_enter Try.func3, Try.ntmps3
    go_wp2_with (refine C0.out.mono ?_; rintro e w1 ⟨rfl, hB⟩; have HB := Aside0.mk hB; clear hB)
    go_ret
    exact ⟨rfl, HB.out⟩
  have h1' : decide (cut < 0) = false := decide_eq_false h1
  obtain ⟨cut, rfl⟩ := Int.eq_ofNat_of_zero_le (show 0 ≤ cut by omega)
  clear h1
  by_cases h2 : n < cut
  · have h2' : decide (n < cut) = true := decide_eq_true h2
    go_enter Try.func3, Try.ntmps3
    go_wp2_with (refine C0.out.mono ?_; rintro e w1 ⟨rfl, hB⟩; have HB := Aside0.mk hB; clear hB)
    go_ret
    exact ⟨rfl, HB.out⟩
  have h2' : decide (n < cut) = false := decide_eq_false h2
  by_cases h3 : 10000 < n
  · have h3' : decide (10000 < n) = true := decide_eq_true h3
    go_enter Try.func3, Try.ntmps3
    go_wp2_with (refine C0.out.mono ?_; rintro e w1 ⟨rfl, hB⟩; have HB := Aside0.mk hB; clear hB)
    go_ret
    exact ⟨rfl, HB.out⟩
  have h3' : decide (10000 < n) = false := decide_eq_false h3
  have hn : n ≤ 10000 := by omega
  clear h3 h2
  go_enter Try.func3, Try.ntmps3
  go_wp2_with (refine C0.out.mono ?_; rintro e w1 ⟨rfl, hB⟩; have HT := Aside0.mk (Tri.start hB); have HB := Aside0.mk hB; clear hB)
  go_loopw [39] (fun i wr => ∃ k : Nat, i = .int .i64 k ∧ k ≤ n ∧ Aside0 (SplitAt w wr l cut k w1.heap.size)) (fun i _ => n - (intOf i).toNat)
  case atStart => exact ⟨0, rfl, by omega, ⟨⟨by rw [List.take_zero, List.take_nil, List.drop_nil]; exact HT.out, fun n hn => by simp at hn⟩⟩⟩
  case round =>
    clear HT
    obtain ⟨k, rfl, hk, HV⟩ := hrel
    by_cases hlt : k < n
    · have hkl : k < l.length := by rw [HLL.out]; exact hlt
      have HKL := Aside0.mk hkl
      have HV2 := Aside0.mk HV.out.2
      have HLE := Aside0.mk (show l.length ≤ 10000 by rw [HLL.out]; omega)
      obtain ⟨ad, e, c0⟩ := HR.out.at_ (k : Int) (by omega) (by omega)
      cases e
      replace c0 := (HV.out.below.cell (World.block_lt_of_cell? w _ c0)).trans c0
      rw [Int.toNat_natCast] at c0
      clear hkl
      have HX := Aside0.mk (show rd l k = rd l k from rfl)
      by_cases x0 : rd l k < 0
      · have x0' : decide (rd l k < 0) = true := decide_eq_true x0
        go_wp2
        go_ret
        exact ⟨rfl, HV.out.below⟩
      have x0' : decide (rd l k < 0) = false := decide_eq_false x0
      by_cases x1 : 9007199254740992 < rd l k
      · have x1' : decide (9007199254740992 < rd l k) = true := decide_eq_true x1
        go_wp2
        go_ret
        exact ⟨rfl, HV.out.below⟩
      have x1' : decide (9007199254740992 < rd l k) = false := decide_eq_false x1
      have X0 := Aside0.mk (show 0 ≤ rd l k by omega)
      have X1 := Aside0.mk (show rd l k ≤ 9007199254740992 by omega)
      clear x0 x1
      by_cases hc : k < cut
      · have hc' : decide (k < cut) = true := decide_eq_true hc
        go_wp2_with (first
          | ((with_reducible refine (HV.out.all HLE.out HKL.out X0.out X1.out).mono ?_); rintro e w2 ⟨rfl, h⟩; have H2 := Aside0.mk h; clear h)
          | ((with_reducible refine (SplitAt.low HV2.out HLE.out HKL.out X0.out X1.out hc H2.out).mono ?_); rintro e w3 ⟨rfl, h⟩; have H3 := Aside0.mk h; clear h))
        go_roundw
        case rel => exact ⟨k + 1, by go_num, by omega, H3⟩
        case measure => simp [intOf]; omega
      · have hc' : decide (k < cut) = false := decide_eq_false hc
        go_wp2_with (first
          | ((with_reducible refine (HV.out.all HLE.out HKL.out X0.out X1.out).mono ?_); rintro e w2 ⟨rfl, h⟩; have H2 := Aside0.mk h; clear h)
          | ((with_reducible refine (SplitAt.high HV2.out HLE.out HKL.out X0.out X1.out hc H2.out).mono ?_); rintro e w3 ⟨rfl, h⟩; have H3 := Aside0.mk h; clear h))
        go_roundw
        case rel => exact ⟨k + 1, by go_num, by omega, H3⟩
        case measure => simp [intOf]; omega
    · obtain rfl : k = n := by omega
      have e0 : l.take k = l := by rw [← HLL.out, List.take_length]
      have HT := HV.out.1
      have HA := HV.out.2
      rw [e0] at HT HA
      have l1 := encs_le HA
      have l2 := encs_le (l := l.take cut) (fun n hn => HA n (List.mem_of_mem_take hn))
      have l3 := encs_le (l := l.drop cut) (fun n hn => HA n (List.mem_of_mem_drop hn))
      rw [List.length_take] at l2
      rw [List.length_drop] at l3
      rw [HLL.out] at l1 l2 l3
      have L1 := Aside0.mk (show (encs l).length ≤ 140737488350000 by omega)
      have L2 := Aside0.mk (show (encs (l.take cut)).length ≤ 140737488350000 by omega)
      have L3 := Aside0.mk (show (encs (l.drop cut)).length ≤ 140737488350000 by omega)
      have sz : ¬ 9223372036854775807 < (strOfNums (encs (l.take cut))).size + (strOfNums (encs (l.drop cut))).size := by rw [strOfNums_size, strOfNums_size]; omega
      have HT1 := Aside0.mk HT
      have HAll := Aside0.mk HA
      have ES := Aside0.mk (show strOfNums (encs l) = strOfNums (encs (l.take cut)) ++ strOfNums (encs (l.drop cut)) by rw [← strOf_append, ← encs_append, List.take_append_drop])
      clear HT HA l1 l2 l3 e0
      go_wp2_with (first
        | ((with_reducible refine (HT1.out.bytes rfl L1.out).mono ?_); rintro e w2 ⟨q1, d1, rfl, hO, hB1, h⟩; have HO1 := Aside0.mk hO; have H2 := Aside0.mk h.rot; clear h hO hB1)
        | ((with_reducible refine (H2.out.bytes rfl L2.out).mono ?_); rintro e w3 ⟨q2, d2, rfl, hO, hB1, h⟩; have HO2 := Aside0.mk hO; have HP1 := Aside0.mk (pw_own_below HO1.out hB1); have H3 := Aside0.mk h.rot; clear h hO hB1)
        | ((with_reducible refine (H3.out.bytes rfl L3.out).mono ?_); rintro e w4 ⟨q3, d3, rfl, hO, hB1, h⟩; have s3 := own_string (P := Try.prog) Try.underlying25 Try.underlying5 Try.underlying9 hO; have s1 := own_string (P := Try.prog) Try.underlying25 Try.underlying5 Try.underlying9 (pw_own_below HP1.out hB1); have s2 := own_string (P := Try.prog) Try.underlying25 Try.underlying5 Try.underlying9 (pw_own_below HO2.out hB1); have H4 := Aside0.mk h; clear h hO hB1))
      go_ret
      refine ⟨congrArg (fun b => Ending.returned (.bool b)) (by rw [ES.out]; exact beq_self_eq_true _), ?_⟩
      obtain ⟨_, _, _, _, _, _, _, _, _, _, _, _, hb⟩ := H4.out
      exact hb
end Go.Proofs.Ytlelddljamfblaa.Pk
