/- Bytes that are read without a fault are those that are written of what was read: the walk of the law. -/
import Derived.Test.YtlelddljamfblaaPkR
import Derived.Outline
namespace Go.Proofs.Ytlelddljamfblaa.Pk
open Go.RowKit Go.Proofs.YtlelddljamfblaaW.PrintWords Go.Proofs.YtlelddljamfblaaW.PrintLast Go.Proofs.YtlelddljamfblaaW.PrintMore Go.Proofs.Ytlelddljamfblaa.PPk
set_option linter.unusedVariables false
set_option linter.unusedSimpArgs false

theorem info_item : (Try.prog.info? 46).map (fun i => (i.zero, i.size, i.bytes)) = some (some (.agg #[.int .i64 0, .int .i64 0, .string ⟨#[]⟩]), 3, 32) := by kernel_rfl
theorem rend_ok {bs : List Int} {bad : Bool} (h : rend bs bad = 0) : bad = false ∧ bs = [] := by
  unfold rend at h
  split at h
  · cases h
  · rename_i hn
    simp at hn
    exact hn
theorem rend_two {bs : List Int} {bad : Bool} (h : rend bs bad ≠ 0) : rend bs bad = 2 := by
  unfold rend at h ⊢
  split
  · rfl
  · rename_i hn; rw [if_neg hn] at h; exact absurd rfl h
theorem same_row {A : Option Addr} {c n : Nat} {l : List Int} {R : List Int × Bool} {w W : World} {q1 d1 : Nat} (hn : l.length = n) (hr : ReadsInt W .u8 A n l) (hc : n ≤ c) (hG : GoodRow R w W q1 d1) (he : R.1 = l) :
    Calls Try.prog 16 #[.slice A n c, .slice (some ⟨q1, 0, none⟩) R.1.length d1] W fun e w' => e = .returned (.bool true) ∧ Drawn0 W w' := by
  subst hn
  exact meridianref01_Same.calls _ _ _ _ _ _ true _ (C_of hr) hc (GoodRow.reads hG (Below.refl _ _)) (GoodRow.cap hG) (by rw [he]; exact same_refl l)
/-- The loop's state. -/
def OneSt (w wr : World) (g q : Nat) (l0 : List Int) (k : Nat) (v : Value) (cs : List Int) (b : Bool) : Prop := ∃ items : List S46, OneAt w wr g q v items cs b ∧ Told l0 items cs b ∧ items.length = k
theorem OneSt.bel {w wr : World} {g q : Nat} {l0 : List Int} {k : Nat} {v : Value} {cs : List Int} {b : Bool} (h : OneSt w wr g q l0 k v cs b) : Below w.heap.size w wr := by
  obtain ⟨items, h, _⟩ := h
  exact h.1.bel
set_option maxRecDepth 100000 in
set_option maxHeartbeats 8000000 in
theorem packOne_c (A : Option Addr) (c : Nat) (l : List Int) (A1 : Option Addr) (c1 : Nat) (l1 : List Int) (w : World) (hr : ReadsInt w .u8 A l.length l) (hc : l.length ≤ c) (hb : ∀ x ∈ l, IsB x) (hr1 : ReadsInt w .i64 A1 l1.length l1) :
    Calls Try.prog 6 #[.slice A l.length c, .slice A1 l1.length c1] w fun e w' => e = .returned (.bool true) ∧ Below w.heap.size w w' := by
  have HR := Aside0.mk hr
  have HR1 := Aside0.mk hr1
  have HB0 := Aside0.mk hb
  have C0 := Aside0.mk (awake_c w)
  have hn1 : l1.length ≤ 9223372036854775807 := hr1.2.1
  have HC := Aside0.mk hc
  clear hr hb hr1 hc
  generalize hll : l1.length = n1 at *
  have HLL := Aside0.mk hll
  clear hll
  generalize hl0 : l.length = n at *
  have HL0 := Aside0.mk hl0
  clear hl0
  by_cases hbig : 10000 < n
  · have hbig' : decide (10000 < n) = true := decide_eq_true hbig
    go_enter Try.func6, Try.ntmps6
    go_wp2_with (go_at_call 9; (with_reducible refine C0.out.mono ?_); rintro e w1 ⟨rfl, hB⟩; have HB := Aside0.mk hB; clear hB)
    go_ret
    exact ⟨rfl, HB.out⟩
  have hbig' : decide (10000 < n) = false := decide_eq_false hbig
  have HN := Aside0.mk (show n ≤ 140737488355328 by omega)
  have hn0 : n ≤ 10000 := by omega
  clear hbig
  go_enter Try.func6, Try.ntmps6
  go_wp2_with (first
    | (go_at_call 9; (with_reducible refine C0.out.mono ?_); rintro e w1 ⟨rfl, hB⟩; have HB := Aside0.mk hB; clear hB)
    | (go_at_call 18; (with_reducible refine (read_new (w := w) _ _ _ l HB.out (ReadsInt.below HR.out HB.out) HN.out).mono ?_); rintro e w2 ⟨g, q, rfl, hN⟩; have HN2 := Aside0.mk hN; clear hN))
  have H0 := Aside0.mk (show OneSt w (w2.alloc (.cells #[] 46)) g q l 0 (.slice (some ⟨w2.heap.size, 0, none⟩) 0 0) l false from ⟨[], OneAt.start HN2.out, ⟨fun _ => ⟨rfl, fun x hx => by simp at hx⟩, fun x hx => by simp at hx, HB0.out⟩, rfl⟩)
  clear HN2 C0 HB
  go_loopw [6, 7] (fun v i wr => ∃ (k : Nat) (cs : List Int) (b : Bool), i = .int .i64 k ∧ k ≤ n1 ∧ k ≤ 1000 ∧ Aside0 (OneSt w wr g q l k v cs b)) (fun _ i _ => 1000 - (intOf i).toNat)
  case atStart => exact ⟨0, l, false, rfl, by omega, by omega, H0⟩
  case round =>
    clear H0
    obtain ⟨k, cs, b, rfl, hk, hk2, HV⟩ := hrel
    by_cases hlt : k < n1 ∧ k < 1000
    · obtain ⟨hlt, hlt2⟩ := hlt
      obtain ⟨ad, e, c0⟩ := HR1.out.at_ (k : Int) (by omega) (by omega)
      cases e
      rw [Int.toNat_natCast] at c0
      replace c0 := (HV.out.bel.cell (World.block_lt_of_cell? w _ c0)).trans c0
      generalize rd l1 k = x at *
      obtain ⟨items, hat, htold, hitems⟩ := HV.out
      have HAT := Aside0.mk hat
      have HTO := Aside0.mk htold
      have HIT := Aside0.mk hitems
      have HLT := Aside0.mk (show (items.length + 1) * 32 ≤ 140737488355328 by rw [hitems]; omega)
      have hR := (hat.1.below (below_alloc (Below.refl _ _) (.cells #[.int .i64 x, .int .i64 0, .string ⟨#[]⟩] 46)))
      have hRX := Aside0.mk hR
      clear hat htold hitems hR HV
      have xb := Aside0.mk (show (wr.alloc (.cells #[.int .i64 x, .int .i64 0, .string ⟨#[]⟩] 46)).heap[wr.heap.size]? = _ from heap_alloc_new _ _)
      have hxs := Aside0.mk (show wr.heap.size ≠ g ∧ wr.heap.size ≠ q from by have := HAT.out.1.1.lt; omega)
      by_cases h1 : x = 1
      · subst h1
        have hT := HTO.out.flag (r := (rflag cs b).1) (cs2 := (rflag cs b).2.1) (b2 := (rflag cs b).2.2) rfl
        have C0 := rFlag_c g q cs b _ hRX.out.1 HTO.out.isB
        generalize rflag cs b = F at *
        obtain ⟨f, cs2, b2⟩ := F
        simp only at hT
        have HTT := Aside0.mk hT
        have HC := Aside0.mk C0
        clear C0 hT
        cases f
        · go_wp2_with (first
            | (go_at_call 19; (with_reducible refine HC.out.mono ?_); rintro e w4 ⟨rfl, hR4, hO4⟩; have HW := Aside0.mk (HAT.out.turn hR4 (((Only.refl (· = g) wr).alloc (.cells #[.int .i64 1, .int .i64 0, .string ⟨#[]⟩] 46)).then_ hO4)); have hb4 := hO4.blk xb.out hxs.out.1; have d0 := blk_cell hb4 0; have d1 := blk_cell hb4 1; have d2 := blk_cell hb4 2; have fz := blk_frozen hb4 0; simp only [List.getElem?_toArray, List.getElem?_cons_zero, List.getElem?_cons_succ] at d0 d1 d2; clear hR4 hO4 hb4)
            | (at_builtin; refine Kd.R_append k46 (w0 := w4) w.heap.size rfl (.tmp 49) (.tmp 51) 35 46 (.agg #[.int .i64 0, .int .i64 0, .string ⟨#[]⟩]) 32 rfl Try.underlying35 info_item rfl (by decide) (by decide) u6 items ⟨1, 0, ⟨#[]⟩⟩ [.int .i64 1, .int .i64 0, .string ⟨#[]⟩] (fun k => k ≠ g ∧ k ≠ q) (fun _ => False) rfl rfl (k46_mkM _ _ _ ⟨1, 0, ⟨#[]⟩⟩) (fun _ h => h.elim) (OneAt.fresh HW.out) HW.out.2 (Below.refl _ _) HW.out.1.bel.size HLT.out ?_; intro v1 w6 hR6 hB6 hg6 hat6; have HX := Aside0.mk (OneAt.app HW.out hR6 hg6); clear hR6 hB6 hg6 hat6))
          go_roundw
          case rel => exact ⟨k + 1, cs2, b2, by go_num, by omega, by omega, ⟨⟨items ++ [⟨1, 0, ⟨#[]⟩⟩], HX.out, HTT.out, by rw [List.length_append, HIT.out]; rfl⟩⟩⟩
          case measure => simp [intOf]; omega
        · go_wp2_with (first
            | (go_at_call 19; (with_reducible refine HC.out.mono ?_); rintro e w4 ⟨rfl, hR4, hO4⟩; have HW := Aside0.mk (HAT.out.turn (hR4.only (Only.at_ w4 wr.heap.size 1 (.int .i64 1)) (Ne.symm hxs.out.1) (Ne.symm hxs.out.2)) ((((Only.refl (· = g) wr).alloc (.cells #[.int .i64 1, .int .i64 0, .string ⟨#[]⟩] 46)).then_ hO4).set (p := ⟨wr.heap.size, 1, none⟩) (.inl (Nat.le_refl _)) (.int .i64 1))); have hb4 := hO4.blk xb.out hxs.out.1; have d0 := blk_cell hb4 0; have d1 := blk_cell hb4 1; have d2 := blk_cell hb4 2; have fz := blk_frozen hb4 1; simp only [List.getElem?_toArray, List.getElem?_cons_zero, List.getElem?_cons_succ] at d0 d1 d2; clear hR4 hO4 hb4)
            | (at_builtin; refine Kd.R_append k46 (w0 := (w4.setCell ⟨wr.heap.size, 1, none⟩ (.int .i64 1))) w.heap.size rfl (.tmp 49) (.tmp 51) 35 46 (.agg #[.int .i64 0, .int .i64 0, .string ⟨#[]⟩]) 32 rfl Try.underlying35 info_item rfl (by decide) (by decide) u6 items ⟨1, 1, ⟨#[]⟩⟩ [.int .i64 1, .int .i64 1, .string ⟨#[]⟩] (fun k => k ≠ g ∧ k ≠ q) (fun _ => False) rfl (by rw [World.size_setCell]; rfl) (k46_mkM _ _ _ ⟨1, 1, ⟨#[]⟩⟩) (fun _ h => h.elim) (OneAt.fresh HW.out) HW.out.2 (Below.refl _ _) HW.out.1.bel.size HLT.out ?_; intro v1 w6 hR6 hB6 hg6 hat6; have HX := Aside0.mk (OneAt.app HW.out hR6 hg6); clear hR6 hB6 hg6 hat6))
          go_roundw
          case rel => exact ⟨k + 1, cs2, b2, by go_num, by omega, by omega, ⟨⟨items ++ [⟨1, 1, ⟨#[]⟩⟩], HX.out, HTT.out, by rw [List.length_append, HIT.out]; rfl⟩⟩⟩
          case measure => simp [intOf]; omega
      · have h1' : (x == 1) = false := by simpa using h1
        by_cases h2 : x = 2
        · subst h2
          clear h1
          have hT := HTO.out.text (s := (rtext ((10000 : Nat) : Int) cs b).1) (cs2 := (rtext ((10000 : Nat) : Int) cs b).2.1) (b2 := (rtext ((10000 : Nat) : Int) cs b).2.2) rfl
          have C0 : Calls Try.prog 20 #[.pointer (some ⟨g, 0, none⟩), .int .i64 10000] _ (ResS g q (rtext ((10000 : Nat) : Int) cs b) _) := rText_c ((10000 : Nat) : Int) g q cs b _ hRX.out.1 HTO.out.isB
          generalize rtext ((10000 : Nat) : Int) cs b = F at *
          obtain ⟨f, cs2, b2⟩ := F
          simp only at hT
          have HTT := Aside0.mk hT
          have HC := Aside0.mk C0
          clear C0 hT
          go_wp2_with (first
            | (go_at_call 20; (with_reducible refine HC.out.mono ?_); rintro e w4 ⟨rfl, hR4, hO4⟩; have HW := Aside0.mk (HAT.out.turn (hR4.only (Only.at_ w4 wr.heap.size 2 (.string (strOfNums f))) (Ne.symm hxs.out.1) (Ne.symm hxs.out.2)) ((((Only.refl (· = g) wr).alloc (.cells #[.int .i64 2, .int .i64 0, .string ⟨#[]⟩] 46)).then_ hO4).set (p := ⟨wr.heap.size, 2, none⟩) (.inl (Nat.le_refl _)) (.string (strOfNums f)))); have hb4 := hO4.blk xb.out hxs.out.1; have d0 := blk_cell hb4 0; have d1 := blk_cell hb4 1; have d2 := blk_cell hb4 2; have fz := blk_frozen hb4 2; simp only [List.getElem?_toArray, List.getElem?_cons_zero, List.getElem?_cons_succ] at d0 d1 d2; clear hR4 hO4 hb4)
            | (at_builtin; refine Kd.R_append k46 (w0 := (w4.setCell ⟨wr.heap.size, 2, none⟩ (.string (strOfNums f)))) w.heap.size rfl (.tmp 49) (.tmp 51) 35 46 (.agg #[.int .i64 0, .int .i64 0, .string ⟨#[]⟩]) 32 rfl Try.underlying35 info_item rfl (by decide) (by decide) u6 items ⟨2, 0, strOfNums f⟩ [.int .i64 2, .int .i64 0, .string (strOfNums f)] (fun k => k ≠ g ∧ k ≠ q) (fun _ => False) rfl (by rw [World.size_setCell]; rfl) (k46_mkM _ _ _ ⟨2, 0, strOfNums f⟩) (fun _ h => h.elim) (OneAt.fresh HW.out) HW.out.2 (Below.refl _ _) HW.out.1.bel.size HLT.out ?_; intro v1 w6 hR6 hB6 hg6 hat6; have HX := Aside0.mk (OneAt.app HW.out hR6 hg6); clear hR6 hB6 hg6 hat6))
          go_roundw
          case rel => exact ⟨k + 1, cs2, b2, by go_num, by omega, by omega, ⟨⟨items ++ [⟨2, 0, strOfNums f⟩], HX.out, HTT.out, by rw [List.length_append, HIT.out]; rfl⟩⟩⟩
          case measure => simp [intOf]; omega
        · have h2' : (x == 2) = false := by simpa using h2
          have HK1 := Aside0.mk h1
          have HK2 := Aside0.mk h2
          clear h1 h2
          have hT := HTO.out.num (k := x) HK1.out HK2.out (n := (rnum cs b).1) (cs2 := (rnum cs b).2.1) (b2 := (rnum cs b).2.2) rfl
          have C0 := rNum_c g q cs b _ hRX.out.1 HTO.out.isB
          generalize rnum cs b = F at *
          obtain ⟨f, cs2, b2⟩ := F
          simp only at hT
          have HTT := Aside0.mk hT
          have HC := Aside0.mk C0
          clear C0 hT
          go_wp2_with (first
            | (go_at_call 21; (with_reducible refine HC.out.mono ?_); rintro e w4 ⟨rfl, hR4, hO4⟩; have HW := Aside0.mk (HAT.out.turn (hR4.only (Only.at_ w4 wr.heap.size 1 (.int .i64 f)) (Ne.symm hxs.out.1) (Ne.symm hxs.out.2)) ((((Only.refl (· = g) wr).alloc (.cells #[.int .i64 x, .int .i64 0, .string ⟨#[]⟩] 46)).then_ hO4).set (p := ⟨wr.heap.size, 1, none⟩) (.inl (Nat.le_refl _)) (.int .i64 f))); have hb4 := hO4.blk xb.out hxs.out.1; have d0 := blk_cell hb4 0; have d1 := blk_cell hb4 1; have d2 := blk_cell hb4 2; have fz := blk_frozen hb4 1; simp only [List.getElem?_toArray, List.getElem?_cons_zero, List.getElem?_cons_succ] at d0 d1 d2; clear hR4 hO4 hb4)
            | (at_builtin; refine Kd.R_append k46 (w0 := (w4.setCell ⟨wr.heap.size, 1, none⟩ (.int .i64 f))) w.heap.size rfl (.tmp 49) (.tmp 51) 35 46 (.agg #[.int .i64 0, .int .i64 0, .string ⟨#[]⟩]) 32 rfl Try.underlying35 info_item rfl (by decide) (by decide) u6 items ⟨x, f, ⟨#[]⟩⟩ [.int .i64 x, .int .i64 f, .string ⟨#[]⟩] (fun k => k ≠ g ∧ k ≠ q) (fun _ => False) rfl (by rw [World.size_setCell]; rfl) (k46_mkM _ _ _ ⟨x, f, ⟨#[]⟩⟩) (fun _ h => h.elim) (OneAt.fresh HW.out) HW.out.2 (Below.refl _ _) HW.out.1.bel.size HLT.out ?_; intro v1 w6 hR6 hB6 hg6 hat6; have HX := Aside0.mk (OneAt.app HW.out hR6 hg6); clear hR6 hB6 hg6 hat6))
          go_roundw
          case rel => exact ⟨k + 1, cs2, b2, by go_num, by omega, by omega, ⟨⟨items ++ [⟨x, f, ⟨#[]⟩⟩], HX.out, HTT.out, by rw [List.length_append, HIT.out]; rfl⟩⟩⟩
          case measure => simp [intOf]; omega
    · have hguard : decide (k < n1) = false ∨ (k < n1 ∧ ¬ k < 1000) := by
        by_cases hq : k < n1
        · exact .inr ⟨hq, fun h => hlt ⟨hq, h⟩⟩
        · exact .inl (decide_eq_false hq)
      clear hlt
      obtain ⟨items, hat, htold, hitems⟩ := HV.out
      have HAT := Aside0.mk hat
      have HBel := Aside0.mk hat.1.bel
      have CE := end_rd hat.1
      obtain ⟨A2, c2, hv, hcc, hKC⟩ := Kd.R_reads hat.2
      by_cases hend : rend cs b = 0
      · obtain ⟨rfl, rfl⟩ := rend_ok hend
        obtain ⟨he, hg⟩ := htold.eq rfl
        rw [List.append_nil] at he
        have hwall := wall_all hg
        rw [← he] at hwall
        have HWall := Aside0.mk hwall
        have HSZ := Aside0.mk htold.sz
        have HIL := Aside0.mk (show items.length ≤ 100000 by omega)
        have HKC := Aside0.mk hKC
        rw [hend] at CE
        have HCE := Aside0.mk CE
        have hwall' := hwall
        clear hat htold CE hend he hg hwall hKC HV hitems
        subst hv
        have HWE := Aside0.mk (show (wall items).1 = l by rw [hwall'])
        clear hwall'
        rcases hguard with hg1 | ⟨hg1, hg2⟩

        · go_wp2_with (first
            | (go_at_call 22; (with_reducible refine HCE.out.mono ?_); rintro e w4 ⟨rfl, rfl⟩)
            | (go_at_call 13; (with_reducible refine (written_c _ _ items _ HKC.out HSZ.out HIL.out).mono ?_); intro e w5 hw; obtain ⟨q1, d1, he5, hG⟩ := hw.good (by rw [HWall.out]); have HG1 := Aside0.mk hG; have HB5 := Aside0.mk (below_step HBel.out hG.2.2.2.2); subst he5; clear hG hw)
            | (go_at_call 16; (with_reducible refine (same_row HL0.out (ReadsInt.below HR.out HB5.out) HC.out HG1.out HWE.out).mono ?_); rintro e w6 ⟨rfl, hD⟩; have HB6 := Aside0.mk (drawn_below HB5.out hD); clear hD))
          go_ret
          exact ⟨rfl, HB6.out⟩
        · obtain rfl : k = 1000 := by omega
          clear hg2
          go_wp2_with (first
            | (go_at_call 22; (with_reducible refine HCE.out.mono ?_); rintro e w4 ⟨rfl, rfl⟩)
            | (go_at_call 13; (with_reducible refine (written_c _ _ items _ HKC.out HSZ.out HIL.out).mono ?_); intro e w5 hw; obtain ⟨q1, d1, he5, hG⟩ := hw.good (by rw [HWall.out]); have HG1 := Aside0.mk hG; have HB5 := Aside0.mk (below_step HBel.out hG.2.2.2.2); subst he5; clear hG hw)
            | (go_at_call 16; (with_reducible refine (same_row HL0.out (ReadsInt.below HR.out HB5.out) HC.out HG1.out HWE.out).mono ?_); rintro e w6 ⟨rfl, hD⟩; have HB6 := Aside0.mk (drawn_below HB5.out hD); clear hD))
          go_ret
          exact ⟨rfl, HB6.out⟩
      · have h2 := rend_two hend
        rw [h2] at CE
        have HCE := Aside0.mk CE
        clear hat htold CE hend h2 hv hcc hKC HV hitems
        rcases hguard with hg1 | ⟨hg1, hg2⟩

        · go_wp2_with (go_at_call 22; (with_reducible refine HCE.out.mono ?_); rintro e w4 ⟨rfl, rfl⟩)
          go_ret
          exact ⟨rfl, HBel.out⟩
        · obtain rfl : k = 1000 := by omega
          clear hg2
          go_wp2_with (go_at_call 22; (with_reducible refine HCE.out.mono ?_); rintro e w4 ⟨rfl, rfl⟩)
          go_ret
          exact ⟨rfl, HBel.out⟩
end Go.Proofs.Ytlelddljamfblaa.Pk
