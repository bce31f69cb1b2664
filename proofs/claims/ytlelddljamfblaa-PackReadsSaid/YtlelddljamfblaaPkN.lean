/- Laws' helper: does a reader tell just these items? -/
import Derived.Test.YtlelddljamfblaaPkM
import Derived.Outline
namespace Go.Proofs.Ytlelddljamfblaa.Pk
open Go.RowKit Go.Proofs.YtlelddljamfblaaW.PrintWords Go.Proofs.YtlelddljamfblaaW.PrintLast Go.Proofs.YtlelddljamfblaaW.PrintMore Go.Proofs.Ytlelddljamfblaa.PPk
set_option linter.unusedVariables false
set_option linter.unusedSimpArgs false

def ragain : List S46 → List Int → Bool → Bool
  | [], bs, bad => rend bs bad == 0
  | x :: l, bs, bad =>
    if x.f0 = 1 then (if (rflag bs bad).1 = (x.f1 != 0) then ragain l (rflag bs bad).2.1 (rflag bs bad).2.2 else false)
    else if x.f0 = 2 then (if (strOfNums (rtext (x.f2.size : Int) bs bad).1).toList = x.f2.toList then ragain l (rtext (x.f2.size : Int) bs bad).2.1 (rtext (x.f2.size : Int) bs bad).2.2 else false)
    else (if (rnum bs bad).1 = x.f1 then ragain l (rnum bs bad).2.1 (rnum bs bad).2.2 else false)
theorem ragain_flag (x1 : Int) (x2 : ByteArray) (l : List S46) (bs : List Int) (bad : Bool) : ragain (⟨1, x1, x2⟩ :: l) bs bad = if (rflag bs bad).1 = (x1 != 0) then ragain l (rflag bs bad).2.1 (rflag bs bad).2.2 else false := by rw [ragain]; exact if_pos rfl
theorem ragain_text (x1 : Int) (x2 : ByteArray) (l : List S46) (bs : List Int) (bad : Bool) : ragain (⟨2, x1, x2⟩ :: l) bs bad = if (strOfNums (rtext (x2.size : Int) bs bad).1).toList = x2.toList then ragain l (rtext (x2.size : Int) bs bad).2.1 (rtext (x2.size : Int) bs bad).2.2 else false := by rw [ragain]; exact (if_neg (show ¬ (2 : Int) = 1 by decide)).trans (if_pos rfl)
theorem ragain_num {x0 : Int} (h1 : x0 ≠ 1) (h2 : x0 ≠ 2) (x1 : Int) (x2 : ByteArray) (l : List S46) (bs : List Int) (bad : Bool) : ragain (⟨x0, x1, x2⟩ :: l) bs bad = if (rnum bs bad).1 = x1 then ragain l (rnum bs bad).2.1 (rnum bs bad).2.2 else false := by rw [ragain]; exact (if_neg h1).trans (if_neg h2)
theorem rflag_mem {bs : List Int} {bad : Bool} {p : Int → Prop} (h : ∀ x ∈ bs, p x) : ∀ x ∈ (rflag bs bad).2.1, p x := by
  unfold rflag
  split
  · exact h
  · split
    · intro x hx; simp at hx
    · split
      · exact fun x hx => h x (by simp [hx])
      · exact fun x hx => h x (by simp [hx])
theorem rtext_mem {most : Int} {bs : List Int} {bad : Bool} {p : Int → Prop} (h : ∀ x ∈ bs, p x) : ∀ x ∈ (rtext most bs bad).2.1, p x := by
  unfold rtext
  split
  · exact rnum_mem h
  · exact fun x hx => rnum_mem h x (List.mem_of_mem_drop hx)
theorem RdNew.drew {w w1 : World} {g q : Nat} {bs : List Int} {bad : Bool} (h : RdNew w w1 g q bs bad) : RdNew w w1.drew g q bs bad := ⟨h.1, h.2.1, h.2.2.1, h.2.2.2.drew⟩
theorem drop_rd {l : List S46} {k : Nat} (h : k < l.length) : l.drop k = rd_T46 l k :: l.drop (k + 1) := by
  rw [List.drop_eq_getElem_cons h]
  unfold rd_T46
  rw [Int.toNat_natCast, List.getD_eq_getElem?_getD, List.getElem?_eq_getElem h]
  rfl

set_option maxRecDepth 100000 in
set_option maxHeartbeats 8000000 in
theorem again_rd (g q : Nat) (bs : List Int) (bad : Bool) (A : Option Addr) (c : Nat) (l : List S46) (w w1 : World) (h : RdNew w w1 g q bs bad) (hb : ∀ x ∈ bs, IsB x) (hr : Kd.C k46 w A l.length l) :
    Calls Try.prog 17 #[.pointer (some ⟨g, 0, none⟩), .slice A l.length c] w1 fun e w' => e = .returned (.bool (ragain l bs bad)) ∧ Below w.heap.size w w' := by
  have H := Aside0.mk h
  have HB0 := Aside0.mk hb
  have HR := Aside0.mk hr
  have hn := hr.2.1
  have HE := Aside0.mk (show ragain l bs bad = ragain (l.drop 0) bs bad from rfl)
  generalize ragain l bs bad = R at *
  clear h hb hr
  generalize hll : l.length = n at *
  have HLL := Aside0.mk hll
  clear hll
  go_enter Try.func17, Try.ntmps17
  go_wp2
  go_loopw [8] (fun i wr => ∃ (k : Nat) (cs : List Int) (b : Bool), i = .int .i64 k ∧ k ≤ n ∧ Aside0 (RdNew w wr g q cs b) ∧ Aside0 (∀ x ∈ cs, IsB x) ∧ Aside0 (R = ragain (l.drop k) cs b)) (fun i _ => n - (intOf i).toNat)
  case atStart => exact ⟨0, bs, bad, rfl, by omega, H, HB0, HE⟩
  case round =>
    clear H HB0 HE
    obtain ⟨k, cs, b, rfl, hk, HV, HB, HE⟩ := hrel
    by_cases hlt : k < n
    · have hkl : k < l.length := by rw [HLL.out]; exact hlt
      have HD := Aside0.mk (drop_rd hkl)
      obtain ⟨ad, e, c0, c1, c2⟩ := at_T46 HR.out (k : Int) (by omega) (by omega)
      cases e
      rw [Int.toNat_natCast] at c0 c1 c2
      have K1 := Aside0.mk c1
      have K2 := Aside0.mk c2
      replace c0 := (HV.out.bel.cell (World.block_lt_of_cell? w _ c0)).trans c0
      replace c1 := (HV.out.bel.cell (World.block_lt_of_cell? w _ c1)).trans c1
      replace c2 := (HV.out.bel.cell (World.block_lt_of_cell? w _ c2)).trans c2
      generalize rd_T46 l k = x at *
      obtain ⟨x0, x1, x2⟩ := x
      simp only at c0 c1 c2 K1 K2
      have i0 : (0 : Int) ≤ (k : Int) := by omega
      have i1 : (k : Int) < (n : Int) := by omega
      clear hkl
      by_cases h1 : x0 = 1
      · subst h1
        have HU := Aside0.mk (show R = (if (rflag cs b).1 = (x1 != 0) then ragain (l.drop (k + 1)) (rflag cs b).2.1 (rflag cs b).2.2 else false) by rw [HE.out, HD.out, ragain_flag])
        clear HE HD
        have HM := Aside0.mk (show ∀ x ∈ (rflag cs b).2.1, IsB x from rflag_mem HB.out)
        have C := flag_rd (RdNew.drew HV.out) HB.out
        generalize rflag cs b = F at *
        obtain ⟨f, cs2, b2⟩ := F
        simp only at C HU HM
        have HC := Aside0.mk C
        clear C
        by_cases hz : x1 = 0
        · subst hz
          cases f
          · go_wp2
            go_region_held3 (fun W => W.cell? ⟨(ad.add (k * 3)).block, (ad.add (k * 3)).off + 1, none⟩ = some (.int .i64 0)) (go_keep) ((go_at_call 19; (with_reducible refine HC.out.mono ?_); rintro e w4 ⟨rfl, hN⟩; have cc4 := (hN.bel.cell (World.block_lt_of_cell? w _ K1.out)).trans K1.out; have HN4 := Aside0.mk hN; clear hN))
            go_wp2
            go_roundw
            case rel => exact ⟨k + 1, cs2, b2, by go_num, by omega, HN4, HM, ⟨HU.out.trans (if_pos (by first | rfl | trivial))⟩⟩
            case measure => simp [intOf]; omega
          · go_wp2
            go_region_held3 (fun W => W.cell? ⟨(ad.add (k * 3)).block, (ad.add (k * 3)).off + 1, none⟩ = some (.int .i64 0)) (go_keep) ((go_at_call 19; (with_reducible refine HC.out.mono ?_); rintro e w4 ⟨rfl, hN⟩; have cc4 := (hN.bel.cell (World.block_lt_of_cell? w _ K1.out)).trans K1.out; have HN4 := Aside0.mk hN; clear hN))
            go_wp2
            go_ret
            exact ⟨congrArg (fun b => Ending.returned (.bool b)) (HU.out.trans (if_neg (by decide))).symm, HN4.out.bel⟩
        · have hz' : (x1 == 0) = false := by simpa using hz
          have hz2 : (x1 != 0) = true := by simpa using hz
          have HZ := Aside0.mk hz2
          clear hz
          cases f
          · go_wp2
            go_region_held3 (fun W => W.cell? ⟨(ad.add (k * 3)).block, (ad.add (k * 3)).off + 1, none⟩ = some (.int .i64 x1)) (go_keep) ((go_at_call 19; (with_reducible refine HC.out.mono ?_); rintro e w4 ⟨rfl, hN⟩; have cc4 := (hN.bel.cell (World.block_lt_of_cell? w _ K1.out)).trans K1.out; have HN4 := Aside0.mk hN; clear hN))
            go_wp2
            go_ret
            exact ⟨congrArg (fun b => Ending.returned (.bool b)) (HU.out.trans (if_neg (by rw [HZ.out]; decide))).symm, HN4.out.bel⟩
          · go_wp2
            go_region_held3 (fun W => W.cell? ⟨(ad.add (k * 3)).block, (ad.add (k * 3)).off + 1, none⟩ = some (.int .i64 x1)) (go_keep) ((go_at_call 19; (with_reducible refine HC.out.mono ?_); rintro e w4 ⟨rfl, hN⟩; have cc4 := (hN.bel.cell (World.block_lt_of_cell? w _ K1.out)).trans K1.out; have HN4 := Aside0.mk hN; clear hN))
            go_wp2
            go_roundw
            case rel => exact ⟨k + 1, cs2, b2, by go_num, by omega, HN4, HM, ⟨HU.out.trans (if_pos HZ.out.symm)⟩⟩
            case measure => simp [intOf]; omega
      · have h1' : (x0 == 1) = false := by simpa using h1
        by_cases h2 : x0 = 2
        · subst h2
          have HU := Aside0.mk (show R = (if (strOfNums (rtext (x2.size : Int) cs b).1).toList = x2.toList then ragain (l.drop (k + 1)) (rtext (x2.size : Int) cs b).2.1 (rtext (x2.size : Int) cs b).2.2 else false) by rw [HE.out, HD.out, ragain_text])
          clear HE HD h1
          have HM := Aside0.mk (show ∀ x ∈ (rtext (x2.size : Int) cs b).2.1, IsB x from rtext_mem HB.out)
          have C := text_rd (x2.size : Int) (RdNew.drew HV.out) HB.out
          generalize rtext (x2.size : Int) cs b = F at *
          obtain ⟨f, cs2, b2⟩ := F
          simp only at C HU HM
          generalize strOfNums f = s at *
          have HC := Aside0.mk C
          clear C
          by_cases hs : s.toList = x2.toList
          · have hs' : (s.toList == x2.toList) = true := by simpa using hs
            have HS := Aside0.mk hs
            clear hs
            go_wp2
            go_region_held3 (fun W => W.cell? ⟨(ad.add (k * 3)).block, (ad.add (k * 3)).off + 2, none⟩ = some (.string x2)) (go_keep) ((go_at_call 20; (with_reducible refine HC.out.mono ?_); rintro e w4 ⟨rfl, hN⟩; have cc4 := (hN.bel.cell (World.block_lt_of_cell? w _ K2.out)).trans K2.out; have HN4 := Aside0.mk hN; clear hN))
            go_wp2
            go_roundw
            case rel => exact ⟨k + 1, cs2, b2, by go_num, by omega, HN4, HM, ⟨HU.out.trans (if_pos HS.out)⟩⟩
            case measure => simp [intOf]; omega
          · have hs' : (s.toList == x2.toList) = false := by simpa using hs
            have HS := Aside0.mk hs
            clear hs
            go_wp2
            go_region_held3 (fun W => W.cell? ⟨(ad.add (k * 3)).block, (ad.add (k * 3)).off + 2, none⟩ = some (.string x2)) (go_keep) ((go_at_call 20; (with_reducible refine HC.out.mono ?_); rintro e w4 ⟨rfl, hN⟩; have cc4 := (hN.bel.cell (World.block_lt_of_cell? w _ K2.out)).trans K2.out; have HN4 := Aside0.mk hN; clear hN))
            go_wp2
            go_ret
            exact ⟨congrArg (fun b => Ending.returned (.bool b)) (HU.out.trans (if_neg HS.out)).symm, HN4.out.bel⟩
        · have h2' : (x0 == 2) = false := by simpa using h2
          have HU := Aside0.mk (show R = (if (rnum cs b).1 = x1 then ragain (l.drop (k + 1)) (rnum cs b).2.1 (rnum cs b).2.2 else false) by rw [HE.out, HD.out, ragain_num h1 h2])
          clear HE HD h1 h2
          have HM := Aside0.mk (show ∀ x ∈ (rnum cs b).2.1, IsB x from rnum_mem HB.out)
          have C := num_rd (RdNew.drew HV.out) HB.out
          generalize rnum cs b = F at *
          obtain ⟨f, cs2, b2⟩ := F
          simp only at C HU HM
          have HC := Aside0.mk C
          clear C
          by_cases hs : f = x1
          · subst hs
            go_wp2
            go_region_held3 (fun W => W.cell? ⟨(ad.add (k * 3)).block, (ad.add (k * 3)).off + 1, none⟩ = some (.int .i64 f)) (go_keep) ((go_at_call 21; (with_reducible refine HC.out.mono ?_); rintro e w4 ⟨rfl, hN⟩; have cc4 := (hN.bel.cell (World.block_lt_of_cell? w _ K1.out)).trans K1.out; have HN4 := Aside0.mk hN; clear hN))
            go_wp2
            go_roundw
            case rel => exact ⟨k + 1, cs2, b2, by go_num, by omega, HN4, HM, ⟨HU.out.trans (if_pos (by first | rfl | trivial))⟩⟩
            case measure => simp [intOf]; omega
          · have hs' : (f == x1) = false := by simpa using hs
            have hs2 : (f != x1) = true := by simpa using hs
            have HS := Aside0.mk hs
            clear hs
            go_wp2
            go_region_held3 (fun W => W.cell? ⟨(ad.add (k * 3)).block, (ad.add (k * 3)).off + 1, none⟩ = some (.int .i64 x1)) (go_keep) ((go_at_call 21; (with_reducible refine HC.out.mono ?_); rintro e w4 ⟨rfl, hN⟩; have cc4 := (hN.bel.cell (World.block_lt_of_cell? w _ K1.out)).trans K1.out; have HN4 := Aside0.mk hN; clear hN))
            go_wp2
            go_ret
            exact ⟨congrArg (fun b => Ending.returned (.bool b)) (HU.out.trans (if_neg HS.out)).symm, HN4.out.bel⟩
    · obtain rfl : k = n := by omega
      have HU := Aside0.mk (show R = (rend cs b == 0) by rw [HE.out, List.drop_eq_nil_of_le (by rw [HLL.out]; exact Nat.le_refl _)]; rfl)
      clear HE
      have C := end_rd HV.out
      have HC := Aside0.mk C
      clear C
      go_wp2_with (go_at_call 22; (with_reducible refine HC.out.mono ?_); rintro e w4 ⟨rfl, rfl⟩)
      go_ret
      exact ⟨congrArg (fun b => Ending.returned (.bool b)) HU.out.symm, HV.out.bel⟩
end Go.Proofs.Ytlelddljamfblaa.Pk
