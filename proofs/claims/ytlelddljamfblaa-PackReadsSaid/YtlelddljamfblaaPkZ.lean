/- Whatever is asked of a reader of any bytes, in any order, is answered as the document says: the walk of the law. -/
import Derived.Test.YtlelddljamfblaaPkY
import Derived.Outline
namespace Go.Proofs.Ytlelddljamfblaa.Pk
open Go.RowKit Go.Proofs.YtlelddljamfblaaW.PrintWords Go.Proofs.YtlelddljamfblaaW.PrintLast Go.Proofs.YtlelddljamfblaaW.PrintMore Go.Proofs.Ytlelddljamfblaa.PPk
set_option linter.unusedVariables false
set_option linter.unusedSimpArgs false

def kAsk : Kd (Int × Int) := Kd.pair (Kd.int .i64) (Kd.int .i64)
theorem kAsk_open {w : World} {x : Int × Int} {cs : List Value} (h : kAsk.K w x cs) : cs = [.int .i64 x.1, .int .i64 x.2] := by
  obtain ⟨_, _, rfl, rfl, rfl⟩ := h
  rfl
theorem kAsk_mk (w : World) (x : Int × Int) : kAsk.K w x [.int .i64 x.1, .int .i64 x.2] := ⟨[.int .i64 x.1], [.int .i64 x.2], rfl, rfl, rfl⟩
theorem at_ask {w : World} {A : Option Addr} {n : Nat} {xs : List (Int × Int)} (h : Kd.C kAsk w A n xs) (i : Nat) (h1 : i < n) : ∃ ad, A = some ad ∧ w.cell? (ad.add (i * 2)) = some (.int .i64 (xs.getD i (0, 0)).1) ∧ w.cell? ⟨(ad.add (i * 2)).block, (ad.add (i * 2)).off + 1, none⟩ = some (.int .i64 (xs.getD i (0, 0)).2) := by
  obtain ⟨ad, c, e, _, hK, hc0⟩ := Kd.C_get h (0, 0) (i : Int) (by omega) (by omega)
  rw [Int.toNat_natCast] at hK hc0
  have hc : ∀ j u, c[j]? = some u → w.cell? (ad.add (i * 2 + j)) = some u := hc0
  obtain rfl := kAsk_open hK
  exact ⟨ad, e, hc 0 _ rfl, by rw [← add_field _ _ 1 (by omega)]; exact hc 1 _ rfl⟩
theorem RdNew.at_ {w w1 : World} {g q : Nat} {bs : List Int} {bad : Bool} (h : RdNew w w1 g q bs bad) : RdAt w1 g q bs bad := h.1
/-- The start. -/
theorem Both.start {w w3 w4 : World} {gr q qi n ci : Nat} {A : Option Addr} {c : Nat} {B : List Int} (hn : B.length = n) (hB3 : Below w.heap.size w w3) (hrow : w3.ownsRow w.heap.size 5 1 (.slice (some ⟨qi, 0, none⟩) n ci) n (nums .u8 B)) (hb : ∀ x ∈ B, IsB x)
    (hR : RdAt w4 gr q B false) (hg : w3.heap.size ≤ gr) (hq : w3.heap.size ≤ q) (hB4 : Below w3.heap.size w3 w4) :
    Both w (w4.alloc (.cells #[.slice A n c, .int .i64 0, .bool false] 54)) gr q w4.heap.size qi n ci A c B B false 0 := by
  subst hn
  have hl := hR.lt
  have hqi := own_lt hrow qi rfl
  have hb4 := below_step hB3 hB4
  refine ⟨RdNew.below (w1 := w4) ⟨hR, Nat.le_trans hB3.size hg, Nat.le_trans hB3.size hq, hb4⟩ (below_alloc (Below.refl _ _) _), ⟨heap_alloc_new _ _, hb4.size, below_alloc hb4 _, Nat.zero_le _⟩, ⟨B, pw_own_below hrow (below_alloc hB4 _)⟩, fun _ => rfl, hb, ?_⟩
  have hne : gr ≠ q := by obtain ⟨_, _, _, _, _, h, _⟩ := hR; exact h
  have := hB4.size
  refine ⟨by omega, by omega, by omega, by omega, by omega, hne⟩

set_option maxRecDepth 100000 in
set_option maxHeartbeats 40000000 in
theorem packReads_c (A : Option Addr) (c : Nat) (B : List Int) (A1 : Option Addr) (c1 : Nat) (l1 : List (Int × Int)) (w : World) (hr : ReadsInt w .u8 A B.length B) (hc : B.length ≤ c) (hl : B.length ≤ 140737488351232) (hb : ∀ x ∈ B, IsB x) (hr1 : Kd.C kAsk w A1 l1.length l1) :
    Calls Try.prog 7 #[.slice A B.length c, .slice A1 l1.length c1] w fun e w' => e = .returned (.bool true) ∧ Below w.heap.size w w' := by
  have HR := Aside0.mk hr
  have HRB := Aside0.mk (⟨hr, hc, hb⟩ : RfB w A c B)
  have HR1 := Aside0.mk hr1
  have HB0 := Aside0.mk hb
  have C0 := Aside0.mk (awake_c w)
  have hn1 : l1.length ≤ 9223372036854775807 := hr1.2.1
  clear hr hc hb hr1
  generalize hll : l1.length = n1 at *
  have HLL := Aside0.mk hll
  clear hll
  have HO0 := fun (w1 : World) => own_lit w1 w1.heap.size 5 .u8 [] (Nat.le_refl _) (by simp)
  have HO := Aside0.mk HO0
  clear HO0
  have hbn : B.length ≤ 9223372036854775807 := by omega
  generalize hbl : B.length = n at *
  have HBL := Aside0.mk hbl
  have HN := Aside0.mk (show n ≤ 140737488355328 by omega)
  have HN2 := Aside0.mk (show (([] : List Int).length + n) * 1 ≤ 140737488355328 by simp; omega)
  clear hbl hl
  go_enter Try.func7, Try.ntmps7
  go_wp2_with (first
    | (go_at_call 9; (with_reducible refine C0.out.mono ?_); rintro e w1 ⟨rfl, hB⟩; have HB := Aside0.mk hB; clear hB)
    | (at_builtin; refine print_append_row (w0 := w) w.heap.size rfl (.tmp 14) (.tmp 15) 25 5 .u8 1 rfl Try.underlying25 info_u8 (by decide) (.slice (some ⟨w1.heap.size, 0, none⟩) 0 0) [] B A n c rfl rfl (own_less (HO.out w1) HB.out.size) ((HR.out.below HB.out).allocS _) (below_alloc HB.out _) (by have := HB.out.size; simp; omega) HN2.out ?_; intro v1 w3 hO hB hg hat; obtain ⟨qi, ci, rfl, k1, k2, k3, k4, k5⟩ := row_some hO (b0 := w1.heap.size) rfl hat; simp only [List.nil_append, HBL.out] at hO k3 ⊢; have HB3 := Aside0.mk hB; have HRow := Aside0.mk hO; have hcap := k3; clear hO hg hat k1 k2 k3 k4 k5 hB)
    | (go_at_call 18; (with_reducible refine (read_c _ _ _ B w3 (own_reads' HRow.out) HN.out).mono ?_); rintro e w4 ⟨gr, q, rfl, hR, h1, h2, h3, h4⟩; have HBoth := Aside0.mk (Both.start (A := A) (c := c) HBL.out HB3.out HRow.out HB0.out hR h1 h2 h4); clear hR h1 h2 h3 h4))
  clear C0 HO HN2 HB HB3 HRow
  generalize hgf : w4.heap.size = gf at *
  clear hgf
  generalize w4.alloc (.cells #[.slice A n c, .int .i64 0, .bool false] 54) = w5 at *
  go_loopw [9] (fun i wr => ∃ (k : Nat) (bs : List Int) (bad : Bool) (a : Nat), i = .int .i64 k ∧ k ≤ n1 ∧ k ≤ 100 ∧ Aside0 (Both w wr gr q gf qi n ci A c B bs bad a)) (fun i _ => 100 - (intOf i).toNat)
  case atStart => exact ⟨0, B, false, 0, rfl, by omega, by omega, HBoth⟩
  case round =>
    clear HBoth
    obtain ⟨k, bs, bad, a, rfl, hk, hk2, HV⟩ := hrel
    by_cases hlt : k < n1 ∧ k < 100
    · obtain ⟨hlt, hlt2⟩ := hlt
      obtain ⟨ad, e, c0, c1⟩ := at_ask HR1.out k hlt
      cases e
      have K0 := Aside0.mk c0
      have K1 := Aside0.mk c1
      clear c0 c1
      generalize (l1.getD k (0, 0)) = x at *
      obtain ⟨x0, x1⟩ := x
      simp only at K0 K1
      have i0 : (0 : Int) ≤ (k : Int) := by omega
      have i1 : (k : Int) < (n1 : Int) := by omega
      -- the state behind the turning of a byte
      have key : ∃ W, (k < n → ∃ y, wr.cell? ⟨qi, k, none⟩ = some (.int .u8 y) ∧ wr.frozen? ⟨qi, k, none⟩ = false ∧ W = wr.setCell ⟨qi, k, none⟩ (.int .u8 ((y + 1) % 256))) ∧ (¬ k < n → W = wr) ∧ Both w W gr q gf qi n ci A c B bs bad a ∧ W.heap.size = wr.heap.size := by
        by_cases h : k < n
        · obtain ⟨y, h1, h2⟩ := HV.out.byte h
          exact ⟨_, fun _ => ⟨y, h1, h2, rfl⟩, fun h' => absurd h h', HV.out.put k _, World.size_setCell _ _ _⟩
        · exact ⟨wr, fun h' => absurd h' h, fun _ => rfl, HV.out, rfl⟩
      obtain ⟨W, hW1, hW2, hBoth, hsz⟩ := key
      have HBo := Aside0.mk (hBoth.below (below_alloc (Below.refl _ _) (.cells #[.int .i64 x0, .int .i64 x1] 56)))
      have c0 := (hBoth.bel.cell (World.block_lt_of_cell? w _ K0.out)).trans K0.out
      have c1 := (hBoth.bel.cell (World.block_lt_of_cell? w _ K1.out)).trans K1.out
      have HXN := Aside0.mk (show wr.heap.size ≠ gr ∧ wr.heap.size ≠ gf from by
        have h1 := hBoth.rd.1.lt
        have h2 := blk_lt hBoth.rf.blk
        omega)
      have HA := Aside0.mk hBoth.rf.le
      have HSim := Aside0.mk hBoth.sim
      have HIsB := Aside0.mk hBoth.isB
      have xb := Aside0.mk (show (W.alloc (.cells #[.int .i64 x0, .int .i64 x1] 56)).heap[wr.heap.size]? = some (.cells #[.int .i64 x0, .int .i64 x1] 56 (0, 0)) from by rw [← hsz]; exact heap_alloc_new W _)
      clear hsz
      -- the two readers' contracts
      by_cases hkn : k < n
      · obtain ⟨y, b0, b1, hWW⟩ := hW1 hkn
        clear hW1 hW2 hBoth
        subst hWW
        by_cases h0 : x0 = 0
        · subst h0
          have hC1 := rNum_c gr q bs bad ((wr.setCell ⟨qi, k, none⟩ (.int .u8 ((y + 1) % 256))).alloc (.cells #[.int .i64 0, .int .i64 x1] 56)) HBo.out.rd.1 HIsB.out
          have hC2 := fun W' (h : Rf w W' gf A c B a bad) => fNum_c 9007199254740992 w W' gf A c B a bad h HRB.out
          obtain ⟨hs1, hs2, hs3⟩ := sim_num HA.out HIsB.out HSim.out
          have hm := rnum_mem (bad := bad) HIsB.out
          generalize rnum bs bad = R at *
          generalize fnum 9007199254740992 B a bad = F at *
          obtain ⟨n2, bs2, bad2⟩ := R
          obtain ⟨n3, a2, bad3⟩ := F
          simp only at hs1 hs2 hs3 hm hC1 hC2
          subst hs1 hs2
          have HC1 := Aside0.mk hC1
          have HC2 := Aside0.mk hC2
          have HSS := Aside0.mk hs3
          have HM := Aside0.mk hm
          clear hC1 hC2 hs3 hm
          go_wp2_with (first
            | (go_at_call 21; (with_reducible refine HC1.out.mono ?_); rintro e w6 ⟨rfl, hR6, hO6⟩; have HR6 := Aside0.mk hR6; have HO6 := Aside0.mk hO6; clear hR6 hO6)
            | (go_at_call 23; (with_reducible refine (HC2.out w6 (HBo.out.other HO6.out)).mono ?_); rintro e w7 ⟨rfl, hF7, hO7⟩; have HBF := Aside0.mk (HBo.out.step HR6.out HO6.out hF7 hO7 HSS.out HM.out); clear hF7 hO7)
            | (go_at_call 21; (with_reducible refine (rNum_nil _).mono ?_); rintro e w8 ⟨rfl, rfl⟩))
          go_roundw
          case rel => exact ⟨k + 1, bs2, bad2, a2, by go_num, by omega, by omega, HBF⟩
          case measure => simp [intOf]; omega
        have h0' : (x0 == 0) = false := by simpa using h0
        by_cases h1 : x0 = 1
        · subst h1
          have hC1 := rFlag_c gr q bs bad ((wr.setCell ⟨qi, k, none⟩ (.int .u8 ((y + 1) % 256))).alloc (.cells #[.int .i64 1, .int .i64 x1] 56)) HBo.out.rd.1 HIsB.out
          have hC2 := fun W' (h : Rf w W' gf A c B a bad) => fFlag_c w W' gf A c B a bad h HRB.out
          obtain ⟨hs1, hs2, hs3⟩ := sim_flag HA.out HSim.out
          have hm := rflag_mem (bad := bad) HIsB.out
          generalize rflag bs bad = R at *
          generalize fflag B a bad = F at *
          obtain ⟨n2, bs2, bad2⟩ := R
          obtain ⟨n3, a2, bad3⟩ := F
          simp only at hs1 hs2 hs3 hm hC1 hC2
          subst hs1 hs2
          have HC1 := Aside0.mk hC1
          have HC2 := Aside0.mk hC2
          have HSS := Aside0.mk hs3
          have HM := Aside0.mk hm
          clear hC1 hC2 hs3 hm
          cases n2
          · go_wp2_with (first
              | (go_at_call 19; (with_reducible refine HC1.out.mono ?_); rintro e w6 ⟨rfl, hR6, hO6⟩; have HR6 := Aside0.mk hR6; have HO6 := Aside0.mk hO6; clear hR6 hO6)
              | (go_at_call 24; (with_reducible refine (HC2.out w6 (HBo.out.other HO6.out)).mono ?_); rintro e w7 ⟨rfl, hF7, hO7⟩; have HBF := Aside0.mk (HBo.out.step HR6.out HO6.out hF7 hO7 HSS.out HM.out); clear hF7 hO7)
              | (go_at_call 19; (with_reducible refine (rFlag_nil _).mono ?_); rintro e w8 ⟨rfl, rfl⟩))
            go_roundw
            case rel => exact ⟨k + 1, bs2, bad2, a2, by go_num, by omega, by omega, HBF⟩
            case measure => simp [intOf]; omega
          · go_wp2_with (first
              | (go_at_call 19; (with_reducible refine HC1.out.mono ?_); rintro e w6 ⟨rfl, hR6, hO6⟩; have HR6 := Aside0.mk hR6; have HO6 := Aside0.mk hO6; clear hR6 hO6)
              | (go_at_call 24; (with_reducible refine (HC2.out w6 (HBo.out.other HO6.out)).mono ?_); rintro e w7 ⟨rfl, hF7, hO7⟩; have HBF := Aside0.mk (HBo.out.step HR6.out HO6.out hF7 hO7 HSS.out HM.out); clear hF7 hO7)
              | (go_at_call 19; (with_reducible refine (rFlag_nil _).mono ?_); rintro e w8 ⟨rfl, rfl⟩))
            go_roundw
            case rel => exact ⟨k + 1, bs2, bad2, a2, by go_num, by omega, by omega, HBF⟩
            case measure => simp [intOf]; omega
        have h1' : (x0 == 1) = false := by simpa using h1
        by_cases h2 : x0 = 2
        · subst h2
          have hC1 := rText_c x1 gr q bs bad ((wr.setCell ⟨qi, k, none⟩ (.int .u8 ((y + 1) % 256))).alloc (.cells #[.int .i64 2, .int .i64 x1] 56)).drew (HBo.out.below (Below.drew (Below.refl _ _))).rd.1 HIsB.out
          have hC2 := fun W' (h : Rf w W' gf A c B a bad) => fText_c x1 w W' gf A c B a bad h HRB.out
          obtain ⟨hs1, hs2, hs3⟩ := sim_text x1 HA.out HIsB.out HSim.out
          have hm := rtext_mem (most := x1) (bad := bad) HIsB.out
          generalize rtext x1 bs bad = R at *
          generalize ftext x1 B a bad = F at *
          obtain ⟨n2, bs2, bad2⟩ := R
          obtain ⟨n3, a2, bad3⟩ := F
          simp only at hs1 hs2 hs3 hm hC1 hC2
          subst hs1 hs2
          have HC1 := Aside0.mk hC1
          have HC2 := Aside0.mk hC2
          have HSS := Aside0.mk hs3
          have HM := Aside0.mk hm
          clear hC1 hC2 hs3 hm
          have d1 : ((wr.setCell ⟨qi, k, none⟩ (.int .u8 ((y + 1) % 256))).alloc (.cells #[.int .i64 2, .int .i64 x1] 56)).drew.cell? ⟨wr.heap.size, 1, none⟩ = some (.int .i64 x1) := (blk_cell xb.out 1).trans rfl
          have HBD := Aside0.mk (HBo.out.below (Below.drew (Below.refl _ _)))
          go_wp2
          go_region_held3 (fun W' => W'.cell? ⟨wr.heap.size, 1, none⟩ = some (.int .i64 x1)) (go_keep) ((first
            | (go_at_call 20; (with_reducible refine HC1.out.mono ?_); rintro e w6 ⟨rfl, hR6, hO6⟩; have cc6 := (hO6.cell (p := ⟨wr.heap.size, 1, none⟩) d1 HXN.out.1); have HR6 := Aside0.mk hR6; have HO6 := Aside0.mk hO6; clear hR6 hO6)
            | (go_at_call 25; (with_reducible refine (HC2.out w6 (HBD.out.other HO6.out)).mono ?_); rintro e w7 ⟨rfl, hF7, hO7⟩; have cc7 := (hO7.cell (p := ⟨wr.heap.size, 1, none⟩) cc6 HXN.out.2); have HBF := Aside0.mk (HBD.out.step HR6.out HO6.out hF7 hO7 HSS.out HM.out); clear hF7 hO7)
            | (go_at_call 20; (with_reducible refine (rText_nil _ _).mono ?_); rintro e w8 ⟨rfl, rfl⟩)))
          go_wp2
          go_roundw
          case rel => exact ⟨k + 1, bs2, bad2, a2, by go_num, by omega, by omega, HBF⟩
          case measure => simp [intOf]; omega
        have h2' : (x0 == 2) = false := by simpa using h2
        by_cases h3 : x0 = 3
        · subst h3
          have hC1 := rCount_c x1 gr q bs bad ((wr.setCell ⟨qi, k, none⟩ (.int .u8 ((y + 1) % 256))).alloc (.cells #[.int .i64 3, .int .i64 x1] 56)).drew (HBo.out.below (Below.drew (Below.refl _ _))).rd.1 HIsB.out
          have hC2 := fun W' (h : Rf w W' gf A c B a bad) => fNum_c x1 w W' gf A c B a bad h HRB.out
          obtain ⟨hs1, hs2, hs3⟩ := sim_most x1 HA.out HSim.out
          have hm := rcount_mem (most := x1) (bad := bad) HIsB.out
          generalize rcount x1 bs bad = R at *
          generalize fnum x1 B a bad = F at *
          obtain ⟨n2, bs2, bad2⟩ := R
          obtain ⟨n3, a2, bad3⟩ := F
          simp only at hs1 hs2 hs3 hm hC1 hC2
          subst hs1 hs2
          have HC1 := Aside0.mk hC1
          have HC2 := Aside0.mk hC2
          have HSS := Aside0.mk hs3
          have HM := Aside0.mk hm
          clear hC1 hC2 hs3 hm
          have d1 : ((wr.setCell ⟨qi, k, none⟩ (.int .u8 ((y + 1) % 256))).alloc (.cells #[.int .i64 3, .int .i64 x1] 56)).drew.cell? ⟨wr.heap.size, 1, none⟩ = some (.int .i64 x1) := (blk_cell xb.out 1).trans rfl
          have HBD := Aside0.mk (HBo.out.below (Below.drew (Below.refl _ _)))
          go_wp2
          go_region_held3 (fun W' => W'.cell? ⟨wr.heap.size, 1, none⟩ = some (.int .i64 x1)) (go_keep) ((first
            | (go_at_call 26; (with_reducible refine HC1.out.mono ?_); rintro e w6 ⟨rfl, hR6, hO6⟩; have cc6 := (hO6.cell (p := ⟨wr.heap.size, 1, none⟩) d1 HXN.out.1); have HR6 := Aside0.mk hR6; have HO6 := Aside0.mk hO6; clear hR6 hO6)
            | (go_at_call 23; (with_reducible refine (HC2.out w6 (HBD.out.other HO6.out)).mono ?_); rintro e w7 ⟨rfl, hF7, hO7⟩; have cc7 := (hO7.cell (p := ⟨wr.heap.size, 1, none⟩) cc6 HXN.out.2); have HBF := Aside0.mk (HBD.out.step HR6.out HO6.out hF7 hO7 HSS.out HM.out); clear hF7 hO7)
            | (go_at_call 26; (with_reducible refine (rCount_nil _ _).mono ?_); rintro e w8 ⟨rfl, rfl⟩)))
          go_wp2
          go_roundw
          case rel => exact ⟨k + 1, bs2, bad2, a2, by go_num, by omega, by omega, HBF⟩
          case measure => simp [intOf]; omega
        have h3' : (x0 == 3) = false := by simpa using h3
        clear h0 h1 h2 h3
        have hC1 := rEnd_c gr q bs bad ((wr.setCell ⟨qi, k, none⟩ (.int .u8 ((y + 1) % 256))).alloc (.cells #[.int .i64 x0, .int .i64 x1] 56)) HBo.out.rd.1
        have HBo1 := Aside0.mk (fun W' (h : Rf w W' gf A c B a bad) => fWhole_c w W' gf A c B a bad h)
        rcases sim_end HA.out HSim.out with ⟨e1, e2⟩ | ⟨e1, e2⟩
        · rw [e1] at hC1
          have HC1 := Aside0.mk hC1
          have E1 := Aside0.mk e1
          have E2 := Aside0.mk e2
          clear hC1 e1 e2
          go_wp2_with (first
            | (go_at_call 22; (with_reducible refine HC1.out.mono ?_); rintro e w6 ⟨rfl, rfl⟩)
            | (go_at_call 27; (with_reducible refine (HBo1.out _ HBo.out.rf).mono ?_); rw [E2.out]; rintro e w7 ⟨rfl, hF7, hO7⟩; have HB7 := Aside0.mk (HBo.out.step HBo.out.rd.1 (Only.refl _ _) hF7 hO7 HSim.out HIsB.out); clear hF7 hO7)
            | (go_at_call 27; (with_reducible refine (HBo1.out _ HB7.out.rf).mono ?_); rw [E2.out]; rintro e w8 ⟨rfl, hF8, hO8⟩; have HBF := Aside0.mk (HB7.out.step HB7.out.rd.1 (Only.refl _ _) hF8 hO8 HSim.out HIsB.out); clear hF8 hO8)
            | (go_at_call 22; (with_reducible refine (rEnd_c gr q bs bad _ (RdNew.at_ HBF.out.rd)).mono ?_); rw [E1.out]; rintro e w9 ⟨rfl, rfl⟩))
          go_roundw
          case rel => exact ⟨k + 1, bs, bad, a, by go_num, by omega, by omega, HBF⟩
          case measure => simp [intOf]; omega
        · rw [e1] at hC1
          have HC1 := Aside0.mk hC1
          have E1 := Aside0.mk e1
          have E2 := Aside0.mk e2
          clear hC1 e1 e2
          go_wp2_with (first
            | (go_at_call 22; (with_reducible refine HC1.out.mono ?_); rintro e w6 ⟨rfl, rfl⟩)
            | (go_at_call 27; (with_reducible refine (HBo1.out _ HBo.out.rf).mono ?_); rw [E2.out]; rintro e w7 ⟨rfl, hF7, hO7⟩; have HB7 := Aside0.mk (HBo.out.step HBo.out.rd.1 (Only.refl _ _) hF7 hO7 HSim.out HIsB.out); clear hF7 hO7)
            | (go_at_call 27; (with_reducible refine (HBo1.out _ HB7.out.rf).mono ?_); rw [E2.out]; rintro e w8 ⟨rfl, hF8, hO8⟩; have HBF := Aside0.mk (HB7.out.step HB7.out.rd.1 (Only.refl _ _) hF8 hO8 HSim.out HIsB.out); clear hF8 hO8)
            | (go_at_call 22; (with_reducible refine (rEnd_c gr q bs bad _ (RdNew.at_ HBF.out.rd)).mono ?_); rw [E1.out]; rintro e w9 ⟨rfl, rfl⟩))
          go_roundw
          case rel => exact ⟨k + 1, bs, bad, a, by go_num, by omega, by omega, HBF⟩
          case measure => simp [intOf]; omega
      · obtain rfl := hW2 hkn
        clear hW1 hW2 hBoth
        by_cases h0 : x0 = 0
        · subst h0
          have hC1 := rNum_c gr q bs bad (W.alloc (.cells #[.int .i64 0, .int .i64 x1] 56)) HBo.out.rd.1 HIsB.out
          have hC2 := fun W' (h : Rf w W' gf A c B a bad) => fNum_c 9007199254740992 w W' gf A c B a bad h HRB.out
          obtain ⟨hs1, hs2, hs3⟩ := sim_num HA.out HIsB.out HSim.out
          have hm := rnum_mem (bad := bad) HIsB.out
          generalize rnum bs bad = R at *
          generalize fnum 9007199254740992 B a bad = F at *
          obtain ⟨n2, bs2, bad2⟩ := R
          obtain ⟨n3, a2, bad3⟩ := F
          simp only at hs1 hs2 hs3 hm hC1 hC2
          subst hs1 hs2
          have HC1 := Aside0.mk hC1
          have HC2 := Aside0.mk hC2
          have HSS := Aside0.mk hs3
          have HM := Aside0.mk hm
          clear hC1 hC2 hs3 hm
          go_wp2_with (first
            | (go_at_call 21; (with_reducible refine HC1.out.mono ?_); rintro e w6 ⟨rfl, hR6, hO6⟩; have HR6 := Aside0.mk hR6; have HO6 := Aside0.mk hO6; clear hR6 hO6)
            | (go_at_call 23; (with_reducible refine (HC2.out w6 (HBo.out.other HO6.out)).mono ?_); rintro e w7 ⟨rfl, hF7, hO7⟩; have HBF := Aside0.mk (HBo.out.step HR6.out HO6.out hF7 hO7 HSS.out HM.out); clear hF7 hO7)
            | (go_at_call 21; (with_reducible refine (rNum_nil _).mono ?_); rintro e w8 ⟨rfl, rfl⟩))
          go_roundw
          case rel => exact ⟨k + 1, bs2, bad2, a2, by go_num, by omega, by omega, HBF⟩
          case measure => simp [intOf]; omega
        have h0' : (x0 == 0) = false := by simpa using h0
        by_cases h1 : x0 = 1
        · subst h1
          have hC1 := rFlag_c gr q bs bad (W.alloc (.cells #[.int .i64 1, .int .i64 x1] 56)) HBo.out.rd.1 HIsB.out
          have hC2 := fun W' (h : Rf w W' gf A c B a bad) => fFlag_c w W' gf A c B a bad h HRB.out
          obtain ⟨hs1, hs2, hs3⟩ := sim_flag HA.out HSim.out
          have hm := rflag_mem (bad := bad) HIsB.out
          generalize rflag bs bad = R at *
          generalize fflag B a bad = F at *
          obtain ⟨n2, bs2, bad2⟩ := R
          obtain ⟨n3, a2, bad3⟩ := F
          simp only at hs1 hs2 hs3 hm hC1 hC2
          subst hs1 hs2
          have HC1 := Aside0.mk hC1
          have HC2 := Aside0.mk hC2
          have HSS := Aside0.mk hs3
          have HM := Aside0.mk hm
          clear hC1 hC2 hs3 hm
          cases n2
          · go_wp2_with (first
              | (go_at_call 19; (with_reducible refine HC1.out.mono ?_); rintro e w6 ⟨rfl, hR6, hO6⟩; have HR6 := Aside0.mk hR6; have HO6 := Aside0.mk hO6; clear hR6 hO6)
              | (go_at_call 24; (with_reducible refine (HC2.out w6 (HBo.out.other HO6.out)).mono ?_); rintro e w7 ⟨rfl, hF7, hO7⟩; have HBF := Aside0.mk (HBo.out.step HR6.out HO6.out hF7 hO7 HSS.out HM.out); clear hF7 hO7)
              | (go_at_call 19; (with_reducible refine (rFlag_nil _).mono ?_); rintro e w8 ⟨rfl, rfl⟩))
            go_roundw
            case rel => exact ⟨k + 1, bs2, bad2, a2, by go_num, by omega, by omega, HBF⟩
            case measure => simp [intOf]; omega
          · go_wp2_with (first
              | (go_at_call 19; (with_reducible refine HC1.out.mono ?_); rintro e w6 ⟨rfl, hR6, hO6⟩; have HR6 := Aside0.mk hR6; have HO6 := Aside0.mk hO6; clear hR6 hO6)
              | (go_at_call 24; (with_reducible refine (HC2.out w6 (HBo.out.other HO6.out)).mono ?_); rintro e w7 ⟨rfl, hF7, hO7⟩; have HBF := Aside0.mk (HBo.out.step HR6.out HO6.out hF7 hO7 HSS.out HM.out); clear hF7 hO7)
              | (go_at_call 19; (with_reducible refine (rFlag_nil _).mono ?_); rintro e w8 ⟨rfl, rfl⟩))
            go_roundw
            case rel => exact ⟨k + 1, bs2, bad2, a2, by go_num, by omega, by omega, HBF⟩
            case measure => simp [intOf]; omega
        have h1' : (x0 == 1) = false := by simpa using h1
        by_cases h2 : x0 = 2
        · subst h2
          have hC1 := rText_c x1 gr q bs bad (W.alloc (.cells #[.int .i64 2, .int .i64 x1] 56)).drew (HBo.out.below (Below.drew (Below.refl _ _))).rd.1 HIsB.out
          have hC2 := fun W' (h : Rf w W' gf A c B a bad) => fText_c x1 w W' gf A c B a bad h HRB.out
          obtain ⟨hs1, hs2, hs3⟩ := sim_text x1 HA.out HIsB.out HSim.out
          have hm := rtext_mem (most := x1) (bad := bad) HIsB.out
          generalize rtext x1 bs bad = R at *
          generalize ftext x1 B a bad = F at *
          obtain ⟨n2, bs2, bad2⟩ := R
          obtain ⟨n3, a2, bad3⟩ := F
          simp only at hs1 hs2 hs3 hm hC1 hC2
          subst hs1 hs2
          have HC1 := Aside0.mk hC1
          have HC2 := Aside0.mk hC2
          have HSS := Aside0.mk hs3
          have HM := Aside0.mk hm
          clear hC1 hC2 hs3 hm
          have d1 : (W.alloc (.cells #[.int .i64 2, .int .i64 x1] 56)).drew.cell? ⟨W.heap.size, 1, none⟩ = some (.int .i64 x1) := (blk_cell xb.out 1).trans rfl
          have HBD := Aside0.mk (HBo.out.below (Below.drew (Below.refl _ _)))
          go_wp2
          go_region_held3 (fun W' => W'.cell? ⟨W.heap.size, 1, none⟩ = some (.int .i64 x1)) (go_keep) ((first
            | (go_at_call 20; (with_reducible refine HC1.out.mono ?_); rintro e w6 ⟨rfl, hR6, hO6⟩; have cc6 := (hO6.cell (p := ⟨W.heap.size, 1, none⟩) d1 HXN.out.1); have HR6 := Aside0.mk hR6; have HO6 := Aside0.mk hO6; clear hR6 hO6)
            | (go_at_call 25; (with_reducible refine (HC2.out w6 (HBD.out.other HO6.out)).mono ?_); rintro e w7 ⟨rfl, hF7, hO7⟩; have cc7 := (hO7.cell (p := ⟨W.heap.size, 1, none⟩) cc6 HXN.out.2); have HBF := Aside0.mk (HBD.out.step HR6.out HO6.out hF7 hO7 HSS.out HM.out); clear hF7 hO7)
            | (go_at_call 20; (with_reducible refine (rText_nil _ _).mono ?_); rintro e w8 ⟨rfl, rfl⟩)))
          go_wp2
          go_roundw
          case rel => exact ⟨k + 1, bs2, bad2, a2, by go_num, by omega, by omega, HBF⟩
          case measure => simp [intOf]; omega
        have h2' : (x0 == 2) = false := by simpa using h2
        by_cases h3 : x0 = 3
        · subst h3
          have hC1 := rCount_c x1 gr q bs bad (W.alloc (.cells #[.int .i64 3, .int .i64 x1] 56)).drew (HBo.out.below (Below.drew (Below.refl _ _))).rd.1 HIsB.out
          have hC2 := fun W' (h : Rf w W' gf A c B a bad) => fNum_c x1 w W' gf A c B a bad h HRB.out
          obtain ⟨hs1, hs2, hs3⟩ := sim_most x1 HA.out HSim.out
          have hm := rcount_mem (most := x1) (bad := bad) HIsB.out
          generalize rcount x1 bs bad = R at *
          generalize fnum x1 B a bad = F at *
          obtain ⟨n2, bs2, bad2⟩ := R
          obtain ⟨n3, a2, bad3⟩ := F
          simp only at hs1 hs2 hs3 hm hC1 hC2
          subst hs1 hs2
          have HC1 := Aside0.mk hC1
          have HC2 := Aside0.mk hC2
          have HSS := Aside0.mk hs3
          have HM := Aside0.mk hm
          clear hC1 hC2 hs3 hm
          have d1 : (W.alloc (.cells #[.int .i64 3, .int .i64 x1] 56)).drew.cell? ⟨W.heap.size, 1, none⟩ = some (.int .i64 x1) := (blk_cell xb.out 1).trans rfl
          have HBD := Aside0.mk (HBo.out.below (Below.drew (Below.refl _ _)))
          go_wp2
          go_region_held3 (fun W' => W'.cell? ⟨W.heap.size, 1, none⟩ = some (.int .i64 x1)) (go_keep) ((first
            | (go_at_call 26; (with_reducible refine HC1.out.mono ?_); rintro e w6 ⟨rfl, hR6, hO6⟩; have cc6 := (hO6.cell (p := ⟨W.heap.size, 1, none⟩) d1 HXN.out.1); have HR6 := Aside0.mk hR6; have HO6 := Aside0.mk hO6; clear hR6 hO6)
            | (go_at_call 23; (with_reducible refine (HC2.out w6 (HBD.out.other HO6.out)).mono ?_); rintro e w7 ⟨rfl, hF7, hO7⟩; have cc7 := (hO7.cell (p := ⟨W.heap.size, 1, none⟩) cc6 HXN.out.2); have HBF := Aside0.mk (HBD.out.step HR6.out HO6.out hF7 hO7 HSS.out HM.out); clear hF7 hO7)
            | (go_at_call 26; (with_reducible refine (rCount_nil _ _).mono ?_); rintro e w8 ⟨rfl, rfl⟩)))
          go_wp2
          go_roundw
          case rel => exact ⟨k + 1, bs2, bad2, a2, by go_num, by omega, by omega, HBF⟩
          case measure => simp [intOf]; omega
        have h3' : (x0 == 3) = false := by simpa using h3
        clear h0 h1 h2 h3
        have hC1 := rEnd_c gr q bs bad (W.alloc (.cells #[.int .i64 x0, .int .i64 x1] 56)) HBo.out.rd.1
        have HBo1 := Aside0.mk (fun W' (h : Rf w W' gf A c B a bad) => fWhole_c w W' gf A c B a bad h)
        rcases sim_end HA.out HSim.out with ⟨e1, e2⟩ | ⟨e1, e2⟩
        · rw [e1] at hC1
          have HC1 := Aside0.mk hC1
          have E1 := Aside0.mk e1
          have E2 := Aside0.mk e2
          clear hC1 e1 e2
          go_wp2_with (first
            | (go_at_call 22; (with_reducible refine HC1.out.mono ?_); rintro e w6 ⟨rfl, rfl⟩)
            | (go_at_call 27; (with_reducible refine (HBo1.out _ HBo.out.rf).mono ?_); rw [E2.out]; rintro e w7 ⟨rfl, hF7, hO7⟩; have HB7 := Aside0.mk (HBo.out.step HBo.out.rd.1 (Only.refl _ _) hF7 hO7 HSim.out HIsB.out); clear hF7 hO7)
            | (go_at_call 27; (with_reducible refine (HBo1.out _ HB7.out.rf).mono ?_); rw [E2.out]; rintro e w8 ⟨rfl, hF8, hO8⟩; have HBF := Aside0.mk (HB7.out.step HB7.out.rd.1 (Only.refl _ _) hF8 hO8 HSim.out HIsB.out); clear hF8 hO8)
            | (go_at_call 22; (with_reducible refine (rEnd_c gr q bs bad _ (RdNew.at_ HBF.out.rd)).mono ?_); rw [E1.out]; rintro e w9 ⟨rfl, rfl⟩))
          go_roundw
          case rel => exact ⟨k + 1, bs, bad, a, by go_num, by omega, by omega, HBF⟩
          case measure => simp [intOf]; omega
        · rw [e1] at hC1
          have HC1 := Aside0.mk hC1
          have E1 := Aside0.mk e1
          have E2 := Aside0.mk e2
          clear hC1 e1 e2
          go_wp2_with (first
            | (go_at_call 22; (with_reducible refine HC1.out.mono ?_); rintro e w6 ⟨rfl, rfl⟩)
            | (go_at_call 27; (with_reducible refine (HBo1.out _ HBo.out.rf).mono ?_); rw [E2.out]; rintro e w7 ⟨rfl, hF7, hO7⟩; have HB7 := Aside0.mk (HBo.out.step HBo.out.rd.1 (Only.refl _ _) hF7 hO7 HSim.out HIsB.out); clear hF7 hO7)
            | (go_at_call 27; (with_reducible refine (HBo1.out _ HB7.out.rf).mono ?_); rw [E2.out]; rintro e w8 ⟨rfl, hF8, hO8⟩; have HBF := Aside0.mk (HB7.out.step HB7.out.rd.1 (Only.refl _ _) hF8 hO8 HSim.out HIsB.out); clear hF8 hO8)
            | (go_at_call 22; (with_reducible refine (rEnd_c gr q bs bad _ (RdNew.at_ HBF.out.rd)).mono ?_); rw [E1.out]; rintro e w9 ⟨rfl, rfl⟩))
          go_roundw
          case rel => exact ⟨k + 1, bs, bad, a, by go_num, by omega, by omega, HBF⟩
          case measure => simp [intOf]; omega

    · have hend := sim_end HV.out.rf.le HV.out.sim
      have C1 := rEnd_c gr q bs bad wr HV.out.rd.1
      have C2 := fWhole_c w wr gf A c B a bad HV.out.rf
      have HBel := Aside0.mk HV.out
      rcases hend with ⟨e1, e2⟩ | ⟨e1, e2⟩
      all_goals
        rw [e1] at C1
        rw [e2] at C2
        have HC1 := Aside0.mk C1
        have HC2 := Aside0.mk C2
        clear C1 C2 e1 e2
      · by_cases hq : k < n1
        · obtain rfl : k = 100 := by omega
          clear hlt
          go_wp2_with (first
            | (go_at_call 22; (with_reducible refine HC1.out.mono ?_); rintro e w6 ⟨rfl, rfl⟩)
            | (go_at_call 27; (with_reducible refine HC2.out.mono ?_); rintro e w7 ⟨rfl, hF7, hO7⟩; have HB7 := Aside0.mk hF7.bel; clear hF7 hO7)
            | (go_at_call 22; (with_reducible refine (rEnd_nil _).mono ?_); rintro e w8 ⟨rfl, rfl⟩))
          go_ret
          exact ⟨rfl, HB7.out⟩
        · have hq' : decide (k < n1) = false := decide_eq_false hq
          clear hlt
          go_wp2_with (first
            | (go_at_call 22; (with_reducible refine HC1.out.mono ?_); rintro e w6 ⟨rfl, rfl⟩)
            | (go_at_call 27; (with_reducible refine HC2.out.mono ?_); rintro e w7 ⟨rfl, hF7, hO7⟩; have HB7 := Aside0.mk hF7.bel; clear hF7 hO7)
            | (go_at_call 22; (with_reducible refine (rEnd_nil _).mono ?_); rintro e w8 ⟨rfl, rfl⟩))
          go_ret
          exact ⟨rfl, HB7.out⟩
      · by_cases hq : k < n1
        · obtain rfl : k = 100 := by omega
          clear hlt
          go_wp2_with (first
            | (go_at_call 22; (with_reducible refine HC1.out.mono ?_); rintro e w6 ⟨rfl, rfl⟩)
            | (go_at_call 27; (with_reducible refine HC2.out.mono ?_); rintro e w7 ⟨rfl, hF7, hO7⟩; have HB7 := Aside0.mk hF7.bel; clear hF7 hO7)
            | (go_at_call 22; (with_reducible refine (rEnd_nil _).mono ?_); rintro e w8 ⟨rfl, rfl⟩))
          go_ret
          exact ⟨rfl, HB7.out⟩
        · have hq' : decide (k < n1) = false := decide_eq_false hq
          clear hlt
          go_wp2_with (first
            | (go_at_call 22; (with_reducible refine HC1.out.mono ?_); rintro e w6 ⟨rfl, rfl⟩)
            | (go_at_call 27; (with_reducible refine HC2.out.mono ?_); rintro e w7 ⟨rfl, hF7, hO7⟩; have HB7 := Aside0.mk hF7.bel; clear hF7 hO7)
            | (go_at_call 22; (with_reducible refine (rEnd_nil _).mono ?_); rintro e w8 ⟨rfl, rfl⟩))
          go_ret
          exact ⟨rfl, HB7.out⟩
end Go.Proofs.Ytlelddljamfblaa.Pk
