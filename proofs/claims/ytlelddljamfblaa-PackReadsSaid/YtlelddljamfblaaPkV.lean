/- The reference's Number: the walk. -/
import Derived.Test.YtlelddljamfblaaPkU
import Derived.Test.YtlelddljamfblaaPkL
import Derived.Outline
namespace Go.Proofs.Ytlelddljamfblaa.Pk
open Go.RowKit Go.Proofs.YtlelddljamfblaaW.PrintWords Go.Proofs.YtlelddljamfblaaW.PrintLast Go.Proofs.YtlelddljamfblaaW.PrintMore Go.Proofs.Ytlelddljamfblaa.PPk
set_option linter.unusedVariables false
set_option linter.unusedSimpArgs false

set_option maxRecDepth 100000 in
set_option maxHeartbeats 8000000 in
theorem number_none (A : Option Addr) (c n : Nat) (B : List Int) (at_ : Nat) (w : World) (hn : B.length = n) (hr : ReadsInt w .u8 A n B) (ha : at_ ≤ n) (hb : ∀ x ∈ B, IsB x) (hs : segF (B.drop at_) = none) :
    Calls Try.prog 33 #[.slice A n c, .int .i64 (at_ : Int)] w (IsNumR (numR B at_) w) := by
  have hbd : ∀ x ∈ B.drop at_, IsB x := fun x hx => hb x (List.mem_of_mem_drop hx)
  have HE := Aside0.mk (numR_bad (B := B) (at_ := at_) (not_num hbd (fun _ _ _ h _ _ _ _ => by rw [hs] at h; cases h)))
  have HG := Aside0.mk (show ∀ j, at_ ≤ j → j < n → 128 ≤ rd B (j : Int) from fun j h1 h2 => by
    have := segF_none hs (rd B (j : Int)) (by
      rw [show (j : Int) = ((at_ + (j - at_) : Nat) : Int) by omega, ← rd_drop]
      rw [List.getD_eq_getElem?_getD, List.getElem?_eq_getElem (by rw [List.length_drop]; omega)]
      exact List.getElem_mem _)
    exact this)
  have hm := hr.2.1
  have HR := Aside0.mk hr
  have HA := Aside0.mk ha
  clear hr hs hb hbd hn
  generalize numR B at_ = R at *
  go_enter Try.func33, Try.ntmps33
  go_wp2
  go_loopw [7] (fun i wr => ∃ j : Nat, i = .int .i64 j ∧ at_ ≤ j ∧ j ≤ n ∧ wr = w) (fun i _ => n - (intOf i).toNat)
  case atStart => exact ⟨at_, rfl, by omega, ha, rfl⟩
  case round =>
    obtain ⟨j, rfl, h1, h2, rfl⟩ := hrel
    by_cases hlt : j < n
    · obtain ⟨ad, e, c0⟩ := HR.out.at_ (j : Int) (by omega) (by omega)
      cases e
      rw [Int.toNat_natCast] at c0
      have hg := HG.out j h1 hlt
      have i0 : (0 : Int) ≤ (j : Int) := by omega
      have i1 : (j : Int) < (n : Int) := by omega
      generalize rd B j = x at *
      go_wp2
      go_roundw
      case rel => exact ⟨j + 1, by go_num, by omega, by omega, by first | rfl | trivial⟩
      case measure => simp [intOf]; omega
    · obtain rfl : j = n := by omega
      go_wp2
      go_ret3
      exact IsNumR.mk HE.out (Below.refl _ _)

theorem string_row {R : List Int × Bool} {w w1 w2 : World} {q c : Nat} (h : GoodRow R w w1 q c) (hb : Below w1.heap.size w1 w2) : (convert 25 9 (.slice (some ⟨q, 0, none⟩) R.1.length c)).run Try.prog w2 = .ok (.string (strOfNums R.1)) w2 :=
  own_string (P := Try.prog) Try.underlying25 Try.underlying5 Try.underlying9 (pw_own_below h.1 hb)
theorem below_drewN (w : World) (m : Nat) : Below w.heap.size w (w.drewN m) := pw_below_drewN (Below.refl _ _) m
/-- 'b[at:end]' as a text. -/
theorem mid_text {A : Option Addr} {n c at_ e : Nat} {B : List Int} {w : World} (hn : B.length = n) (hr : ReadsInt w .u8 A n B) (hc : n ≤ c) (h1 : at_ ≤ e) (h2 : e ≤ n) :
    ∃ A2 c2, (∀ W : World, (Instr.slice 25 (.slice A n c) (some (.int .i64 (at_ : Int))) (some (.int .i64 (e : Int))) none).run Try.prog W = .ok (.slice A2 (e - at_) c2) W) ∧
      ∀ W : World, Below w.heap.size w W → (convert 25 9 (.slice A2 (e - at_) c2)).run Try.prog W = .ok (.string (strOfNums ((B.take e).drop at_))) W := by
  subst hn
  obtain ⟨i, hi, hz⟩ := Option.map_eq_some_iff.1 info_u8
  simp only [Prod.mk.injEq] at hz
  obtain ⟨A2, k1, k2, k3⟩ := print_mid_int (P := Try.prog) (k := .u8) 25 5 Try.underlying25 hi hz.2.1 A c B (at_ : Int) (e : Int) (by omega) (by omega) (by omega) hc
  have hl : ((B.take (e : Int).toNat).drop (at_ : Int).toNat).length = e - at_ := by
    rw [Int.toNat_natCast, Int.toNat_natCast, List.length_drop, List.length_take]; omega
  refine ⟨A2, c - (at_ : Int).toNat, fun W => ?_, fun W hB => ?_⟩
  · rw [k1 W, hl]
  · have k4 := (k2 w hr).below hB
    have := Kd.C_string (P := Try.prog) (c := c - (at_ : Int).toNat) Try.underlying25 Try.underlying5 Try.underlying9 (C_of k4)
    rw [hl] at this
    rw [this, Int.toNat_natCast, Int.toNat_natCast]
set_option maxRecDepth 100000 in
set_option maxHeartbeats 8000000 in
theorem number_some (A : Option Addr) (c n : Nat) (B : List Int) (at_ : Nat) (w : World) (hn : B.length = n) (hr : ReadsInt w .u8 A n B) (hc : n ≤ c) (ha : at_ ≤ n) (hb : ∀ x ∈ B, IsB x) (ds t : List Int) (hs : segF (B.drop at_) = some (ds, t)) :
    Calls Try.prog 33 #[.slice A n c, .int .i64 (at_ : Int)] w (IsNumR (numR B at_) w) := by
  have hbd : ∀ x ∈ B.drop at_, IsB x := fun x hx => hb x (List.mem_of_mem_drop hx)
  obtain ⟨he, h0, hhi, hlo⟩ := segF_some hs
  have hlen : at_ + ds.length + t.length = n := by
    have := congrArg List.length he
    rw [List.length_drop, List.length_append] at this
    omega
  have hrd : ∀ i, i < ds.length → rd B ((at_ + i : Nat) : Int) = ds.getD i 0 := fun i hi => by
    rw [← rd_drop, he, List.getD_eq_getElem?_getD, List.getD_eq_getElem?_getD, List.getElem?_append_left hi]
  have hdsB : ∀ x ∈ ds, IsB x := fun x hx => hbd x (by rw [he]; exact List.mem_append_left _ hx)
  -- what is so of a number that is none
  have HBad := Aside0.mk (show (9007199254740992 < val ds ∨ enc (val ds).toNat ≠ ds ∨ 9 < ds.length) → numR B at_ = (0, 0, false) from fun h => numR_bad (not_num hbd (fun n' ds' t' h1 h2 h3 h4 h5 => by
    rw [hs] at h1
    simp only [Option.some.injEq, Prod.mk.injEq] at h1
    obtain ⟨rfl, rfl⟩ := h1
    rcases h with h | h | h
    · omega
    · exact h h4
    · omega)))
  have HOk := Aside0.mk (show val ds ≤ 9007199254740992 → enc (val ds).toNat = ds → numR B at_ = (val ds, ((at_ + ds.length : Nat) : Int), true) from fun h1 h2 => by
    rw [numR_ok (seg_ok hs h1 h2)]
    have : (B.length : Int) - (t.length : Int) = ((at_ + ds.length : Nat) : Int) := by omega
    rw [this])
  have HSeg := Aside0.mk (show (B.take (at_ + ds.length)).drop at_ = ds by
    rw [List.drop_take, he, Nat.add_sub_cancel_left, List.take_left' rfl])
  have hm := hr.2.1
  have HR := Aside0.mk hr
  have HRD := Aside0.mk hrd
  have HHI := Aside0.mk hhi
  have HLO := Aside0.mk hlo
  have HDB := Aside0.mk hdsB
  obtain ⟨A2, c2, m1, m2⟩ := mid_text hn hr hc (show at_ ≤ at_ + ds.length by omega) (show at_ + ds.length ≤ n by omega)
  rw [HSeg.out] at m2
  simp only [Nat.add_sub_cancel_left] at m1 m2
  have M1 := Aside0.mk m1
  have M2 := Aside0.mk m2
  clear hr hs hb hbd he hrd hhi hlo hdsB hn m1 m2 HSeg
  generalize numR B at_ = R at *
  generalize hd : ds.length = d at *
  have HD := Aside0.mk hd
  clear hd
  go_enter Try.func33, Try.ntmps33
  go_wp2
  go_loopw [7] (fun i wr => ∃ j : Nat, i = .int .i64 ((at_ + j : Nat) : Int) ∧ j + 1 ≤ d ∧ Aside0 (wr = w)) (fun i _ => n - (intOf i).toNat)
  case atStart => exact ⟨0, rfl, by omega, ⟨rfl⟩⟩
  case round =>
    obtain ⟨j, rfl, h2, ⟨rfl⟩⟩ := hrel
    have i0 : (0 : Int) ≤ ((at_ + j : Nat) : Int) := by omega
    have i1 : ((at_ + j : Nat) : Int) < (n : Int) := by omega
    obtain ⟨ad, e, c0⟩ := HR.out.at_ ((at_ + j : Nat) : Int) i0 i1
    cases e
    have HX := Aside0.mk (HRD.out j (by omega))
    rw [HX.out, Int.toNat_natCast] at c0
    by_cases hlt : j + 1 < d
    · have hg := HHI.out j hlt
      generalize ds.getD j 0 = x at *
      generalize hk : at_ + j = k at *
      have HK := Aside0.mk hk
      clear hk
      go_wp2
      go_roundw
      case rel => exact ⟨j + 1, by have := HK.out; go_num, by omega, ⟨by first | rfl | trivial⟩⟩
      case measure => simp [intOf]; omega
    · obtain rfl : d = j + 1 := by omega
      have hlast : ds.getD j 0 < 128 := by have := HLO.out; rwa [show j + 1 - 1 = j by omega] at this
      have hlast' : decide (128 ≤ ds.getD j 0) = false := decide_eq_false (by omega)
      have hsub : ((at_ + j : Nat) : Int) - (at_ : Int) = (j : Int) := by omega
      have HSUB := Aside0.mk hsub
      clear hlt hsub
      generalize ds.getD j 0 = x at *
      generalize hk : at_ + j = k at *
      have HK := Aside0.mk hk
      have i2 : (at_ : Int) ≤ (k : Int) := by omega
      have i3 : decide ((n : Int) ≤ (k : Int)) = false := decide_eq_false (by omega)
      clear hk
      by_cases h9 : 8 < j
      · have HZ := Aside0.mk (HBad.out (.inr (.inr (by omega))))
        have i4 : (8 : Int) < (k : Int) - (at_ : Int) := by have := HK.out; omega
        go_wp2
        go_ret3
        exact IsNumR.mk HZ.out (Below.refl _ _)
      · have i4 : ¬ (8 : Int) < (k : Int) - (at_ : Int) := by have := HK.out; omega
        go_wp2
        clear i0 i1 i2 i3 i4 hlast hlast' c0
        have HV0 := Aside0.mk (show val (ds.drop (j + 1)) = 0 by rw [List.drop_eq_nil_of_le (by rw [HD.out]; exact Nat.le_refl _)]; rfl)
        go_loopw [8, 9] (fun nv iv w2 => ∃ p : Nat, p ≤ j + 1 ∧ iv = .int .i64 (((at_ + p : Nat) : Int) - 1) ∧ nv = .int .i64 (val (ds.drop p)) ∧ Aside0 (val (ds.drop p) ≤ 9007199254740992) ∧ Aside0 (w2 = wr)) (fun _ iv _ => (intOf iv + 1 - (at_ : Int)).toNat)
        case atStart => exact ⟨j + 1, by omega, congrArg (Value.int .i64) (by have := HK.out; omega), congrArg (Value.int .i64) HV0.out.symm, ⟨by rw [HV0.out]; decide⟩, ⟨rfl⟩⟩
        case round =>
          obtain ⟨p, hp, rfl, rfl, hle, ⟨rfl⟩⟩ := hrel
          cases p with
          | zero =>
            have e1 : ((at_ + 0 : Nat) : Int) - 1 < (at_ : Int) := by omega
            rw [List.drop_zero] at hle ⊢
            obtain ⟨m, hm2⟩ := Int.eq_ofNat_of_zero_le (val_nonneg ds)
            rw [hm2] at hle HBad HOk ⊢
            rw [Int.toNat_natCast] at HBad HOk
            have HM := Aside0.mk (show m ≤ 9007199254740992 by have := hle.out; omega)
            have HKI := Aside0.mk (show ((at_ + (j + 1) : Nat) : Int) = (k : Int) + 1 by have := HK.out; omega)
            have m1 := M1.out
            rw [HKI.out] at m1
            have HM1 := Aside0.mk m1
            have KW := Aside0.mk (show IntKind.i64.wrap ((k : Int) + 1) = (k : Int) + 1 by rw [IntKind.wrap_i64]; have := HK.out; omega)
            clear hm2 m1 hle
            by_cases hok : enc m = ds
            · have HRes := Aside0.mk (HOk.out (by have := HM.out; omega) hok)
              rw [HKI.out] at HRes
              have heq : ((strOfNums (enc m)).toList == (strOfNums ds).toList) = true := by rw [hok]; exact beq_self_eq_true _
              have HEQ := Aside0.mk heq
              clear hok heq
              go_wp2_with (go_at_call 30; (with_reducible refine (digits_ok m HM.out _).mono ?_); rintro e w4 ⟨q, d1, rfl, hG⟩; have HB4 := Aside0.mk (GoodRow.bel hG); have HG := Aside0.mk hG; clear hG)
              have kk1 := HM1.out
              have kk2 := fun a => string_row HG.out (below_drewN w4 a)
              have kk3 := fun a => M2.out (w4.drewN a) (below_step HB4.out (below_drewN w4 a))
              have kk4 := HEQ.out
              have kk5 : IntKind.i64.wrap ((k : Int) + 1) = (k : Int) + 1 := KW.out
              go_quiet (fail)
              clear kk5
              go_wp2
              go_ret3
              exact IsNumR.mk HRes.out (pw_below_drewN HB4.out nq)
            · have HZ := Aside0.mk (HBad.out (.inr (.inl hok)))
              have heq : ((strOfNums (enc m)).toList == (strOfNums ds).toList) = false := by
                apply beq_eq_false_iff_ne.mpr
                intro h
                have h1 := congrArg bytesOf (toList_inj h)
                rw [bytesOf_strOf (enc_isB m), bytesOf_strOf HDB.out] at h1
                exact hok h1
              have HEQ := Aside0.mk heq
              clear hok heq
              go_wp2_with (go_at_call 30; (with_reducible refine (digits_ok m HM.out _).mono ?_); rintro e w4 ⟨q, d1, rfl, hG⟩; have HB4 := Aside0.mk (GoodRow.bel hG); have HG := Aside0.mk hG; clear hG)
              have kk1 := HM1.out
              have kk2 := fun a => string_row HG.out (below_drewN w4 a)
              have kk3 := fun a => M2.out (w4.drewN a) (below_step HB4.out (below_drewN w4 a))
              have kk4 := HEQ.out
              have kk5 : IntKind.i64.wrap ((k : Int) + 1) = (k : Int) + 1 := KW.out
              go_quiet (fail)
              clear kk5
              go_wp2
              go_ret3
              exact IsNumR.mk HZ.out (pw_below_drewN HB4.out nq)
          | succ p =>
            have hpj : at_ + p < n := by omega
            have e1 : ((at_ + (p + 1) : Nat) : Int) - 1 = ((at_ + p : Nat) : Int) := by omega
            rw [e1]
            have HS := Aside0.mk (val_step (l := ds) (k := p) (by rw [HD.out]; omega))
            have hv0 := val_nonneg (ds.drop (p + 1))
            have hv1 := hle.out
            have HX := Aside0.mk (HRD.out p (by omega))
            have HXB := HDB.out (ds.getD p 0) (by rw [List.getD_eq_getElem?_getD, List.getElem?_eq_getElem (show p < ds.length by rw [HD.out]; omega)]; exact List.getElem_mem _)
            have i0 : (0 : Int) ≤ ((at_ + p : Nat) : Int) := by omega
            have i1 : ((at_ + p : Nat) : Int) < (n : Int) := by omega
            obtain ⟨ad2, e, c0⟩ := HR.out.at_ ((at_ + p : Nat) : Int) i0 i1
            cases e
            rw [HX.out, Int.toNat_natCast] at c0
            obtain ⟨x0, x1⟩ := HXB
            generalize ds.getD p 0 = y at *
            generalize val (ds.drop (p + 1)) = V at *
            have HMON := Aside0.mk (val_drop_le ds p)
            generalize hv2 : val (ds.drop p) = V2 at *
            have HVD := Aside0.mk hv2
            clear hv2
            have hge : (at_ : Int) ≤ ((at_ + p : Nat) : Int) := by omega
            generalize hk2 : at_ + p = k2 at *
            have HK2 := Aside0.mk hk2
            clear hk2 e1 hpj hle
            by_cases hbig : 9007199254740992 < V2
            · have HZ := Aside0.mk (HBad.out (.inl (by have := HMON.out; omega)))
              have hbig2 : 9007199254740992 < V * 128 + y % 128 := by have := HS.out; omega
              clear hbig
              go_wp2
              go_ret3
              exact IsNumR.mk HZ.out (Below.refl _ _)
            · have hbig2 : ¬ 9007199254740992 < V * 128 + y % 128 := by have := HS.out; omega
              have HV2 := Aside0.mk (show V * 128 + y % 128 = V2 by have := HS.out; omega)
              have HLE2 := Aside0.mk (show V2 ≤ 9007199254740992 by omega)
              clear hbig
              go_wp2
              go_roundw
              case rel => exact ⟨p, by omega, congrArg (Value.int .i64) (by have := HK2.out; omega), congrArg (Value.int .i64) (HV2.out.trans HVD.out.symm), ⟨by rw [HVD.out]; exact HLE2.out⟩, ⟨by first | rfl | trivial⟩⟩
              case measure => simp [intOf]; omega
/-- The reference's Number. -/
theorem number_r (A : Option Addr) (c n : Nat) (B : List Int) (at_ : Nat) (w : World) (hn : B.length = n) (hr : ReadsInt w .u8 A n B) (hc : n ≤ c) (ha : at_ ≤ n) (hb : ∀ x ∈ B, IsB x) :
    Calls Try.prog 33 #[.slice A n c, .int .i64 (at_ : Int)] w (IsNumR (numR B at_) w) := by
  cases hs : segF (B.drop at_) with
  | none => exact number_none A c n B at_ w hn hr ha hb hs
  | some p => exact number_some A c n B at_ w hn hr hc ha hb p.1 p.2 hs
end Go.Proofs.Ytlelddljamfblaa.Pk
