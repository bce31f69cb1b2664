/- What was sealed is opened; with one byte turned, with some missing or more, it is refused. (Of payloads and what is behind of at most 1048576 bytes each: the statement's second form.) -/
import Derived.Test.YtinpofepmbbehaaPFrameb
import Derived.Test.YtinpofepmbbehaaFrameF
namespace Go.Proofs.Ytinpofepmbbehaa.Pure
open Go.RowKit Go.Proofs.Ytinpofepmbbehaa.PFrame Go.Proofs.YtinpofepmbbehaaW.PrintWords Go.Proofs.YtinpofepmbbehaaW.PrintLast
set_option linter.unusedVariables false

theorem back_j2 (p more : List Int) (at_ by_ : Int) (hbp : ∀ x ∈ p, IsB x) (hbm : ∀ x ∈ more, IsB x) (hby : IsB by_) (ok : Ok p) (hm : more.length ≤ 1048576) (h0 : 0 ≤ at_) (h1 : at_ < ((sealL p).length : Int)) :
    Ev (fun k => meridianlaw03_FrameBack.j2 k at_ by_ more (sealL p) false) true := by
  obtain ⟨n, rfl⟩ := Int.eq_ofNat_of_zero_le h0
  have okp := ok
  unfold Ok at okp
  have hsb := sealL_isB hbp
  have hsl := sealL_length p
  have hn : n < (sealL p).length := by omega
  have hrd : IsB (rd (sealL p) (n : Int)) := hsb _ (rd_mem hn)
  obtain ⟨hxb, _⟩ := x2_is _ _ hrd hby
  have hxs := x2_same _ _ hrd hby
  unfold x2 at hxb hxs
  have hcb : ∀ x ∈ (sealL p).set n (Go.bits .xor .u8 (rd (sealL p) (n : Int)) by_), IsB x := by
    intro x hx
    rcases List.mem_or_eq_of_mem_set hx with h | h
    · exact hsb x h
    · rw [h]; exact hxb
  have hcl : ((sealL p).set n (Go.bits .xor .u8 (rd (sealL p) (n : Int)) by_)).length ≤ 140737488351232 := by rw [List.length_set]; omega
  have hlb := app_isB hsb hbm
  refine Ev.step (f := fun k => (frame_Open.f k ((sealL p).set n (Go.bits .xor .u8 (rd (sealL p) (n : Int)) by_))).bind fun bt153 => ((frame_Open.f k ((sealL p).take n)).bind fun bt161 => ((frame_Open.f k (sealL p ++ more)).bind fun bt174 => (if ((bt153.2 == 0) == (by_ == 0)) = true then (if by_ = 0 then (if bt161.2 = 2 then (meridianlaw03_FrameBack.j3 k ((bt174.2 == 0) == ((more.length : Int) == 0))) else (meridianlaw03_FrameBack.j3 k false)) else (if (bt153.1.length : Int) = 0 then (if bt161.2 = 2 then (meridianlaw03_FrameBack.j3 k ((bt174.2 == 0) == ((more.length : Int) == 0))) else (meridianlaw03_FrameBack.j3 k false)) else (meridianlaw03_FrameBack.j3 k false))) else (meridianlaw03_FrameBack.j3 k false))))) (fun k => ?_) ?_
  · simp only [meridianlaw03_FrameBack.j2]
    rw [if_neg (by decide), Option.bind_some, if_pos (by simp only [List.length_nil]; omega), Option.bind_some, List.nil_append, if_pos (by omega), if_pos (by omega), Int.toNat_natCast]
    congr 1
    funext bt153
    rw [if_pos (by omega)]
    congr 1
    funext bt161
    rw [Option.bind_some, if_pos (by simp only [List.length_nil]; omega), Option.bind_some, List.nil_append, if_pos (by omega)]
  refine Ev.bind (open_f hcb hcl) ?_
  have ht := open_f (take_isB hsb n) (by rw [List.length_take]; omega)
  rw [openL_take ok hn] at ht
  refine Ev.bind ht ?_
  refine Ev.bind (open_f hlb (by rw [List.length_append]; omega)) ?_
  have h3 : Ev (fun k => meridianlaw03_FrameBack.j3 k true) true := by
    refine Ev.step (f := fun _ => some true) (fun k => ?_) (Ev.now _)
    simp only [meridianlaw03_FrameBack.j3]
  refine Ev.congr (fun k => ?_) h3
  have hres : ((ansE (openL (sealL p ++ more))).2 == 0) = ((more.length : Int) == 0) := by
    by_cases hmo : more = []
    · rw [hmo, List.append_nil, openL_sealL ok]; rfl
    · rw [openL_more ok hmo]
      have : (more.length : Int) ≠ 0 := fun h => hmo (List.eq_nil_of_length_eq_zero (by omega))
      rw [beq_eq_false_iff_ne.mpr this]
      rfl
  rw [hres]
  show (if (((ansE (openL ((sealL p).set n (Go.bits .xor .u8 (rd (sealL p) (n : Int)) by_)))).2 == 0) == (by_ == 0)) = true then (if by_ = 0 then (if (2 : Int) = 2 then (meridianlaw03_FrameBack.j3 k (((more.length : Int) == 0) == ((more.length : Int) == 0))) else (meridianlaw03_FrameBack.j3 k false)) else (if ((ansE (openL ((sealL p).set n (Go.bits .xor .u8 (rd (sealL p) (n : Int)) by_)))).1.length : Int) = 0 then (if (2 : Int) = 2 then (meridianlaw03_FrameBack.j3 k (((more.length : Int) == 0) == ((more.length : Int) == 0))) else (meridianlaw03_FrameBack.j3 k false)) else (meridianlaw03_FrameBack.j3 k false))) else (meridianlaw03_FrameBack.j3 k false)) = _
  by_cases hb0 : by_ = 0
  · have he : (sealL p).set n (Go.bits .xor .u8 (rd (sealL p) (n : Int)) by_) = sealL p := by
      rw [hxs.mpr hb0]
      apply List.ext_getElem?
      intro j
      rw [List.getElem?_set]
      split
      · rename_i hj
        subst hj
        try rw [if_pos hn]
        unfold rd
        rw [Int.toNat_natCast, List.getD_eq_getElem?_getD, List.getElem?_eq_getElem hn]
        rfl
      · rfl
    rw [he, openL_sealL ok]
    show (if (((0 : Int) == 0) == (by_ == 0)) = true then _ else _) = _
    rw [if_pos (by rw [hb0]; rfl), if_pos hb0, if_pos rfl, beq_self_eq_true]
  · have hne : Go.bits .xor .u8 (rd (sealL p) (n : Int)) by_ ≠ rd (sealL p) (n : Int) := fun h => hb0 (hxs.mp h)
    rw [openL_turn ok hbp hn hxb hne]
    show (if (((2 : Int) == 0) == (by_ == 0)) = true then (if by_ = 0 then _ else (if (([] : List Int).length : Int) = 0 then (if (2 : Int) = 2 then (meridianlaw03_FrameBack.j3 k (((more.length : Int) == 0) == ((more.length : Int) == 0))) else (meridianlaw03_FrameBack.j3 k false)) else (meridianlaw03_FrameBack.j3 k false))) else _) = _
    rw [if_pos (by rw [beq_eq_false_iff_ne.mpr hb0]; rfl), if_neg hb0, if_pos (by rfl), if_pos rfl, beq_self_eq_true]
theorem FrameBack (p more : List Int) (at_ by_ : Int) (hp : p.length ≤ 1048576) (hm : more.length ≤ 1048576) (hwp : ∀ x ∈ p, (Lit.int .u8 x).wf = true) (hwm : ∀ x ∈ more, (Lit.int .u8 x).wf = true) (hby : IsB by_) :
    ∃ k, meridianlaw03_FrameBack.f k p at_ by_ more = some true := by
  have hbp := isB_of hwp
  have hbm := isB_of hwm
  refine Ev.rounds (g := fun k => meridianlaw03_FrameBack.f k p at_ by_ more) ?_
  unfold meridianlaw03_FrameBack.f
  refine bind_awake ?_
  refine Ev.bind (seal_f hbp (by omega)) ?_
  have h0 : Ev (fun k => meridianlaw03_FrameBack.j0 k true) true := by
    refine Ev.step (f := fun _ => some true) (fun k => ?_) (Ev.now _)
    simp only [meridianlaw03_FrameBack.j0]
  by_cases ok : Ok p
  · rw [if_pos ok]
    have okp := ok
    unfold Ok at okp
    have hsl := sealL_length p
    refine Ev.congr (f := fun k => (frame_Open.f k (sealL p)).bind fun bt140 => (if bt140.2 = 0 then ((meridianref01_Same.f bt140.1 p).bind fun t144 => (meridianlaw03_FrameBack.j1 k at_ by_ more (sealL p) (!t144))) else (meridianlaw03_FrameBack.j1 k at_ by_ more (sealL p) true))) (fun k => ?_) ?_
    · show (if (0 : Int) = 0 then _ else _) = _
      rw [if_pos rfl]
    have ho := open_f (sealL_isB hbp) (by omega)
    rw [openL_sealL ok] at ho
    refine Ev.bind ho ?_
    have h2t : Ev (fun k => meridianlaw03_FrameBack.j2 k at_ by_ more (sealL p) true) true := by
      refine Ev.step (f := fun _ => some true) (fun k => ?_) (Ev.now _)
      simp only [meridianlaw03_FrameBack.j2]
      exact if_pos trivial
    have h1 : Ev (fun k => meridianlaw03_FrameBack.j1 k at_ by_ more (sealL p) false) true := by
      by_cases a0 : at_ < 0
      · refine Ev.step (fun k => ?_) h2t
        simp only [meridianlaw03_FrameBack.j1]
        rw [if_neg (by decide), if_pos a0]
      by_cases a1 : at_ ≥ ((sealL p).length : Int)
      · refine Ev.step (fun k => ?_) h2t
        simp only [meridianlaw03_FrameBack.j1]
        rw [if_neg (by decide), if_neg a0, decide_eq_true a1]
      · refine Ev.step (fun k => ?_) (back_j2 p more at_ by_ hbp hbm hby ok hm (by omega) (by omega))
        simp only [meridianlaw03_FrameBack.j1]
        rw [if_neg (by decide), if_neg a0, decide_eq_false a1]
    refine Ev.congr (fun k => ?_) h1
    show (if (0 : Int) = 0 then ((meridianref01_Same.f p p).bind fun t144 => (meridianlaw03_FrameBack.j1 k at_ by_ more (sealL p) (!t144))) else _) = _
    rw [if_pos rfl, same_self]
    rfl
  · rw [if_neg ok]
    unfold Ok at ok
    refine Ev.congr (fun k => ?_) h0
    show (if (1 : Int) = 0 then _ else (if (([] : List Int).length : Int) = 0 then (if (p.length : Int) = 0 then (meridianlaw03_FrameBack.j0 k true) else (meridianlaw03_FrameBack.j0 k (decide ((p.length : Int) > 65536)))) else (meridianlaw03_FrameBack.j0 k false))) = _
    rw [if_neg (by decide), if_pos (by rfl)]
    by_cases e0 : p.length = 0
    · rw [if_pos (by omega)]
    · rw [if_neg (by omega), decide_eq_true (by omega : (p.length : Int) > 65536)]
end Go.Proofs.Ytinpofepmbbehaa.Pure
