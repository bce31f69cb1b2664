/- What Open takes is the one frame that Cut tells, and is what Seal makes of the payload. (Of texts of at most 1048576 bytes: the statement's second form.) -/
import Derived.Test.YtinpofepmbbehaaPFramex5
import Derived.Test.YtinpofepmbbehaaFrameE
namespace Go.Proofs.Ytinpofepmbbehaa.Pure
open Go.RowKit Go.Proofs.Ytinpofepmbbehaa.PFrame Go.Proofs.YtinpofepmbbehaaW.PrintWords Go.Proofs.YtinpofepmbbehaaW.PrintLast
set_option linter.unusedVariables false

theorem FrameMore (b : List Int) (hl : b.length ≤ 1048576) (hw0 : ∀ x ∈ b, (Lit.int .u8 x).wf = true) : ∃ k, meridianlaw03_FrameMore.f k b = some true := by
  have hbb := isB_of hw0
  refine Ev.rounds (g := fun k => meridianlaw03_FrameMore.f k b) ?_
  unfold meridianlaw03_FrameMore.f
  refine bind_awake ?_
  obtain ⟨L, at_, e, r1, _, h2, h3, h4, h5, h6⟩ := cut_f b hbb (by omega)
  refine Ev.bind (open_f hbb (by omega)) ?_
  refine Ev.bind r1 ?_
  cases ho : openL b with
  | none =>
    refine Ev.congr (f := fun _ => some true) (fun k => ?_) (Ev.now _)
    show (if (2 : Int) = 0 then _ else (if (2 : Int) = 2 then (if (([] : List Int).length : Int) = 0 then (if e = 0 then (some ((L.length : Int) != 1)) else (some true)) else (some false)) else (some false))) = _
    rw [if_neg (by decide), if_pos rfl, if_pos (by rfl)]
    by_cases he : e = 0
    · rw [if_pos he]
      have hne : (L.length : Int) ≠ 1 := by
        intro h1
        match L, h1, h4, h5 with
        | [q], _, h4, h5 =>
          have hat : at_ = b.length := by omega
          rw [hat, List.drop_length, List.append_nil, List.map_cons, List.map_nil, List.flatten_cons, List.flatten_nil, List.append_nil] at h5
          rw [h5, openL_sealL (h4 q List.mem_cons_self).1] at ho
          cases ho
      rw [bne_iff_ne.mpr hne]
    · rw [if_neg he]
  | some p =>
    obtain ⟨ok, eb, _⟩ := openL_some ho
    have hlb : b.length = 8 + p.length := by rw [eb, sealL_length]
    have okp := ok
    unfold Ok at okp
    have hbp : ∀ x ∈ p, IsB x := by
      intro x hx
      apply hbb
      rw [eb]
      unfold sealL
      exact List.mem_append_right _ hx
    have hL : L = [p] ∧ at_ = b.length := by
      cases L with
      | nil =>
        exfalso
        have hq := congrArg List.length h5
        simp only [List.map_nil, List.flatten_nil, List.nil_append, List.length_drop] at hq
        have hat : at_ = 0 := by omega
        rw [hat, List.drop_zero, (openL_first.mp ho).1] at h6
        cases h6
      | cons q t =>
        rw [List.map_cons, List.flatten_cons, List.append_assoc] at h5
        have hv : val4 b = q.length := by rw [h5]; exact val4_sealL (h4 q List.mem_cons_self).1 _
        have hv2 : val4 b = p.length := by have := val4_sealL ok []; rw [List.append_nil, ← eb] at this; exact this
        have hq := congrArg List.length h5
        rw [List.length_append, sealL_length] at hq
        have hr : (List.map sealL t).flatten ++ List.drop at_ b = [] := List.eq_nil_of_length_eq_zero (by omega)
        rw [hr, List.append_nil] at h5
        obtain ⟨hr1, hr2⟩ := List.append_eq_nil_iff.mp hr
        have hat : at_ = b.length := by
          have := congrArg List.length hr2
          simp only [List.length_drop, List.length_nil] at this
          omega
        have hpq : p = q := by
          have h7 : sealL p = sealL q := by rw [← eb]; exact h5
          have h8 := congrArg (List.drop 8) h7
          rw [sealL_drop, sealL_drop] at h8
          exact h8
        have ht : t = [] := by
          cases t with
          | nil => rfl
          | cons u v =>
            have := congrArg List.length hr1
            rw [List.map_cons, List.flatten_cons, List.length_append, sealL_length] at this
            simp at this
        exact ⟨by rw [hpq, ht], hat⟩
    obtain ⟨rfl, hat⟩ := hL
    have he : e = 0 := by omega
    refine Ev.congr (f := fun k => (frame_Seal.f k p).bind fun bt239 => (if e = 0 then (if (([p] : List (List Int)).length : Int) = 1 then (if 0 < (([p] : List (List Int)).length : Int) then (if (strOfNums (rd_L1 [p] 0)).toList = (strOfNums p).toList then (if (at_ : Int) = (b.length : Int) then (if bt239.2 = 0 then (some ((strOfNums bt239.1).toList == (strOfNums b).toList)) else (some false)) else (some false)) else (some false)) else (none)) else (some false)) else (some false))) (fun k => ?_) ?_
    · show (if (0 : Int) = 0 then _ else _) = _
      rw [if_pos rfl]
      rfl
    refine Ev.bind (seal_f hbp (by omega)) ?_
    rw [if_pos ok]
    refine Ev.congr (f := fun _ => some true) (fun k => ?_) (Ev.now _)
    show (if e = 0 then (if (([p] : List (List Int)).length : Int) = 1 then (if 0 < (([p] : List (List Int)).length : Int) then (if (strOfNums (rd_L1 [p] 0)).toList = (strOfNums p).toList then (if (at_ : Int) = (b.length : Int) then (if (0 : Int) = 0 then (some ((strOfNums (sealL p)).toList == (strOfNums b).toList)) else (some false)) else (some false)) else (some false)) else (none)) else (some false)) else (some false)) = _
    rw [if_pos he, if_pos (by rfl), if_pos (by simp), if_pos (by rfl), if_pos (by omega), if_pos rfl, ← eb]
    simp
end Go.Proofs.Ytinpofepmbbehaa.Pure
