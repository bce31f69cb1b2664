/- Any bytes are sealed, opened and cut as the document says. -/
import Derived.Test.YtinpofepmbbehaaPFramex5
import Derived.Test.YtinpofepmbbehaaFrameE
namespace Go.Proofs.Ytinpofepmbbehaa.Pure
open Go.RowKit Go.Proofs.Ytinpofepmbbehaa.PFrame Go.Proofs.YtinpofepmbbehaaW.PrintWords Go.Proofs.YtinpofepmbbehaaW.PrintLast
set_option linter.unusedVariables false

theorem FrameSeals : meridianlaw03_FrameSeals.Pure := by
  intro p b hm0 hs0 hw0 hm1 hs1 hw1
  have hbp := isB_of hw0
  have hbb := isB_of hw1
  refine Ev.rounds (g := fun k => meridianlaw03_FrameSeals.f k p b) ?_
  unfold meridianlaw03_FrameSeals.f
  refine bind_awake ?_
  by_cases hbig : b.length > 200000
  · exact Ev.congr (f := fun _ => some true) (fun k => by rw [if_pos (by omega)]) (Ev.now _)
  refine Ev.congr (f := fun k => (frame_Seal.f k p).bind fun bt199 => ((meridianref03_Seal.f k p).bind fun bt203 => (if ((bt199.2 == 0) != bt203.2) = true then (meridianlaw03_FrameSeals.j0 k b true) else (if bt203.2 = true then ((meridianref01_Same.f bt199.1 bt203.1).bind fun t207 => (meridianlaw03_FrameSeals.j0 k b (!t207))) else (if bt199.2 = 1 then ((meridianref01_Same.f bt199.1 bt203.1).bind fun t208 => (meridianlaw03_FrameSeals.j0 k b (!t208))) else (meridianlaw03_FrameSeals.j0 k b true)))))) (fun k => by rw [if_neg (by omega)]) ?_
  refine Ev.bind (seal_f hbp (by omega)) ?_
  refine Ev.bind (rseal_f hbp (by omega)) ?_
  -- the second half
  have h1 : Ev (fun k => meridianlaw03_FrameSeals.j1 k b false) true := by
    obtain ⟨L, at_, e, r1, r2, h2, h3, h4, h5, h6⟩ := cut_f b hbb (by omega)
    have hLn : L.length ≤ 1000000000000000 := by
      have hlen : ∀ L : List (List Int), (∀ p ∈ L, Ok p ∧ ∀ y ∈ p, IsB y) → L.length ≤ (L.map sealL).flatten.length := by
        intro L
        induction L with
        | nil => intro _; simp
        | cons q t ih =>
          intro h
          have := ih (fun z hz => h z (List.mem_cons_of_mem _ hz))
          rw [List.map_cons, List.flatten_cons, List.length_append, sealL_length, List.length_cons]
          omega
      have h7 := hlen L h4
      have h8 : b.length = (L.map sealL).flatten.length + (b.drop at_).length := by rw [← List.length_append, ← h5]
      omega
    refine Ev.step (f := fun k => (frame_Cut.f k b).bind fun bt219 => ((meridianref03_Cut.f k b).bind fun bt224 => ((meridianref03_Lists.f k bt219.1 bt224.1).bind fun t228 => (if t228 = true then (if bt219.2.1 = bt224.2 then (if ((bt219.2.2 == 0) == (bt224.2 == (b.length : Int))) = true then (if bt219.2.2 = 0 then (some true) else (some (bt219.2.2 == 2))) else (some false)) else (some false)) else (some false))))) (fun k => ?_) ?_
    · simp only [meridianlaw03_FrameSeals.j1]; rw [if_neg (by decide)]
    refine Ev.bind r1 ?_
    refine Ev.bind r2 ?_
    refine Ev.bind (lists_f L hLn) ?_
    refine Ev.congr (f := fun _ => some true) (fun k => ?_) (Ev.now _)
    show (if true = true then (if (at_ : Int) = (at_ : Int) then (if ((e == 0) == ((at_ : Int) == (b.length : Int))) = true then (if e = 0 then (some true) else (some (e == 2))) else (some false)) else (some false)) else (some false)) = _
    rw [if_pos rfl, if_pos rfl]
    rcases h3 with ⟨rfl, h⟩ | ⟨rfl, h⟩
    · rw [if_pos (by rw [h]; simp), if_pos rfl]
    · rw [if_pos (by rw [show ((2 : Int) == 0) = false from rfl, beq_eq_false_iff_ne.mpr (by omega : (at_ : Int) ≠ (b.length : Int))]; rfl), if_neg (by decide)]
      rfl
  have h0 : Ev (fun k => meridianlaw03_FrameSeals.j0 k b false) true := by
    refine Ev.step (f := fun k => (frame_Open.f k b).bind fun bt209 => ((meridianref03_Open.f k b).bind fun bt213 => (if ((bt209.2 == 0) != bt213.2) = true then (meridianlaw03_FrameSeals.j1 k b true) else (if bt213.2 = true then ((meridianref01_Same.f bt209.1 bt213.1).bind fun t217 => (meridianlaw03_FrameSeals.j1 k b (!t217))) else (if bt209.2 = 2 then ((meridianref01_Same.f bt209.1 bt213.1).bind fun t218 => (meridianlaw03_FrameSeals.j1 k b (!t218))) else (meridianlaw03_FrameSeals.j1 k b true)))))) (fun k => ?_) ?_
    · simp only [meridianlaw03_FrameSeals.j0]; rw [if_neg (by decide)]
    refine Ev.bind (open_f hbb (by omega)) ?_
    refine Ev.bind (ropen_f hbb (by omega)) ?_
    refine Ev.congr (fun k => ?_) h1
    cases ho : openL b with
    | none =>
      show (if (((2 : Int) == 0) != false) = true then (meridianlaw03_FrameSeals.j1 k b true) else (if false = true then _ else (if (2 : Int) = 2 then ((meridianref01_Same.f [] []).bind fun t218 => (meridianlaw03_FrameSeals.j1 k b (!t218))) else (meridianlaw03_FrameSeals.j1 k b true)))) = _
      rw [if_neg (by decide), if_neg (by decide), if_pos rfl, same_self]
      rfl
    | some q =>
      show (if (((0 : Int) == 0) != true) = true then (meridianlaw03_FrameSeals.j1 k b true) else (if true = true then ((meridianref01_Same.f q q).bind fun t217 => (meridianlaw03_FrameSeals.j1 k b (!t217))) else _)) = _
      rw [if_neg (by decide), if_pos rfl, same_self]
      rfl
  refine Ev.congr (fun k => ?_) h0
  by_cases ok : Ok p
  · rw [if_pos ok, if_pos ok]
    show (if (((0 : Int) == 0) != true) = true then (meridianlaw03_FrameSeals.j0 k b true) else (if true = true then ((meridianref01_Same.f (sealL p) (sealL p)).bind fun t207 => (meridianlaw03_FrameSeals.j0 k b (!t207))) else _)) = _
    rw [if_neg (by decide), if_pos rfl, same_self]
    rfl
  · rw [if_neg ok, if_neg ok]
    show (if (((1 : Int) == 0) != false) = true then (meridianlaw03_FrameSeals.j0 k b true) else (if false = true then _ else (if (1 : Int) = 1 then ((meridianref01_Same.f [] []).bind fun t208 => (meridianlaw03_FrameSeals.j0 k b (!t208))) else (meridianlaw03_FrameSeals.j0 k b true)))) = _
    rw [if_neg (by decide), if_neg (by decide), if_pos rfl, same_self]
    rfl
end Go.Proofs.Ytinpofepmbbehaa.Pure
