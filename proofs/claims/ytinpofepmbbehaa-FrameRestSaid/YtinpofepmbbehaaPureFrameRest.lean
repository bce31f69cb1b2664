/- What stands behind the place that Cut tells begins with no frame; what stands ahead are the frames of its payloads. -/
import Derived.Test.YtinpofepmbbehaaPFramex6
import Derived.Test.YtinpofepmbbehaaFrameE
namespace Go.Proofs.Ytinpofepmbbehaa.Pure
open Go.RowKit Go.Proofs.Ytinpofepmbbehaa.PFrame Go.Proofs.YtinpofepmbbehaaW.PrintWords Go.Proofs.YtinpofepmbbehaaW.PrintLast
set_option linter.unusedVariables false

theorem rest_l0 (b : List Int) (hbb : ∀ x ∈ b, IsB x) (hl : b.length ≤ 1000000) (L : List (List Int)) (at_ : Nat) (hat : at_ ≤ b.length) (hL : ∀ p ∈ L, Ok p ∧ ∀ y ∈ p, IsB y)
    (hcat : b = (L.map sealL).flatten ++ b.drop at_) (hlen : ((L.map sealL).flatten).length = at_) (hLn : L.length ≤ b.length) (hno : firstL (b.drop at_) = none) (d : Nat) :
    ∀ (i : Nat) (acc : List Int), i + d = L.length → acc ++ ((L.drop i).map sealL).flatten = (L.map sealL).flatten →
      Ev (fun k => meridianlaw03_FrameRest.l0 k b L (at_ : Int) acc (L.length : Int) (i : Int)) true := by
  induction d with
  | zero =>
    intro i acc hi hacc
    rw [List.drop_eq_nil_of_le (by omega), List.map_nil, List.flatten_nil, List.append_nil] at hacc
    have htake : acc = b.take at_ := by
      rw [hacc, ← hlen]
      conv => rhs; rw [hcat, hlen]
      rw [List.take_append_of_le_length (by omega)]
      rw [← hlen, List.take_length]
    obtain ⟨L2, at2, e2, r1, _, h2, h3, h4, h5, h6⟩ := cut_f (b.drop at_) (drop_isB hbb _) (by rw [List.length_drop]; omega)
    have hL2 : L2 = [] := by
      cases L2 with
      | nil => rfl
      | cons q t =>
        exfalso
        have hq := (h4 q List.mem_cons_self)
        rw [List.map_cons, List.flatten_cons, List.append_assoc] at h5
        have hv : val4 (b.drop at_) = q.length := by rw [h5]; exact val4_sealL hq.1 _
        have hlq : (b.drop at_).length = 8 + q.length + ((t.map sealL).flatten ++ (b.drop at_).drop at2).length := by
          conv => lhs; rw [h5]
          rw [List.length_append, sealL_length]
        have okq := hq.1
        unfold Ok at okq
        unfold firstL at hno
        rw [if_pos ⟨by omega, by omega⟩] at hno
        have ht : (b.drop at_).take (8 + val4 (b.drop at_)).toNat = sealL q := by
          rw [hv, show ((8 : Int) + (q.length : Int)).toNat = (sealL q).length from by rw [sealL_length]; omega]
          conv => lhs; rw [h5]
          rw [List.take_append_of_le_length (by omega), List.take_length]
        rw [ht, openL_sealL hq.1] at hno
        cases hno
    subst hL2
    have hat2 : at2 = 0 := by
      have hq := congrArg List.length h5
      simp only [List.map_nil, List.flatten_nil, List.nil_append, List.length_drop] at hq
      rw [List.length_drop] at h2
      omega
    subst hat2
    refine Ev.step (f := fun k => (frame_Cut.f k (b.drop at_)).bind fun bt259 => (if (strOfNums acc).toList = (strOfNums (b.take at_)).toList then (if (bt259.1.length : Int) = 0 then (if bt259.2.1 = 0 then (some ((bt259.2.2 == 0) == ((at_ : Int) == (b.length : Int)))) else (some false)) else (some false)) else (some false))) (fun k => ?_) ?_
    · simp only [meridianlaw03_FrameRest.l0]
      rw [if_neg (by omega), if_pos (by omega), if_pos (by omega), Int.toNat_natCast]
    refine Ev.bind r1 ?_
    refine Ev.congr (f := fun _ => some true) (fun k => ?_) (Ev.now _)
    rw [htake, if_pos rfl]
    show (if (([] : List (List Int)).length : Int) = 0 then (if ((0 : Nat) : Int) = 0 then (some ((e2 == 0) == ((at_ : Int) == (b.length : Int)))) else (some false)) else (some false)) = _
    rw [if_pos (by rfl), if_pos (by rfl)]
    rw [List.length_drop] at h3
    rcases h3 with ⟨rfl, h⟩ | ⟨rfl, h⟩
    · rw [show (at_ : Int) = (b.length : Int) from by omega]; simp
    · rw [beq_eq_false_iff_ne.mpr (by omega : (at_ : Int) ≠ (b.length : Int))]; rfl
  | succ d ih =>
    intro i acc hi hacc
    have hlt : i < L.length := by omega
    have e : L.drop i = rd_L1 L i :: L.drop (i + 1) := by
      rw [List.drop_eq_getElem_cons hlt]
      unfold rd_L1
      rw [Int.toNat_natCast, List.getD_eq_getElem?_getD, List.getElem?_eq_getElem hlt]
      rfl
    have hm : rd_L1 L i ∈ L := List.mem_of_mem_drop (i := i) (by rw [e]; exact List.mem_cons_self)
    obtain ⟨okp, hbp⟩ := hL _ hm
    rw [e, List.map_cons, List.flatten_cons, ← List.append_assoc] at hacc
    have hal : (acc ++ sealL (rd_L1 L i)).length ≤ at_ := by
      have hq := congrArg List.length hacc; simp only [List.length_append] at hq ⊢; omega
    rw [List.length_append] at hal
    refine Ev.step (f := fun k => (frame_Seal.f k (rd_L1 L i)).bind fun bt251 => (if bt251.2 = 0 then (if acc.length + bt251.1.length < 140737488355328 then (meridianlaw03_FrameRest.l0 k b L (at_ : Int) (acc ++ bt251.1) (L.length : Int) (wrap64 ((i : Int) + 1))) else (none)) else (some false))) (fun k => ?_) ?_
    · simp only [meridianlaw03_FrameRest.l0]
      rw [if_pos (by omega), if_pos (by omega), if_pos (by omega)]
    unfold Ok at okp
    refine Ev.bind (seal_f hbp (by omega)) ?_
    rw [if_pos (by unfold Ok; omega)]
    refine Ev.congr (fun k => ?_) (ih (i + 1) (acc ++ sealL (rd_L1 L i)) (by omega) hacc)
    show (if (0 : Int) = 0 then (if acc.length + (sealL (rd_L1 L i)).length < 140737488355328 then (meridianlaw03_FrameRest.l0 k b L (at_ : Int) (acc ++ sealL (rd_L1 L i)) (L.length : Int) (wrap64 ((i : Int) + 1))) else (none)) else (some false)) = _
    rw [if_pos rfl, if_pos (by omega), w64 (by omega) (by omega)]
    rfl
theorem FrameRest : meridianlaw03_FrameRest.Pure := by
  intro b hm0 hs0 hw0
  have hbb := isB_of hw0
  refine Ev.rounds (g := fun k => meridianlaw03_FrameRest.f k b) ?_
  unfold meridianlaw03_FrameRest.f
  refine bind_awake ?_
  by_cases hbig : b.length > 1000000
  · exact Ev.congr (f := fun _ => some true) (fun k => by rw [if_pos (by omega)]) (Ev.now _)
  refine Ev.congr (f := fun k => (frame_Cut.f k b).bind fun bt245 => (if bt245.2.1 < 0 then (meridianlaw03_FrameRest.j0 k b bt245.1 bt245.2.1 true) else (if bt245.2.1 > (b.length : Int) then (meridianlaw03_FrameRest.j0 k b bt245.1 bt245.2.1 true) else (meridianlaw03_FrameRest.j0 k b bt245.1 bt245.2.1 ((bt245.2.2 == 0) != (bt245.2.1 == (b.length : Int))))))) (fun k => by rw [if_neg (by omega)]) ?_
  obtain ⟨L, at_, e, r1, _, h2, h3, h4, h5, h6⟩ := cut_f b hbb (by omega)
  have hlen : (L.map sealL).flatten.length = at_ := by
    have h8 : b.length = (L.map sealL).flatten.length + (b.drop at_).length := by rw [← List.length_append, ← h5]
    rw [List.length_drop] at h8
    omega
  have hLn : L.length ≤ b.length := by
    have hlen2 : ∀ L : List (List Int), L.length ≤ (L.map sealL).flatten.length := by
      intro L
      induction L with
      | nil => simp
      | cons q t ih =>
        rw [List.map_cons, List.flatten_cons, List.length_append, sealL_length, List.length_cons]
        omega
    have := hlen2 L
    omega
  refine Ev.bind r1 ?_
  have h0 : Ev (fun k => meridianlaw03_FrameRest.j0 k b L (at_ : Int) false) true := by
    refine Ev.step (fun k => ?_) (rest_l0 b hbb (by omega) L at_ h2 h4 h5 hlen hLn h6 L.length 0 [] (by omega) (by simp))
    simp only [meridianlaw03_FrameRest.j0]
    rw [if_neg (by decide)]
    rfl
  refine Ev.congr (fun k => ?_) h0
  show (if (at_ : Int) < 0 then (meridianlaw03_FrameRest.j0 k b L (at_ : Int) true) else (if (at_ : Int) > (b.length : Int) then (meridianlaw03_FrameRest.j0 k b L (at_ : Int) true) else (meridianlaw03_FrameRest.j0 k b L (at_ : Int) ((e == 0) != ((at_ : Int) == (b.length : Int)))))) = _
  rw [if_neg (by omega), if_neg (by omega)]
  congr 1
  rcases h3 with ⟨rfl, h⟩ | ⟨rfl, h⟩
  · rw [h]; simp
  · rw [beq_eq_false_iff_ne.mpr (by omega : (at_ : Int) ≠ (b.length : Int))]; rfl
end Go.Proofs.Ytinpofepmbbehaa.Pure
