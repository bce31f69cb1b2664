/- Plain laws of the frame: Open, Cut, and the reference's: one answer. -/
import Derived.Test.YtinpofepmbbehaaFrameC
import Derived.Test.YtinpofepmbbehaaPFramex4
namespace Go.Proofs.Ytinpofepmbbehaa.PFrame
open Go.RowKit Go.Proofs.YtinpofepmbbehaaW.PrintWords Go.Proofs.YtinpofepmbbehaaW.PrintLast Go.Proofs.YtinpofepmbbehaaW.PrintMore
set_option linter.unusedVariables false
set_option linter.unusedSimpArgs false

def openL (b : List Int) : Option (List Int) := if Ok (b.drop 8) ∧ b = sealL (b.drop 8) then some (b.drop 8) else none
def firstL (l : List Int) : Option (List Int) := if 9 ≤ l.length ∧ val4 l ≤ (l.length : Int) - 8 then openL (l.take (8 + val4 l).toNat) else none
def ans (o : Option (List Int)) : List Int × Bool := match o with | some p => (p, true) | none => ([], false)
def ansE (o : Option (List Int)) : List Int × Int := match o with | some p => (p, 0) | none => ([], 2)
theorem openL_some {b p : List Int} (h : openL b = some p) : Ok p ∧ b = sealL p ∧ p = b.drop 8 := by
  unfold openL at h
  split at h
  · rename_i c
    cases h
    exact ⟨c.1, c.2, rfl⟩
  · cases h
theorem sealL_drop (p : List Int) : (sealL p).drop 8 = p := by unfold sealL num4; rfl
theorem openL_sealL {p : List Int} (h : Ok p) : openL (sealL p) = some p := by
  unfold openL
  rw [sealL_drop, if_pos ⟨h, rfl⟩]
theorem val4_sealL {p : List Int} (h : Ok p) (t : List Int) : val4 (sealL p ++ t) = p.length := by
  unfold Ok at h
  unfold sealL
  rw [List.append_assoc, List.append_assoc]
  exact val4_num4 (by omega) (by omega) _
theorem openL_first {b p : List Int} : openL b = some p ↔ firstL b = some p ∧ p.length + 8 = b.length := by
  constructor
  · intro h
    obtain ⟨ok, e, _⟩ := openL_some h
    have hl : b.length = 8 + p.length := by rw [e, sealL_length]
    have hv : val4 b = p.length := by have := val4_sealL ok []; rw [List.append_nil] at this; rw [e]; exact this
    have ok' := ok
    unfold Ok at ok'
    refine ⟨?_, by omega⟩
    unfold firstL
    rw [if_pos ⟨by omega, by omega⟩, hv, List.take_of_length_le (by omega)]
    exact h
  · rintro ⟨h, hl⟩
    unfold firstL at h
    split at h
    · obtain ⟨ok, e, _⟩ := openL_some h
      have h2 : (b.take (8 + val4 b).toNat).length = 8 + p.length := by rw [e, sealL_length]
      rw [List.length_take] at h2
      rw [List.take_of_length_le (by omega)] at h
      exact h
    · cases h
theorem first_f {l : List Int} (hb : ∀ x ∈ l, IsB x) (hl : l.length ≤ 140737488351232) : Ev (fun k => frame_first.f k l) (ans (firstL l)) := by
  unfold frame_first.f
  by_cases h9 : l.length < 9
  · refine Ev.congr (f := fun _ => some ([], false)) (fun k => by rw [if_pos (by omega)]) ?_
    unfold firstL
    rw [if_neg (by omega)]
    exact Ev.now _
  obtain ⟨e4, v0, v1⟩ := num4_val4 hb (by omega)
  have pl : ((l.take (8 + val4 l).toNat).drop 8).length = min (8 + val4 l).toNat l.length - 8 := by rw [List.length_drop, List.length_take]
  have none_of : ¬ (1 ≤ val4 l ∧ val4 l ≤ 65536 ∧ val4 l ≤ (l.length : Int) - 8) → firstL l = none := by
    intro h
    unfold firstL
    split
    · unfold openL
      rw [if_neg]
      rintro ⟨ok, _⟩
      unfold Ok at ok
      rw [pl] at ok
      omega
    · rfl
  by_cases hn0 : val4 l = 0
  · rw [none_of (by omega)]
    refine Ev.step (f := fun _ => some ([], false)) (fun k => ?_) (Ev.now _)
    rw [if_neg (by omega), number_f hb (by omega), Option.bind_some, if_pos hn0]
    simp [frame_first.j0]
  by_cases hn1 : val4 l > 65536
  · rw [none_of (by omega)]
    refine Ev.step (f := fun _ => some ([], false)) (fun k => ?_) (Ev.now _)
    rw [if_neg (by omega), number_f hb (by omega), Option.bind_some, if_neg hn0, if_pos hn1]
    simp [frame_first.j0]
  by_cases hn2 : val4 l > (l.length : Int) - 8
  · rw [none_of (by omega)]
    refine Ev.step (f := fun _ => some ([], false)) (fun k => ?_) (Ev.now _)
    rw [if_neg (by omega), number_f hb (by omega), Option.bind_some, if_neg hn0, if_neg hn1, w64 (by omega) (by omega), w64 (by omega) (by omega), decide_eq_true hn2]
    simp [frame_first.j0]
  -- the middle
  obtain ⟨pay, hpay⟩ : ∃ p, p = (l.take (8 + val4 l).toNat).drop 8 := ⟨_, rfl⟩
  have hbp : ∀ x ∈ pay, IsB x := by rw [hpay]; exact drop_isB (take_isB hb _) _
  rw [← hpay] at pl
  have lp : pay.length = (val4 l).toNat := by omega
  have okp : Ok pay := by unfold Ok; omega
  have hq8 : l.take (8 + val4 l).toNat = l.take 4 ++ (l.drop 4).take 4 ++ pay := by
    have h1 : l.take (8 + val4 l).toNat = (l.take (8 + val4 l).toNat).take 8 ++ (l.take (8 + val4 l).toNat).drop 8 := (List.take_append_drop 8 _).symm
    rw [← hpay, List.take_take, Nat.min_eq_left (by omega)] at h1
    rw [h1]
    congr 1
    have : l.take 8 = (l.take 8).take 4 ++ (l.take 8).drop 4 := (List.take_append_drop 4 _).symm
    rw [this, List.take_take, List.drop_take]
    rfl
  have hd : ∀ x ∈ l.drop 4, IsB x := drop_isB hb 4
  obtain ⟨f4, u0, u1⟩ := num4_val4 hd (by rw [List.length_drop]; omega)
  have hc := crc_range (num4 (pay.length : Int) ++ pay)
  have e4' : num4 (pay.length : Int) = l.take 4 := by rw [lp, ← e4]; congr 1; omega
  have key : firstL l = if crc (l.take 4 ++ pay) = val4 (l.drop 4) then some pay else none := by
    unfold firstL
    rw [if_pos ⟨by omega, by omega⟩]
    unfold openL
    rw [← hpay]
    by_cases c : crc (l.take 4 ++ pay) = val4 (l.drop 4)
    · rw [if_pos c, if_pos]
      refine ⟨okp, ?_⟩
      rw [hq8]
      unfold sealL
      rw [e4', c, f4]
    · rw [if_neg c, if_neg]
      rintro ⟨_, h⟩
      rw [hq8] at h
      unfold sealL at h
      have h2 := List.append_cancel_right h
      rw [e4'] at h2
      have h3 := List.append_cancel_left h2
      rw [← f4] at h3
      have h4 := val4_num4 u0 u1 []
      rw [h3, val4_num4 (crc_range _).1 (crc_range _).2] at h4
      exact c h4
  rw [key]
  refine Ev.step (f := fun k => (frame_join.f k [pay]).bind fun t139 => (if 4 ≤ (l.length : Int) then ((sum_Of.f k (l.take 4)).bind fun t147 => ((sum_More.f k t147 t139).bind fun t148 => ((frame_number.f (l.drop 4)).bind fun t154 => (if t148 = t154 then (if 0 ≤ (t139.length : Int) then (if (t139.length : Int) ≤ (t139.length : Int) then (some ((t139.take ((t139.length : Int) : Int).toNat), true)) else (none)) else (none)) else (some (([] : List Int), false)))))) else (none))) (fun k => ?_) ?_
  · rw [if_neg (by omega), number_f hb (by omega), Option.bind_some, if_neg hn0, if_neg hn1, w64 (by omega) (by omega), w64 (by omega) (by omega), decide_eq_false hn2]
    simp only [frame_first.j0]
    rw [if_neg (by decide), show (8 + val4 l) % 4294967296 = 8 + val4 l from by omega, if_pos (by omega), if_pos (by omega), ← hpay]
  have hj := join_f [pay] (by simp only [List.map_cons, List.map_nil, List.sum_cons, List.sum_nil]; omega) (by simp)
  rw [show List.flatten [pay] = pay from by simp] at hj
  refine Ev.bind (f := fun k t139 => (if 4 ≤ (l.length : Int) then ((sum_Of.f k (l.take 4)).bind fun t147 => ((sum_More.f k t147 t139).bind fun t148 => ((frame_number.f (l.drop 4)).bind fun t154 => (if t148 = t154 then (if 0 ≤ (t139.length : Int) then (if (t139.length : Int) ≤ (t139.length : Int) then (some ((t139.take ((t139.length : Int) : Int).toNat), true)) else (none)) else (none)) else (some (([] : List Int), false)))))) else (none))) hj ?_
  refine Ev.congr (f := fun k => (sum_Of.f k (l.take 4)).bind fun t147 => ((sum_More.f k t147 pay).bind fun t148 => ((frame_number.f (l.drop 4)).bind fun t154 => (if t148 = t154 then (if 0 ≤ (pay.length : Int) then (if (pay.length : Int) ≤ (pay.length : Int) then (some ((pay.take ((pay.length : Int) : Int).toNat), true)) else (none)) else (none)) else (some (([] : List Int), false)))))) (fun k => by rw [if_pos (by omega)]) ?_
  refine crc2 (take_isB hb 4) hbp (by rw [List.length_take]; omega) (by omega) (g := fun k t148 => ((frame_number.f (l.drop 4)).bind fun t154 => (if t148 = t154 then (if 0 ≤ (pay.length : Int) then (if (pay.length : Int) ≤ (pay.length : Int) then (some ((pay.take ((pay.length : Int) : Int).toNat), true)) else (none)) else (none)) else (some (([] : List Int), false))))) ?_
  refine Ev.congr (f := fun _ => some (ans (if crc (l.take 4 ++ pay) = val4 (l.drop 4) then some pay else none))) (fun k => ?_) (Ev.now _)
  rw [number_f hd (by rw [List.length_drop]; omega), Option.bind_some]
  by_cases c : crc (l.take 4 ++ pay) = val4 (l.drop 4)
  · rw [if_pos c, if_pos c, if_pos (by omega), if_pos (by omega), Int.toNat_natCast, List.take_length]
    rfl
  · rw [if_neg c, if_neg c]
    rfl
theorem open_f {l : List Int} (hb : ∀ x ∈ l, IsB x) (hl : l.length ≤ 140737488351232) : Ev (fun k => frame_Open.f k l) (ansE (openL l)) := by
  unfold frame_Open.f
  refine Ev.bind (f := fun _ bt130 => (if bt130.2 = true then (if (wrap64 ((bt130.1.length : Int) + 8)) = (l.length : Int) then (some (bt130.1, (0 : Int))) else (some (([] : List Int), (2 : Int)))) else (some (([] : List Int), (2 : Int))))) (first_f hb hl) ?_
  refine Ev.congr (f := fun _ => some (ansE (openL l))) (fun k => ?_) (Ev.now _)
  cases hf : firstL l with
  | none =>
    have : openL l = none := by
      cases ho : openL l with
      | none => rfl
      | some p => have := (openL_first.mp ho).1; rw [hf] at this; cases this
    rw [this]
    show (if false = true then _ else _) = _
    rw [if_neg (by decide)]
    rfl
  | some p =>
    show (if true = true then (if (wrap64 ((p.length : Int) + 8)) = (l.length : Int) then (some (p, (0 : Int))) else (some (([] : List Int), 2))) else _) = _
    have hp : p.length ≤ l.length := by
      unfold firstL at hf
      split at hf
      · obtain ⟨_, _, e⟩ := openL_some hf
        rw [e, List.length_drop, List.length_take]; omega
      · cases hf
    rw [if_pos rfl, w64 (by omega) (by omega)]
    by_cases c : p.length + 8 = l.length
    · rw [if_pos (by omega), openL_first.mpr ⟨hf, c⟩]
      rfl
    · rw [if_neg (by omega)]
      have : openL l = none := by
        cases ho : openL l with
        | none => rfl
        | some q =>
          obtain ⟨h1, h2⟩ := openL_first.mp ho
          rw [hf] at h1
          cases h1
          exact absurd h2 c
      rw [this]
      rfl
theorem ropen_f {l : List Int} (hb : ∀ x ∈ l, IsB x) (hl : l.length ≤ 140737488351232) : Ev (fun k => meridianref03_Open.f k l) (ans (openL l)) := by
  unfold meridianref03_Open.f
  by_cases h9 : l.length < 9
  · refine Ev.congr (f := fun _ => some ([], false)) (fun k => by rw [if_pos (by omega)]) ?_
    have : openL l = none := by
      unfold openL
      rw [if_neg]
      rintro ⟨ok, _⟩
      unfold Ok at ok
      rw [List.length_drop] at ok
      omega
    rw [this]
    exact Ev.now _
  have hd : ∀ x ∈ l.drop 8, IsB x := drop_isB hb 8
  refine Ev.congr (f := fun k => (meridianref03_Seal.f k (l.drop 8)).bind fun bt166 => (if bt166.2 = true then ((meridianref01_Same.f bt166.1 l).bind fun t170 => (if t170 = true then (some (l.drop 8, true)) else (some (([] : List Int), false)))) else (some (([] : List Int), false)))) (fun k => ?_) ?_
  · rw [if_neg (by omega), Option.bind_some, if_pos (by omega), if_pos (by rw [List.length_drop]; simp only [List.length_nil]; omega), Option.bind_some, List.nil_append]
  refine Ev.bind (f := fun k bt166 => (if bt166.2 = true then ((meridianref01_Same.f bt166.1 l).bind fun t170 => (if t170 = true then (some (l.drop 8, true)) else (some (([] : List Int), false)))) else (some (([] : List Int), false)))) (rseal_f hd (by rw [List.length_drop]; omega)) ?_
  refine Ev.congr (f := fun _ => some (ans (openL l))) (fun k => ?_) (Ev.now _)
  unfold openL
  by_cases ok : Ok (l.drop 8)
  · rw [if_pos ok, if_pos rfl, same_f (sealL_isB hd) hb, Option.bind_some]
    by_cases e : l = sealL (l.drop 8)
    · rw [if_pos (decide_eq_true e.symm), if_pos ⟨ok, e⟩]
      rfl
    · rw [if_neg (by rw [decide_eq_true_iff]; exact fun h => e h.symm), if_neg (fun h => e h.2)]
      rfl
  · rw [if_neg ok, if_neg (by decide), if_neg (fun h => ok h.1)]
    rfl
end Go.Proofs.Ytinpofepmbbehaa.PFrame
