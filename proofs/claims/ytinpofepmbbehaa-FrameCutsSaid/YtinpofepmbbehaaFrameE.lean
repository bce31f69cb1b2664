/- Plain laws of the frame: Cut and the reference's Cut tell one list and one place; lists alike; awake. -/
import Derived.Test.YtinpofepmbbehaaFrameD
namespace Go.Proofs.Ytinpofepmbbehaa.PFrame
open Go.RowKit Go.Proofs.YtinpofepmbbehaaW.PrintWords Go.Proofs.YtinpofepmbbehaaW.PrintLast Go.Proofs.YtinpofepmbbehaaW.PrintMore
set_option linter.unusedVariables false
set_option linter.unusedSimpArgs false

theorem rd_mem {l : List Int} {i : Nat} (h : i < l.length) : rd l i ∈ l := by
  have : rd l i :: l.drop (i + 1) = l.drop i := (drop_rd l i h).symm
  exact List.mem_of_mem_drop (i := i) (by rw [← this]; exact List.mem_cons_self)
theorem nval {l : List Int} (hb : ∀ x ∈ l, IsB x) (h : 4 ≤ l.length) :
    (wrap64 ((wrap64 ((wrap64 ((wrap64 ((wrap64 (rd l 0)) * 16777216)) + (wrap64 ((wrap64 (rd l 1)) * 65536)))) + (wrap64 ((wrap64 (rd l 2)) * 256)))) + (wrap64 (rd l 3)))) = val4 l := by
  have h0 : IsB (rd l 0) := hb _ (rd_mem (i := 0) (by omega))
  have h1 : IsB (rd l 1) := hb _ (rd_mem (i := 1) (by omega))
  have h2 : IsB (rd l 2) := hb _ (rd_mem (i := 2) (by omega))
  have h3 : IsB (rd l 3) := hb _ (rd_mem (i := 3) (by omega))
  unfold IsB at h0 h1 h2 h3
  unfold val4
  rw [w64 (x := rd l 0) (by omega) (by omega), w64 (x := rd l 1) (by omega) (by omega), w64 (x := rd l 2) (by omega) (by omega), w64 (x := rd l 3) (by omega) (by omega)]
  rw [w64 (x := rd l 0 * 16777216) (by omega) (by omega), w64 (x := rd l 1 * 65536) (by omega) (by omega), w64 (x := rd l 2 * 256) (by omega) (by omega)]
  rw [w64 (x := rd l 0 * 16777216 + rd l 1 * 65536) (by omega) (by omega), w64 (x := rd l 0 * 16777216 + rd l 1 * 65536 + rd l 2 * 256) (by omega) (by omega), w64 (by omega) (by omega)]
theorem firstL_some {l p : List Int} (hb : ∀ x ∈ l, IsB x) (h : firstL l = some p) : 9 ≤ l.length ∧ val4 l = p.length ∧ p.length + 8 ≤ l.length ∧ Ok p ∧ (∀ x ∈ p, IsB x) ∧ openL (l.take (8 + val4 l).toNat) = some p ∧ l = sealL p ++ l.drop (8 + p.length) := by
  unfold firstL at h
  split at h
  · rename_i c
    obtain ⟨ok, e, ed⟩ := openL_some h
    obtain ⟨_, v0, v1⟩ := num4_val4 hb (by omega)
    have hl : (l.take (8 + val4 l).toNat).length = 8 + p.length := by rw [e, sealL_length]
    rw [List.length_take] at hl
    have hv : (8 + val4 l).toNat = 8 + p.length := by omega
    refine ⟨c.1, by omega, by omega, ok, ?_, h, ?_⟩
    · rw [ed]; exact drop_isB (take_isB hb _) _
    · rw [← e, hv]; exact (List.take_append_drop _ _).symm
  · cases h
theorem cut_both (x : List Int) (hb : ∀ y ∈ x, IsB y) (hl : x.length ≤ 5000000000) (m : Nat) : ∀ (i : Nat) (acc : List (List Int)), i ≤ x.length → x.length - i ≤ m → acc.length ≤ i →
    ∃ (L : List (List Int)) (at_ : Nat) (e : Int), Ev (fun k => frame_Cut.l0 k x acc (i : Int)) (acc ++ L, (at_ : Int), e) ∧ Ev (fun k => meridianref03_Cut.l0 k x acc (i : Int)) (acc ++ L, (at_ : Int)) ∧
      i ≤ at_ ∧ at_ ≤ x.length ∧ (e = 0 ∧ at_ = x.length ∨ e = 2 ∧ at_ < x.length) ∧ (∀ p ∈ L, Ok p ∧ ∀ y ∈ p, IsB y) ∧ x.drop i = (L.map sealL).flatten ++ x.drop at_ ∧ firstL (x.drop at_) = none := by
  induction m with
  | zero =>
    intro i acc hi hm ha
    have hix : i = x.length := by omega
    refine ⟨[], i, 0, ?_, ?_, by omega, by omega, .inl ⟨rfl, hix⟩, by simp, by simp, ?_⟩
    · refine Ev.step (f := fun _ => some (acc, (i : Int), 0)) (fun k => ?_) (by rw [List.append_nil]; exact Ev.now _)
      simp only [frame_Cut.l0]; rw [if_neg (by omega)]
    · refine Ev.step (f := fun _ => some (acc, (i : Int))) (fun k => ?_) (by rw [List.append_nil]; exact Ev.now _)
      simp only [meridianref03_Cut.l0]; rw [if_pos (by omega), if_pos (by omega), Int.toNat_natCast, if_pos (by rw [List.length_drop]; omega)]
    · unfold firstL; rw [if_neg]; rw [List.length_drop]; omega
  | succ m ih =>
    intro i acc hi hm ha
    have hbd : ∀ y ∈ x.drop i, IsB y := drop_isB hb i
    have hld : (x.drop i).length = x.length - i := List.length_drop
    cases hf : firstL (x.drop i) with
    | none =>
      have href : Ev (fun k => meridianref03_Cut.l0 k x acc (i : Int)) (acc, (i : Int)) := by
        by_cases h9 : x.length - i < 9
        · refine Ev.step (f := fun _ => some (acc, (i : Int))) (fun k => ?_) (Ev.now _)
          simp only [meridianref03_Cut.l0]; rw [if_pos (by omega), if_pos (by omega), Int.toNat_natCast, if_pos (by omega)]
        by_cases hn : val4 (x.drop i) > ((x.drop i).length : Int) - 8
        · refine Ev.step (f := fun _ => some (acc, (i : Int))) (fun k => ?_) (Ev.now _)
          simp only [meridianref03_Cut.l0]; rw [if_pos (by omega), if_pos (by omega), Int.toNat_natCast, if_neg (by omega), if_pos (by omega), if_pos (by omega), if_pos (by omega), if_pos (by omega), nval hbd (by omega), w64 (by omega) (by omega), if_pos hn]
        obtain ⟨_, v0, v1⟩ := num4_val4 hbd (by omega)
        have ho : openL ((x.drop i).take (8 + val4 (x.drop i)).toNat) = none := by
          unfold firstL at hf
          rw [if_pos ⟨by omega, by omega⟩] at hf
          exact hf
        have hop := ropen_f (take_isB hbd (8 + val4 (x.drop i)).toNat) (by rw [List.length_take]; omega)
        rw [ho] at hop
        refine Ev.step (f := fun k => (meridianref03_Open.f k ((x.drop i).take (8 + val4 (x.drop i)).toNat)).bind fun bt188 => (if bt188.2 = true then (if acc.length < 5864062014805 then (meridianref03_Cut.l0 k x (acc ++ [bt188.1]) (wrap64 ((wrap64 ((i : Int) + 8)) + val4 (x.drop i)))) else (none)) else (some (acc, (i : Int))))) (fun k => ?_) ?_
        · simp only [meridianref03_Cut.l0]
          rw [if_pos (by omega), if_pos (by omega), Int.toNat_natCast, if_neg (by omega), if_pos (by omega), if_pos (by omega), if_pos (by omega), if_pos (by omega), nval hbd (by omega), w64 (x := ((x.drop i).length : Int) - 8) (by omega) (by omega), if_neg hn, w64 (x := 8 + val4 (x.drop i)) (by omega) (by omega), if_pos (by omega), if_pos (by omega)]
        · refine Ev.bind (f := fun k bt188 => (if bt188.2 = true then (if acc.length < 5864062014805 then (meridianref03_Cut.l0 k x (acc ++ [bt188.1]) (wrap64 ((wrap64 ((i : Int) + 8)) + val4 (x.drop i)))) else (none)) else (some (acc, (i : Int))))) hop ?_
          refine Ev.congr (f := fun _ => some (acc, (i : Int))) (fun k => ?_) (Ev.now _)
          show (if false = true then _ else _) = _
          rw [if_neg (by decide)]
      by_cases hix : i = x.length
      · refine ⟨[], i, 0, ?_, by rw [List.append_nil]; exact href, by omega, by omega, .inl ⟨rfl, hix⟩, by simp, by simp, hf⟩
        refine Ev.step (f := fun _ => some (acc, (i : Int), 0)) (fun k => ?_) (by rw [List.append_nil]; exact Ev.now _)
        simp only [frame_Cut.l0]; rw [if_neg (by omega)]
      · refine ⟨[], i, 2, ?_, by rw [List.append_nil]; exact href, by omega, by omega, .inr ⟨rfl, by omega⟩, by simp, by simp, hf⟩
        refine Ev.step (f := fun k => (frame_first.f k (x.drop i)).bind fun bt172 => (if bt172.2 = true then (if acc.length < 5864062014805 then (frame_Cut.l0 k x (acc ++ [bt172.1]) (wrap64 ((i : Int) + (wrap64 (8 + (bt172.1.length : Int)))))) else (none)) else (some (acc, (i : Int), 2)))) (fun k => ?_) ?_
        · simp only [frame_Cut.l0]; rw [if_pos (by omega), if_pos (by omega), if_pos (by omega), Int.toNat_natCast]
        · have h1 := first_f hbd (by omega)
          rw [hf] at h1
          refine Ev.bind (f := fun k bt172 => (if bt172.2 = true then (if acc.length < 5864062014805 then (frame_Cut.l0 k x (acc ++ [bt172.1]) (wrap64 ((i : Int) + (wrap64 (8 + (bt172.1.length : Int)))))) else (none)) else (some (acc, (i : Int), 2)))) h1 ?_
          refine Ev.congr (f := fun _ => some (acc, (i : Int), 2)) (fun k => ?_) (by rw [List.append_nil]; exact Ev.now _)
          show (if false = true then _ else _) = _
          rw [if_neg (by decide)]
    | some p =>
      obtain ⟨h9, hv, hle, ok, hbp, ho, hsplit⟩ := firstL_some hbd hf
      have okp := ok
      unfold Ok at okp
      obtain ⟨L, at_, e, r1, r2, hi2, hi3, he, hL, hcat, hno⟩ := ih (i + (8 + p.length)) (acc ++ [p]) (by omega) (by omega) (by rw [List.length_append, List.length_singleton]; omega)
      refine ⟨p :: L, at_, e, ?_, ?_, by omega, hi3, he, ?_, ?_, hno⟩
      · rw [show acc ++ p :: L = acc ++ [p] ++ L from by simp]
        refine Ev.step (f := fun k => (frame_first.f k (x.drop i)).bind fun bt172 => (if bt172.2 = true then (if acc.length < 5864062014805 then (frame_Cut.l0 k x (acc ++ [bt172.1]) (wrap64 ((i : Int) + (wrap64 (8 + (bt172.1.length : Int)))))) else (none)) else (some (acc, (i : Int), 2)))) (fun k => ?_) ?_
        · simp only [frame_Cut.l0]; rw [if_pos (by omega), if_pos (by omega), if_pos (by omega), Int.toNat_natCast]
        · have h1 := first_f hbd (by omega)
          rw [hf] at h1
          refine Ev.bind (f := fun k bt172 => (if bt172.2 = true then (if acc.length < 5864062014805 then (frame_Cut.l0 k x (acc ++ [bt172.1]) (wrap64 ((i : Int) + (wrap64 (8 + (bt172.1.length : Int)))))) else (none)) else (some (acc, (i : Int), 2)))) h1 ?_
          refine Ev.congr (fun k => ?_) r1
          show (if true = true then (if acc.length < 5864062014805 then (frame_Cut.l0 k x (acc ++ [p]) (wrap64 ((i : Int) + (wrap64 (8 + (p.length : Int)))))) else (none)) else _) = _
          rw [if_pos rfl, if_pos (by omega), w64 (x := 8 + (p.length : Int)) (by omega) (by omega), w64 (by omega) (by omega)]
          congr 1
      · rw [show acc ++ p :: L = acc ++ [p] ++ L from by simp]
        have hop := ropen_f (take_isB hbd (8 + val4 (x.drop i)).toNat) (by rw [List.length_take]; omega)
        rw [ho] at hop
        refine Ev.step (f := fun k => (meridianref03_Open.f k ((x.drop i).take (8 + val4 (x.drop i)).toNat)).bind fun bt188 => (if bt188.2 = true then (if acc.length < 5864062014805 then (meridianref03_Cut.l0 k x (acc ++ [bt188.1]) (wrap64 ((wrap64 ((i : Int) + 8)) + val4 (x.drop i)))) else (none)) else (some (acc, (i : Int))))) (fun k => ?_) ?_
        · simp only [meridianref03_Cut.l0]
          rw [if_pos (by omega), if_pos (by omega), Int.toNat_natCast, if_neg (by omega), if_pos (by omega), if_pos (by omega), if_pos (by omega), if_pos (by omega), nval hbd (by omega), w64 (x := ((x.drop i).length : Int) - 8) (by omega) (by omega), if_neg (by omega), w64 (x := 8 + val4 (x.drop i)) (by omega) (by omega), if_pos (by omega), if_pos (by omega)]
        · refine Ev.bind (f := fun k bt188 => (if bt188.2 = true then (if acc.length < 5864062014805 then (meridianref03_Cut.l0 k x (acc ++ [bt188.1]) (wrap64 ((wrap64 ((i : Int) + 8)) + val4 (x.drop i)))) else (none)) else (some (acc, (i : Int))))) hop ?_
          refine Ev.congr (fun k => ?_) r2
          show (if true = true then (if acc.length < 5864062014805 then (meridianref03_Cut.l0 k x (acc ++ [p]) (wrap64 ((wrap64 ((i : Int) + 8)) + val4 (x.drop i)))) else (none)) else _) = _
          rw [if_pos rfl, if_pos (by omega), w64 (x := (i : Int) + 8) (by omega) (by omega), hv, w64 (by omega) (by omega)]
          congr 1
          omega
      · intro q hq
        rcases List.mem_cons.mp hq with rfl | hq
        · exact ⟨ok, hbp⟩
        · exact hL q hq
      · rw [List.map_cons, List.flatten_cons, List.append_assoc, ← hcat, ← List.drop_drop]
        exact hsplit
theorem cut_f (x : List Int) (hb : ∀ y ∈ x, IsB y) (hl : x.length ≤ 5000000000) :
    ∃ (L : List (List Int)) (at_ : Nat) (e : Int), Ev (fun k => frame_Cut.f k x) (L, (at_ : Int), e) ∧ Ev (fun k => meridianref03_Cut.f k x) (L, (at_ : Int)) ∧
      at_ ≤ x.length ∧ (e = 0 ∧ at_ = x.length ∨ e = 2 ∧ at_ < x.length) ∧ (∀ p ∈ L, Ok p ∧ ∀ y ∈ p, IsB y) ∧ x = (L.map sealL).flatten ++ x.drop at_ ∧ firstL (x.drop at_) = none := by
  obtain ⟨L, at_, e, r1, r2, _, h2, h3, h4, h5, h6⟩ := cut_both x hb hl x.length 0 [] (by omega) (by omega) (by simp)
  exact ⟨L, at_, e, by rw [List.nil_append] at r1; exact r1, by rw [List.nil_append] at r2; exact r2, h2, h3, h4, by simpa using h5, h6⟩
theorem same_self (a : List Int) : meridianref01_Same.f a a = some true := by unfold meridianref01_Same.f; simp
theorem lists_l0 (L : List (List Int)) (hL : L.length ≤ 1000000000000000) (d : Nat) : ∀ i : Nat, i + d = L.length → Ev (fun k => meridianref03_Lists.l0 k L L (i : Int)) true := by
  induction d with
  | zero =>
    intro i hi
    refine Ev.step (f := fun _ => some true) (fun k => ?_) (Ev.now _)
    simp only [meridianref03_Lists.l0]; rw [if_neg (by omega)]
  | succ d ih =>
    intro i hi
    refine Ev.step (fun k => ?_) (ih (i + 1) (by omega))
    simp only [meridianref03_Lists.l0]
    rw [if_pos (by omega), if_pos (by omega), if_pos (by omega), same_self, Option.bind_some, if_pos rfl, w64 (by omega) (by omega)]
    rfl
theorem lists_f (L : List (List Int)) (hL : L.length ≤ 1000000000000000) : Ev (fun k => meridianref03_Lists.f k L L) true := by
  unfold meridianref03_Lists.f
  refine Ev.congr (fun k => by rw [if_pos rfl]; rfl) (lists_l0 L hL L.length 0 (by omega))
theorem awake_f : Ev (fun k => meridianlaw03_awake.f k) true := Ev.of (fun k => meridianlaw03_awake.mono k) (k := 20) (by decide +kernel)
theorem bind_awake {g : Nat → Option Bool} (h : Ev g true) : Ev (fun k => (meridianlaw03_awake.f k).bind fun t => if t = true then g k else some false) true := by
  refine Ev.bind awake_f ?_
  exact Ev.congr (f := g) (fun k => rfl) h
end Go.Proofs.Ytinpofepmbbehaa.PFrame
