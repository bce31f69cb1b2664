/- Of frames one behind the other, cut off anywhere, just those that are whole are told. -/
import Derived.Test.YtinpofepmbbehaaPFramec
import Derived.Test.YtinpofepmbbehaaFrameE
namespace Go.Proofs.Ytinpofepmbbehaa.Pure
open Go.RowKit Go.Proofs.Ytinpofepmbbehaa.PFrame Go.Proofs.YtinpofepmbbehaaW.PrintWords Go.Proofs.YtinpofepmbbehaaW.PrintLast
set_option linter.unusedVariables false

def F (K : List (List Int)) : List Int := (K.map sealL).flatten
def En (K : List (List Int)) : List Int := (List.range K.length).map fun j => ((F (K.take (j + 1))).length : Int)
def Oks (K : List (List Int)) : Prop := ∀ p ∈ K, Ok p ∧ ∀ y ∈ p, IsB y
theorem F_nil : F [] = [] := rfl
theorem F_cons (p : List Int) (K : List (List Int)) : F (p :: K) = sealL p ++ F K := by unfold F; simp
theorem F_app (K M : List (List Int)) : F (K ++ M) = F K ++ F M := by unfold F; simp
theorem En_length (K : List (List Int)) : (En K).length = K.length := by unfold En; simp
theorem En_snoc (K : List (List Int)) (p : List Int) : En (K ++ [p]) = En K ++ [((F K ++ sealL p).length : Int)] := by
  unfold En
  rw [List.length_append, List.length_singleton, List.range_succ, List.map_append, List.map_singleton]
  congr 1
  · apply List.map_congr_left
    intro j hj
    rw [List.mem_range] at hj
    rw [List.take_append_of_le_length (by omega)]
  · rw [List.take_of_length_le (by simp), F_app]
    simp [F]
theorem En_get (K : List (List Int)) {n : Nat} (h : n < K.length) : rd (En K) (n : Int) = ((F (K.take (n + 1))).length : Int) := by
  unfold rd En
  rw [Int.toNat_natCast, List.getD_eq_getElem?_getD, List.getElem?_map, List.getElem?_range h]
  rfl
theorem F_take_succ (K : List (List Int)) {n : Nat} (h : n < K.length) : F (K.take (n + 1)) = F (K.take n) ++ sealL K[n] := by
  rw [List.take_succ_eq_append_getElem h, F_app]
  congr 1
  simp [F]
theorem F_isB {K : List (List Int)} (h : Oks K) : ∀ x ∈ F K, IsB x := by
  intro x hx
  unfold F at hx
  rw [List.mem_flatten] at hx
  obtain ⟨s, hs, hxs⟩ := hx
  rw [List.mem_map] at hs
  obtain ⟨p, hp, rfl⟩ := hs
  exact sealL_isB (h p hp).2 x hxs
theorem Oks_take {K : List (List Int)} (h : Oks K) (n : Nat) : Oks (K.take n) := fun p hp => h p (List.mem_of_mem_take hp)
theorem firstL_sealL {p : List Int} (ok : Ok p) (t : List Int) : firstL (sealL p ++ t) = some p := by
  have okp := ok
  unfold Ok at okp
  unfold firstL
  rw [val4_sealL ok t, if_pos ⟨by rw [List.length_append, sealL_length]; omega, by rw [List.length_append, sealL_length]; omega⟩]
  rw [show ((8 : Int) + (p.length : Int)).toNat = (sealL p).length from by rw [sealL_length]; omega, List.take_append_of_le_length (Nat.le_refl _), List.take_length]
  exact openL_sealL ok
theorem firstL_prefix {p : List Int} (ok : Ok p) (hb : ∀ y ∈ p, IsB y) {n : Nat} (h : n < (sealL p).length) : firstL ((sealL p).take n) = none := by
  cases hf : firstL ((sealL p).take n) with
  | none => rfl
  | some q =>
    exfalso
    obtain ⟨h9, hv, hle, okq, _, _, _⟩ := firstL_some (take_isB (sealL_isB hb) n) hf
    rw [List.length_take] at h9 hle
    have h2 : val4 ((sealL p).take n) = p.length := by
      have hvp := val4_sealL ok []
      rw [List.append_nil] at hvp
      rw [← hvp]
      unfold val4
      have g : ∀ i : Nat, i < 4 → rd ((sealL p).take n) i = rd (sealL p) i := by
        intro i hi
        unfold rd
        rw [Int.toNat_natCast, List.getD_eq_getElem?_getD, List.getD_eq_getElem?_getD, List.getElem?_take_of_lt (by omega)]
      have g0 := g 0 (by omega)
      have g1 := g 1 (by omega)
      have g2 := g 2 (by omega)
      have g3 := g 3 (by omega)
      rw [show ((0 : Nat) : Int) = 0 from rfl] at g0
      rw [show ((1 : Nat) : Int) = 1 from rfl] at g1
      rw [show ((2 : Nat) : Int) = 2 from rfl] at g2
      rw [show ((3 : Nat) : Int) = 3 from rfl] at g3
      rw [g0, g1, g2, g3]
    rw [sealL_length] at h
    omega
theorem F_unique : ∀ (L M : List (List Int)) (r s : List Int), Oks L → Oks M → F L ++ r = F M ++ s → firstL r = none → firstL s = none → L = M ∧ r = s
  | [], [], r, s, _, _, h, _, _ => ⟨rfl, h⟩
  | [], q :: t, r, s, _, hM, h, hr, _ => by
    exfalso
    rw [F_nil, List.nil_append, F_cons, List.append_assoc] at h
    rw [h, firstL_sealL (hM q List.mem_cons_self).1] at hr
    cases hr
  | p :: u, [], r, s, hL, _, h, _, hs => by
    exfalso
    rw [F_nil, List.nil_append, F_cons, List.append_assoc] at h
    rw [← h, firstL_sealL (hL p List.mem_cons_self).1] at hs
    cases hs
  | p :: u, q :: t, r, s, hL, hM, h, hr, hs => by
    rw [F_cons, F_cons, List.append_assoc, List.append_assoc] at h
    have h1 := val4_sealL (hL p List.mem_cons_self).1 (F u ++ r)
    have h2 := val4_sealL (hM q List.mem_cons_self).1 (F t ++ s)
    rw [h, h2] at h1
    obtain ⟨e1, e2⟩ := List.append_inj h (by rw [sealL_length, sealL_length]; omega)
    have hpq : p = q := by
      have h8 := congrArg (List.drop 8) e1
      rw [sealL_drop, sealL_drop] at h8
      exact h8
    obtain ⟨e3, e4⟩ := F_unique u t r s (fun z hz => hL z (List.mem_cons_of_mem _ hz)) (fun z hz => hM z (List.mem_cons_of_mem _ hz)) e2 hr hs
    exact ⟨by rw [hpq, e3], e4⟩
/-- The tail: Cut of what is ahead of the cut. -/
theorem cuts_end (K : List (List Int)) (hK : Oks K) (hl : (F K).length ≤ 300000) (c n : Nat) (hc : c ≤ (F K).length) (hn : n ≤ K.length) (h1 : (F (K.take n)).length ≤ c) (h2 : ∀ h : n < K.length, c < (F (K.take (n + 1))).length) :
    ∃ e : Int, Ev (fun k => frame_Cut.f k ((F K).take c)) (K.take n, ((F (K.take n)).length : Int), e) ∧ ((e == 0) == (((F (K.take n)).length : Int) == (c : Int))) = true := by
  have hb := F_isB hK
  obtain ⟨L, at_, e, r1, _, g2, g3, g4, g5, g6⟩ := cut_f ((F K).take c) (take_isB hb c) (by rw [List.length_take]; omega)
  -- what stands ahead
  have hsplit : ∃ s, (F K).take c = F (K.take n) ++ s ∧ firstL s = none := by
    by_cases hnk : n < K.length
    · have h3 := h2 hnk
      have hF : F K = F (K.take n) ++ (sealL K[n] ++ F (K.drop (n + 1))) := by
        have : K = K.take n ++ (K[n] :: K.drop (n + 1)) := by rw [← List.drop_eq_getElem_cons hnk, List.take_append_drop]
        conv => lhs; rw [this]
        rw [F_app, F_cons]
      rw [F_take_succ K hnk, List.length_append] at h3
      refine ⟨(sealL K[n]).take (c - (F (K.take n)).length), ?_, firstL_prefix (hK _ (List.getElem_mem hnk)).1 (hK _ (List.getElem_mem hnk)).2 (by omega)⟩
      rw [hF, List.take_append, List.take_of_length_le h1, List.take_append_of_le_length (by omega)]
    · have hnK : K.take n = K := List.take_of_length_le (by omega)
      rw [hnK] at h1 ⊢
      refine ⟨[], ?_, by unfold firstL; rw [if_neg (by simp)]⟩
      rw [List.append_nil, List.take_of_length_le (by omega)]
  obtain ⟨s, hs1, hs2⟩ := hsplit
  have hun := F_unique L (K.take n) (((F K).take c).drop at_) s g4 (Oks_take hK n) (by rw [← hs1]; exact g5.symm) g6 hs2
  obtain ⟨rfl, hrs⟩ := hun
  have hlen := congrArg List.length hs1
  rw [List.length_append, ← hrs, List.length_drop, List.length_take] at hlen
  rw [List.length_take] at g2 g3
  have hat : at_ = (F (K.take n)).length := by omega
  rw [← hat]
  refine ⟨e, r1, ?_⟩
  rcases g3 with ⟨rfl, h⟩ | ⟨rfl, h⟩
  · rw [show (at_ : Int) = (c : Int) from by omega]; simp
  · rw [beq_eq_false_iff_ne.mpr (by omega : (at_ : Int) ≠ (c : Int))]; rfl
theorem cuts_l1 (K : List (List Int)) (hK : Oks K) (hl : (F K).length ≤ 300000) (hKn : K.length ≤ 50) (c : Nat) (hc : c ≤ (F K).length) (d : Nat) : ∀ n : Nat, n + d = K.length → (F (K.take n)).length ≤ c →
    Ev (fun k => meridianlaw03_FrameCuts.l1 k (c : Int) (F K) (En K) K (n : Int) ((F (K.take n)).length : Int)) true := by
  have fin : ∀ n : Nat, n ≤ K.length → (F (K.take n)).length ≤ c → (∀ h : n < K.length, c < (F (K.take (n + 1))).length) →
      Ev (fun k => (frame_Cut.f k ((F K).take c)).bind fun bt178 => ((meridianref03_Lists.f k bt178.1 (K.take n)).bind fun t188 => (if t188 = true then (if bt178.2.1 = ((F (K.take n)).length : Int) then (some ((bt178.2.2 == 0) == (((F (K.take n)).length : Int) == (c : Int)))) else (some false)) else (some false)))) true := by
    intro n hn h1 h2
    obtain ⟨e, r1, he⟩ := cuts_end K hK hl c n hc hn h1 h2
    refine Ev.bind r1 ?_
    refine Ev.bind (lists_f (K.take n) (by rw [List.length_take]; omega)) ?_
    refine Ev.congr (f := fun _ => some true) (fun k => ?_) (Ev.now _)
    show (if true = true then (if ((F (K.take n)).length : Int) = ((F (K.take n)).length : Int) then (some ((e == 0) == (((F (K.take n)).length : Int) == (c : Int)))) else (some false)) else (some false)) = _
    rw [if_pos rfl, if_pos rfl, he]
  have hEn := En_length K
  induction d with
  | zero =>
    intro n hn h1
    refine Ev.step (fun k => ?_) (fin n (by omega) h1 (fun h => by omega))
    simp only [meridianlaw03_FrameCuts.l1]
    rw [if_neg (by omega), if_pos (by omega), if_pos (by omega), Int.toNat_natCast]
    congr 1
    funext bt
    rw [if_pos (by omega), if_pos (by omega), Int.toNat_natCast]
  | succ d ih =>
    intro n hn h1
    have hnk : n < K.length := by omega
    by_cases h2 : (F (K.take (n + 1))).length ≤ c
    · refine Ev.step (fun k => ?_) (ih (n + 1) (by omega) h2)
      simp only [meridianlaw03_FrameCuts.l1]
      rw [if_pos (by omega), if_pos (by omega), En_get K hnk, if_pos (by omega), w64 (by omega) (by omega)]
      rfl
    · refine Ev.step (fun k => ?_) (fin n (by omega) h1 (fun _ => by omega))
      simp only [meridianlaw03_FrameCuts.l1]
      rw [if_pos (by omega), if_pos (by omega), En_get K hnk, if_neg (by omega), if_pos (by omega), if_pos (by omega), Int.toNat_natCast]
      congr 1
      funext bt
      rw [if_pos (by omega), Int.toNat_natCast]
theorem cuts_j3 (K : List (List Int)) (hK : Oks K) (hl : (F K).length ≤ 300000) (hKn : K.length ≤ 50) (c : Nat) (hc : c ≤ (F K).length) : Ev (fun k => meridianlaw03_FrameCuts.j3 k (c : Int) (F K) (En K) K) true := by
  refine Ev.step (fun k => ?_) (cuts_l1 K hK hl hKn c hc K.length 0 (by omega) (by simp [F]))
  simp only [meridianlaw03_FrameCuts.j3]
  rfl
theorem cuts_tail (K : List (List Int)) (hK : Oks K) (hl : (F K).length ≤ 300000) (hKn : K.length ≤ 50) (x : List (List Int)) (i cut : Int) : Ev (fun k => meridianlaw03_FrameCuts.j1 k x cut (F K) (En K) K i false) true := by
  by_cases c0 : cut < 0
  · refine Ev.step (f := fun k => meridianlaw03_FrameCuts.j2 k cut (F K) (En K) K true) (fun k => ?_) ?_
    · simp only [meridianlaw03_FrameCuts.j1]; rw [if_neg (by decide), if_pos c0]
    · refine Ev.step (fun k => ?_) (cuts_j3 K hK hl hKn (F K).length (Nat.le_refl _))
      simp only [meridianlaw03_FrameCuts.j2]; exact if_pos trivial
  by_cases c1 : cut > ((F K).length : Int)
  · refine Ev.step (f := fun k => meridianlaw03_FrameCuts.j2 k cut (F K) (En K) K true) (fun k => ?_) ?_
    · simp only [meridianlaw03_FrameCuts.j1]; rw [if_neg (by decide), if_neg c0, decide_eq_true c1]
    · refine Ev.step (fun k => ?_) (cuts_j3 K hK hl hKn (F K).length (Nat.le_refl _))
      simp only [meridianlaw03_FrameCuts.j2]; exact if_pos trivial
  · obtain ⟨c, rfl⟩ := Int.eq_ofNat_of_zero_le (by omega : 0 ≤ cut)
    refine Ev.step (f := fun k => meridianlaw03_FrameCuts.j2 k (c : Int) (F K) (En K) K false) (fun k => ?_) ?_
    · simp only [meridianlaw03_FrameCuts.j1]; rw [if_neg (by decide), if_neg c0, decide_eq_false c1]
    · refine Ev.step (fun k => ?_) (cuts_j3 K hK hl hKn c (by omega))
      simp only [meridianlaw03_FrameCuts.j2]; exact if_neg (by decide)
theorem cuts_l0 (x : List (List Int)) (hx : ∀ r ∈ x, ∀ y ∈ r, IsB y) (hxl : x.length ≤ 100000000000000) (cut : Int) (d : Nat) : ∀ (i : Nat) (K : List (List Int)), i + d = x.length → Oks K → K.length ≤ i → i ≤ 50 → (F K).length ≤ 5008 * i →
    Ev (fun k => meridianlaw03_FrameCuts.l0 k x cut (F K) (En K) K (i : Int)) true := by
  induction d with
  | zero =>
    intro i K hi hK hKi h50 hF
    refine Ev.step (fun k => ?_) (cuts_tail K hK (by omega) (by omega) x (i : Int) cut)
    simp only [meridianlaw03_FrameCuts.l0]; rw [if_neg (by omega)]
  | succ d ih =>
    intro i K hi hK hKi h50 hF
    by_cases h5 : i < 50
    · have hlt : i < x.length := by omega
      have e : x.drop i = rd_L1 x i :: x.drop (i + 1) := by
        rw [List.drop_eq_getElem_cons hlt]
        unfold rd_L1
        rw [Int.toNat_natCast, List.getD_eq_getElem?_getD, List.getElem?_eq_getElem hlt]
        rfl
      have hm : rd_L1 x i ∈ x := List.mem_of_mem_drop (i := i) (by rw [e]; exact List.mem_cons_self)
      have hbr := hx _ hm
      refine Ev.step (f := fun k => meridianlaw03_FrameCuts.j1 k x cut (F K) (En K) K (i : Int) true) (fun k => ?_) ?_
      · simp only [meridianlaw03_FrameCuts.l0]; rw [if_pos (by omega), decide_eq_true (by omega : (i : Int) < 50)]
      by_cases hbig : (rd_L1 x i).length > 5000
      · refine Ev.step (f := fun _ => some true) (fun k => ?_) (Ev.now _)
        simp only [meridianlaw03_FrameCuts.j1]
        rw [if_pos trivial, if_pos (by omega), if_pos (by omega), if_pos (by omega)]
      refine Ev.step (f := fun k => (frame_Seal.f k (rd_L1 x i)).bind fun bt157 => (if bt157.2 = 0 then (if (F K).length + bt157.1.length < 140737488355328 then ((some (F K ++ bt157.1 : List Int)).bind fun y161 => (if (En K).length < 17592186044416 then (if K.length < 5864062014805 then (meridianlaw03_FrameCuts.l0 k x cut y161 (En K ++ [(y161.length : Int)]) (K ++ [rd_L1 x i]) (wrap64 ((i : Int) + 1))) else (none)) else (none))) else (none)) else (meridianlaw03_FrameCuts.l0 k x cut (F K) (En K) K (wrap64 ((i : Int) + 1))))) (fun k => ?_) ?_
      · simp only [meridianlaw03_FrameCuts.j1]
        rw [if_pos trivial, if_pos (by omega), if_pos (by omega), if_neg (by omega)]
      refine Ev.bind (seal_f hbr (by omega)) ?_
      have hw : wrap64 ((i : Int) + 1) = ((i + 1 : Nat) : Int) := by rw [w64 (by omega) (by omega)]; rfl
      by_cases ok : Ok (rd_L1 x i)
      · rw [if_pos ok]
        have hsl := sealL_length (rd_L1 x i)
        have hEn := En_length K
        have hF2 : F (K ++ [rd_L1 x i]) = F K ++ sealL (rd_L1 x i) := by rw [F_app]; simp [F]
        refine Ev.congr (fun k => ?_) (ih (i + 1) (K ++ [rd_L1 x i]) (by omega) (fun p hp => ?_) (by rw [List.length_append, List.length_singleton]; omega) (by omega) (by rw [hF2, List.length_append]; omega))
        · show (if (0 : Int) = 0 then (if (F K).length + (sealL (rd_L1 x i)).length < 140737488355328 then ((some (F K ++ sealL (rd_L1 x i) : List Int)).bind fun y161 => (if (En K).length < 17592186044416 then (if K.length < 5864062014805 then (meridianlaw03_FrameCuts.l0 k x cut y161 (En K ++ [(y161.length : Int)]) (K ++ [rd_L1 x i]) (wrap64 ((i : Int) + 1))) else (none)) else (none))) else (none)) else _) = _
          rw [if_pos rfl, if_pos (by omega), Option.bind_some, if_pos (by omega), if_pos (by omega), hw, ← En_snoc, hF2]
        · rcases List.mem_append.mp hp with h | h
          · exact hK p h
          · rw [List.mem_singleton.mp h]; exact ⟨ok, hbr⟩
      · rw [if_neg ok]
        refine Ev.congr (fun k => ?_) (ih (i + 1) K (by omega) hK (by omega) (by omega) (by omega))
        show (if (1 : Int) = 0 then _ else (meridianlaw03_FrameCuts.l0 k x cut (F K) (En K) K (wrap64 ((i : Int) + 1)))) = _
        rw [if_neg (by decide), hw]
    · refine Ev.step (fun k => ?_) (cuts_tail K hK (by omega) (by omega) x (i : Int) cut)
      simp only [meridianlaw03_FrameCuts.l0]; rw [if_pos (by omega), decide_eq_false (by omega : ¬ (i : Int) < 50)]
theorem FrameCuts (x : List (List Int)) (hx : ∀ r ∈ x, ∀ y ∈ r, IsB y) (hxl : x.length ≤ 100000000000000) (cut : Int) : ∃ k, meridianlaw03_FrameCuts.f k x cut = some true := by
  refine Ev.rounds (g := fun k => meridianlaw03_FrameCuts.f k x cut) ?_
  unfold meridianlaw03_FrameCuts.f
  refine bind_awake ?_
  exact cuts_l0 x hx hxl cut x.length 0 [] (by omega) (fun p hp => by simp at hp) (by simp) (by omega) (by simp [F])
end Go.Proofs.Ytinpofepmbbehaa.Pure
