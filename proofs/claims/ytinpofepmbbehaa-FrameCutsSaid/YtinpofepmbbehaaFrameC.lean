/- Plain laws of the frame: a number in four bytes and back; join; Seal and the reference's Seal make the same frame. -/
import Derived.Test.YtinpofepmbbehaaFrameB
namespace Go.Proofs.Ytinpofepmbbehaa.PFrame
open Go.RowKit Go.Proofs.YtinpofepmbbehaaW.PrintWords Go.Proofs.YtinpofepmbbehaaW.PrintLast Go.Proofs.YtinpofepmbbehaaW.PrintMore
set_option linter.unusedVariables false
set_option linter.unusedSimpArgs false

theorem same_iff {a b : List Int} (ha : ∀ x ∈ a, IsB x) (hb : ∀ x ∈ b, IsB x) : (strOfNums a).toList = (strOfNums b).toList ↔ a = b := by
  refine ⟨fun h => ?_, fun h => by rw [h]⟩
  have h' : a.map (fun n => UInt8.ofNat n.toNat) = b.map (fun n => UInt8.ofNat n.toNat) := by simpa [strOfNums] using h
  have key : ∀ (a b : List Int), (∀ x ∈ a, IsB x) → (∀ x ∈ b, IsB x) → a.map (fun n => UInt8.ofNat n.toNat) = b.map (fun n => UInt8.ofNat n.toNat) → a = b := by
    intro a
    induction a with
    | nil => intro b _ _ h; cases b with | nil => rfl | cons y t => simp at h
    | cons x s ih =>
      intro b ha hb h
      cases b with
      | nil => simp at h
      | cons y t =>
        rw [List.map_cons, List.map_cons, List.cons.injEq] at h
        obtain ⟨h1, h2⟩ := h
        have hx := ha x List.mem_cons_self
        have hy := hb y List.mem_cons_self
        unfold IsB at hx hy
        have h3 : (UInt8.ofNat x.toNat).toNat = (UInt8.ofNat y.toNat).toNat := by rw [h1]
        simp only [UInt8.toNat_ofNat'] at h3
        rw [ih t (fun z hz => ha z (List.mem_cons_of_mem _ hz)) (fun z hz => hb z (List.mem_cons_of_mem _ hz)) h2, show x = y from by omega]
  exact key a b ha hb h'
theorem same_f {a b : List Int} (ha : ∀ x ∈ a, IsB x) (hb : ∀ x ∈ b, IsB x) : meridianref01_Same.f a b = some (decide (a = b)) := by
  unfold meridianref01_Same.f
  congr 1
  by_cases h : a = b
  · rw [h]; simp
  · rw [decide_eq_false h, beq_eq_false_iff_ne]
    exact fun e => h ((same_iff ha hb).mp e)

/-- a number in four bytes, and back -/
def num4 (a : Int) : List Int := [(a / 16777216) % 256, (a / 65536) % 256, (a / 256) % 256, a % 256]
def val4 (l : List Int) : Int := rd l 0 * 16777216 + rd l 1 * 65536 + rd l 2 * 256 + rd l 3
theorem num4_isB (a : Int) : ∀ x ∈ num4 a, IsB x := by
  intro x hx
  unfold num4 at hx
  simp at hx
  unfold IsB
  omega
theorem num4_length (a : Int) : (num4 a).length = 4 := rfl
theorem rd_app (a : Int) (t : List Int) : rd (num4 a ++ t) 0 = (a / 16777216) % 256 ∧ rd (num4 a ++ t) 1 = (a / 65536) % 256 ∧ rd (num4 a ++ t) 2 = (a / 256) % 256 ∧ rd (num4 a ++ t) 3 = a % 256 := ⟨rfl, rfl, rfl, rfl⟩
theorem val4_num4 {a : Int} (h0 : 0 ≤ a) (h1 : a < 4294967296) (t : List Int) : val4 (num4 a ++ t) = a := by
  unfold val4
  obtain ⟨e0, e1, e2, e3⟩ := rd_app a t
  rw [e0, e1, e2, e3]
  omega
theorem num4_val4 {l : List Int} (hb : ∀ x ∈ l, IsB x) (h : 4 ≤ l.length) : num4 (val4 l) = l.take 4 ∧ 0 ≤ val4 l ∧ val4 l < 4294967296 := by
  match l, h with
  | a :: b :: c :: d :: t, _ =>
    have ha := hb a (by simp)
    have hb' := hb b (by simp)
    have hc := hb c (by simp)
    have hd := hb d (by simp)
    unfold IsB at ha hb' hc hd
    have e : val4 (a :: b :: c :: d :: t) = a * 16777216 + b * 65536 + c * 256 + d := rfl
    rw [e]
    refine ⟨?_, by omega, by omega⟩
    unfold num4
    rw [show (a * 16777216 + b * 65536 + c * 256 + d) / 16777216 % 256 = a from by omega, show (a * 16777216 + b * 65536 + c * 256 + d) / 65536 % 256 = b from by omega, show (a * 16777216 + b * 65536 + c * 256 + d) / 256 % 256 = c from by omega, show (a * 16777216 + b * 65536 + c * 256 + d) % 256 = d from by omega]
    rfl
theorem four_f (a : Int) : frame_four.f a = some (num4 a) := rfl
theorem rfour_f {a : Int} (h0 : 0 ≤ a) (h1 : a < 4294967296) : meridianref03_Four.f a = some (num4 a) := by
  unfold meridianref03_Four.f num4
  rw [Int.tdiv_eq_ediv_of_nonneg h0, Int.tdiv_eq_ediv_of_nonneg h0, Int.tdiv_eq_ediv_of_nonneg h0, w64 (by omega) (by omega), w64 (by omega) (by omega), w64 (by omega) (by omega),
    Int.tmod_eq_emod_of_nonneg (by omega), Int.tmod_eq_emod_of_nonneg (by omega), Int.tmod_eq_emod_of_nonneg h0]
  simp only [Int.emod_emod_of_dvd _ (Int.dvd_refl 256)]
theorem or_add {a b : Nat} (i : Nat) (hb : b < 2 ^ i) (ha : a * 2 ^ i < 4294967296) (hb2 : b < 4294967296) : Go.bits .or .u32 ((a * 2 ^ i : Nat) : Int) (b : Int) = ((a * 2 ^ i + b : Nat) : Int) := by
  show IntKind.u32.wrap (((BitVec.ofInt 32 ((a * 2 ^ i : Nat) : Int) ||| BitVec.ofInt 32 (b : Int)).toNat : Nat) : Int) = _
  rw [Go.IntKind.wrap_u32, BitVec.toNat_or, BitVec.ofInt_natCast, BitVec.ofInt_natCast, BitVec.toNat_ofNat, BitVec.toNat_ofNat, Nat.mod_eq_of_lt (by omega : a * 2 ^ i < 2 ^ 32), Nat.mod_eq_of_lt (by omega : b < 2 ^ 32)]
  rw [← Nat.shiftLeft_eq, ← Nat.shiftLeft_add_eq_or_of_lt hb, Nat.shiftLeft_eq]
  have hlt : a * 2 ^ i + b < 4294967296 := by
    have hor : a <<< i + b = a <<< i ||| b := Nat.shiftLeft_add_eq_or_of_lt hb a
    have h32 : a <<< i ||| b < 2 ^ 32 := Nat.or_lt_two_pow (by rw [Nat.shiftLeft_eq]; omega) (by omega)
    rw [← hor, Nat.shiftLeft_eq] at h32
    omega
  omega
theorem number_f {l : List Int} (hb : ∀ x ∈ l, IsB x) (h : 4 ≤ l.length) : frame_number.f l = some (val4 l) := by
  match l, h with
  | x0 :: x1 :: x2 :: x3 :: t, _ =>
    have h0 := hb x0 (by simp)
    have h1 := hb x1 (by simp)
    have h2 := hb x2 (by simp)
    have h3 := hb x3 (by simp)
    unfold IsB at h0 h1 h2 h3
    unfold frame_number.f
    have e : val4 (x0 :: x1 :: x2 :: x3 :: t) = x0 * 16777216 + x1 * 65536 + x2 * 256 + x3 := rfl
    have r0 : rd (x0 :: x1 :: x2 :: x3 :: t) 0 = x0 := rfl
    have r1 : rd (x0 :: x1 :: x2 :: x3 :: t) 1 = x1 := rfl
    have r2 : rd (x0 :: x1 :: x2 :: x3 :: t) 2 = x2 := rfl
    have r3 : rd (x0 :: x1 :: x2 :: x3 :: t) 3 = x3 := rfl
    simp only [List.length_cons]
    rw [if_pos (by omega), if_pos (by omega), if_pos (by omega), if_pos (by omega), e, r0, r1, r2, r3]
    obtain ⟨a, rfl⟩ := Int.eq_ofNat_of_zero_le h0.1
    obtain ⟨b, rfl⟩ := Int.eq_ofNat_of_zero_le h1.1
    obtain ⟨c, rfl⟩ := Int.eq_ofNat_of_zero_le h2.1
    obtain ⟨d, rfl⟩ := Int.eq_ofNat_of_zero_le h3.1
    rw [show ((a : Int) % 4294967296) * 16777216 % 4294967296 = ((a * 2 ^ 24 : Nat) : Int) from by omega, show ((b : Int) % 4294967296) * 65536 % 4294967296 = ((b * 65536 : Nat) : Int) from by omega,
      show ((c : Int) % 4294967296) * 256 % 4294967296 = ((c * 256 : Nat) : Int) from by omega, show ((d : Int) % 4294967296) = (d : Int) from by omega]
    rw [or_add 24 (by omega) (by omega) (by omega)]
    rw [show a * 2 ^ 24 + b * 65536 = (a * 256 + b) * 2 ^ 16 from by omega, or_add 16 (by omega) (by omega) (by omega)]
    rw [show (a * 256 + b) * 2 ^ 16 + c * 256 = ((a * 256 + b) * 256 + c) * 2 ^ 8 from by omega, or_add 8 (by omega) (by omega) (by omega)]
    refine congrArg some ?_
    have e2 : ((a * 256 + b) * 256 + c) * 2 ^ 8 + d = a * 16777216 + b * 65536 + c * 256 + d := by omega
    rw [e2]
    simp only [Int.natCast_add, Int.natCast_mul]
    rfl

/-- the pieces of a list of texts, one behind the other -/
theorem join_l0 (L : List (List Int)) (hs : (L.map List.length).sum < 140737488355328) (hL : L.length < 1000000000000) (d : Nat) : ∀ (i : Nat) (acc : List Int), i + d = L.length → acc.length + ((L.drop i).map List.length).sum < 140737488355328 →
    Ev (fun k => frame_join.l0 k acc L (L.length : Int) (i : Int)) (acc ++ (L.drop i).flatten) := by
  induction d with
  | zero =>
    intro i acc hi _
    refine Ev.step (f := fun _ => some acc) (fun k => ?_) ?_
    · simp only [frame_join.l0]; rw [if_neg (by omega)]
    · rw [List.drop_eq_nil_of_le (by omega), List.flatten_nil, List.append_nil]; exact Ev.now _
  | succ d ih =>
    intro i acc hi hacc
    have hlt : i < L.length := by omega
    have e : L.drop i = rd_L1 L i :: L.drop (i + 1) := by
      rw [List.drop_eq_getElem_cons hlt]
      unfold rd_L1
      rw [Int.toNat_natCast, List.getD_eq_getElem?_getD, List.getElem?_eq_getElem hlt]
      rfl
    rw [e] at hacc ⊢
    rw [List.map_cons, List.sum_cons] at hacc
    rw [List.flatten_cons, ← List.append_assoc]
    refine Ev.step (fun k => ?_) (ih (i + 1) (acc ++ rd_L1 L i) (by omega) (by rw [List.length_append]; omega))
    simp only [frame_join.l0]
    rw [if_pos (by omega), if_pos (by omega), if_pos (by omega), if_pos (by omega), w64 (by omega) (by omega)]
    rfl
theorem join_f (L : List (List Int)) (hs : (L.map List.length).sum < 140737488355328) (hL : L.length < 1000000000000) : Ev (fun k => frame_join.f k L) L.flatten := by
  unfold frame_join.f
  have := join_l0 L hs hL L.length 0 [] (by omega) (by simpa using hs)
  simpa using this

/-- a text's sum; a frame -/
def crc (l : List Int) : Int := V (~~~ reg (BitVec.allOnes 32) l)
def sealL (p : List Int) : List Int := num4 (p.length : Int) ++ num4 (crc (num4 (p.length : Int) ++ p)) ++ p
abbrev Ok (p : List Int) : Prop := 1 ≤ p.length ∧ p.length ≤ 65536
theorem crc_range (l : List Int) : 0 ≤ crc l ∧ crc l < 4294967296 := V_lt _
theorem sealL_length (p : List Int) : (sealL p).length = 8 + p.length := by
  unfold sealL
  rw [List.length_append, List.length_append, num4_length, num4_length]
theorem sealL_isB {p : List Int} (hb : ∀ x ∈ p, IsB x) : ∀ x ∈ sealL p, IsB x := by
  intro x hx
  unfold sealL at hx
  rw [List.mem_append, List.mem_append] at hx
  rcases hx with (h | h) | h
  · exact num4_isB _ x h
  · exact num4_isB _ x h
  · exact hb x h
theorem app_isB {a b : List Int} (ha : ∀ x ∈ a, IsB x) (hb : ∀ x ∈ b, IsB x) : ∀ x ∈ a ++ b, IsB x := by
  intro x hx
  rcases List.mem_append.mp hx with h | h
  · exact ha x h
  · exact hb x h
theorem take_isB {a : List Int} (ha : ∀ x ∈ a, IsB x) (n : Nat) : ∀ x ∈ a.take n, IsB x := fun x hx => ha x (List.mem_of_mem_take hx)
theorem drop_isB {a : List Int} (ha : ∀ x ∈ a, IsB x) (n : Nat) : ∀ x ∈ a.drop n, IsB x := fun x hx => ha x (List.mem_of_mem_drop hx)
theorem crc2 {a p : List Int} (ha : ∀ x ∈ a, IsB x) (hp : ∀ x ∈ p, IsB x) (hl : a.length ≤ 1000000) (hl2 : p.length ≤ 1000000000000000) :
    ∀ {β : Type} {g : Nat → Int → Option β} {r : β}, Ev (fun k => g k (crc (a ++ p))) r → Ev (fun k => (sum_Of.f k a).bind fun t => (sum_More.f k t p).bind fun t2 => g k t2) r := by
  intro β g r h
  refine Ev.bind (f := fun k t => (sum_More.f k t p).bind fun t2 => g k t2) (of_f a ha (by omega)) ?_
  refine Ev.bind (f := fun k t2 => g k t2) (more_f p hp (by omega) _) ?_
  have e : V (~~~ reg (~~~ ~~~ reg (BitVec.allOnes 32) a) p) = crc (a ++ p) := by
    unfold crc
    rw [reg_append, BitVec.not_not]
  rw [e]
  exact h
theorem seal_f {p : List Int} (hb : ∀ x ∈ p, IsB x) (hl : p.length ≤ 140737488351232) : Ev (fun k => frame_Seal.f k p) (if Ok p then (sealL p, 0) else ([], 1)) := by
  unfold frame_Seal.f
  by_cases h0 : p.length = 0
  · rw [if_neg (by unfold Ok; omega)]
    refine Ev.step (f := fun _ => some ([], 1)) (fun k => ?_) (Ev.now _)
    rw [if_pos (by omega)]
    simp [frame_Seal.j0]
  by_cases h1 : p.length > 65536
  · rw [if_neg (by unfold Ok; omega)]
    refine Ev.step (f := fun _ => some ([], 1)) (fun k => ?_) (Ev.now _)
    rw [if_neg (by omega), decide_eq_true (by omega : (p.length : Int) > 65536)]
    simp [frame_Seal.j0]
  rw [if_pos (by unfold Ok; omega)]
  refine Ev.step (f := fun k => (sum_Of.f k (num4 (p.length : Int))).bind fun t115 => ((sum_More.f k t115 p).bind fun t116 => ((frame_four.f t116).bind fun t117 => ((frame_join.f k (([num4 (p.length : Int), t117, p] : List (List Int)))).bind fun t123 => (some (t123, (0 : Int))))))) (fun k => ?_) ?_
  · rw [if_neg (by omega), decide_eq_false (by omega)]
    simp only [frame_Seal.j0]
    rw [if_neg (by decide), four_f, Option.bind_some, show (p.length : Int) % 4294967296 = (p.length : Int) from by omega]
  refine crc2 (num4_isB _) hb (by rw [num4_length]; omega) (by omega) (g := fun k t116 => ((frame_four.f t116).bind fun t117 => ((frame_join.f k (([num4 (p.length : Int), t117, p] : List (List Int)))).bind fun t123 => (some (t123, (0 : Int)))))) ?_
  refine Ev.congr (f := fun k => (frame_join.f k [num4 (p.length : Int), num4 (crc (num4 (p.length : Int) ++ p)), p]).bind fun t123 => (some (t123, (0 : Int)))) (fun k => by rw [four_f, Option.bind_some]) ?_
  refine Ev.bind (f := fun _ t123 => some (t123, (0 : Int))) (join_f [num4 (p.length : Int), num4 (crc (num4 (p.length : Int) ++ p)), p] ?_ ?_) ?_
  · simp only [List.map_cons, List.map_nil, List.sum_cons, List.sum_nil, num4_length]; omega
  · simp
  · have : List.flatten [num4 (p.length : Int), num4 (crc (num4 (p.length : Int) ++ p)), p] = sealL p := by
      unfold sealL
      simp
    rw [this]
    exact Ev.now _
theorem rseal_f {p : List Int} (hb : ∀ x ∈ p, IsB x) (hl : p.length ≤ 140737488351232) : Ev (fun k => meridianref03_Seal.f k p) (if Ok p then (sealL p, true) else ([], false)) := by
  unfold meridianref03_Seal.f
  by_cases h0 : p.length = 0
  · rw [if_neg (by unfold Ok; omega)]
    refine Ev.step (f := fun _ => some ([], false)) (fun k => ?_) (Ev.now _)
    rw [if_pos (by omega)]
    simp [meridianref03_Seal.j0]
  by_cases h1 : p.length > 65536
  · rw [if_neg (by unfold Ok; omega)]
    refine Ev.step (f := fun _ => some ([], false)) (fun k => ?_) (Ev.now _)
    rw [if_neg (by omega), decide_eq_true (by omega : (p.length : Int) > 65536)]
    simp [meridianref03_Seal.j0]
  rw [if_pos (by unfold Ok; omega)]
  have hq := app_isB (num4_isB (p.length : Int)) hb
  refine Ev.step (f := fun k => (meridianref01_Of.f k (num4 (p.length : Int) ++ p)).bind fun t149 => ((meridianref03_Four.f (wrap64 (t149))).bind fun t150 => (if (num4 (p.length : Int)).length + t150.length < 140737488355328 then ((some (num4 (p.length : Int) ++ t150 : List Int)).bind fun y153 => (if y153.length + p.length < 140737488355328 then (some ((y153 ++ p), true)) else (none))) else (none)))) (fun k => ?_) ?_
  · rw [if_neg (by omega), decide_eq_false (by omega)]
    simp only [meridianref03_Seal.j0]
    rw [if_neg (by decide), rfour_f (by omega) (by omega), Option.bind_some, if_pos (by rw [num4_length]; omega), Option.bind_some]
  refine Ev.bind (f := fun k t149 => ((meridianref03_Four.f (wrap64 (t149))).bind fun t150 => (if (num4 (p.length : Int)).length + t150.length < 140737488355328 then ((some (num4 (p.length : Int) ++ t150 : List Int)).bind fun y153 => (if y153.length + p.length < 140737488355328 then (some ((y153 ++ p), true)) else (none))) else (none)))) (rof_f _ hq (by rw [List.length_append, num4_length]; omega)) ?_
  refine Ev.congr (f := fun _ => some (sealL p, true)) (fun k => ?_) (Ev.now _)
  have hc := crc_range (num4 (p.length : Int) ++ p)
  show ((meridianref03_Four.f (wrap64 (crc (num4 (p.length : Int) ++ p)))).bind fun t150 => _) = _
  rw [w64 (by omega) (by omega), rfour_f hc.1 hc.2, Option.bind_some, num4_length, num4_length, if_pos (by omega), Option.bind_some, List.length_append, num4_length, num4_length, if_pos (by omega)]
  rfl
end Go.Proofs.Ytinpofepmbbehaa.PFrame
