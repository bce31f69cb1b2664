/- Plain laws of the packer's bytes: what was written is read again; what is read without a fault is what is written. -/
import Derived.Test.YtlelddljamfblaaPkN
import Derived.Test.YtlelddljamfblaaPkK
namespace Go.Proofs.Ytlelddljamfblaa.Pk
open Go.RowKit Go.Proofs.YtlelddljamfblaaW.PrintWords Go.Proofs.YtlelddljamfblaaW.PrintLast Go.Proofs.YtlelddljamfblaaW.PrintMore Go.Proofs.Ytlelddljamfblaa.PPk
set_option linter.unusedVariables false
set_option linter.unusedSimpArgs false

theorem goN_enc (f : Nat) : ∀ (m : Nat) (N B : Int) (t : List Int), (enc m).length ≤ f → 0 ≤ N → 0 < B → N + m * B ≤ 9007199254740992 → (m = 0 → f = 8) → goN f N B (enc m ++ t) = (N + m * B, t, false) := by
  induction f with
  | zero => intro m N B t h; have := enc_pos m; omega
  | succ f ih =>
    intro m N B t h hN hB hle h0
    by_cases hm : m < 128
    · rw [enc_lt hm]
      show goN (f + 1) N B ((m : Int) :: t) = _
      unfold goN
      have e : (m : Int) % 128 = m := by omega
      rw [e, if_pos (by omega), if_neg (by omega)]
    · rw [enc_ge hm] at h ⊢
      show goN (f + 1) N B (((m : Int) % 128 + 128) :: (enc (m / 128) ++ t)) = _
      unfold goN
      have e : ((m : Int) % 128 + 128) % 128 = (m : Int) % 128 := by omega
      have e2 : (N + (m : Int) % 128 * B) + ((m / 128 : Nat) : Int) * (B * 128) = N + m * B := by
        have h1 : (m : Int) = (m : Int) % 128 + 128 * ((m / 128 : Nat) : Int) := by omega
        have h2 : ((m / 128 : Nat) : Int) * (B * 128) = (128 * ((m / 128 : Nat) : Int)) * B := by
          rw [Int.mul_comm B 128, ← Int.mul_assoc, Int.mul_comm _ (128 : Int)]
        rw [h2, Int.add_assoc, ← Int.add_mul, ← h1]
      have hp : 0 ≤ (m : Int) % 128 * B := Int.mul_nonneg (by omega) (by omega)
      rw [if_neg (by omega), e, ← e2]
      simp only [List.length_cons] at h
      exact ih (m / 128) _ _ t (by omega) (by omega) (by omega) (by rw [e2]; exact hle) (fun h => by omega)
theorem rnum_enc {m : Nat} (h : m ≤ 9007199254740992) (t : List Int) : rnum (enc m ++ t) false = ((m : Int), t, false) := by
  show goN 8 0 1 (enc m ++ t) = _
  rw [goN_enc 8 m 0 1 t (enc_len8 h) (by decide) (by decide) (by omega) (fun _ => rfl)]
  simp
theorem goN_dec (f : Nat) : ∀ (N B : Int) (bs t : List Int) (n : Int), (∀ x ∈ bs, IsB x) → f ≤ 8 → 0 ≤ N → 0 < B → goN f N B bs = (n, t, false) → ∃ m : Nat, bs = enc m ++ t ∧ n = N + m * B ∧ n ≤ 9007199254740992 ∧ (m = 0 → f = 8) := by
  induction f with
  | zero => intro N B bs t n _ _ _ _ h; cases h
  | succ f ih =>
    intro N B bs t n hb hf hN hB h
    cases bs with
    | nil => cases h
    | cons c s =>
      obtain ⟨c0, c1⟩ := hb c (by simp)
      unfold goN at h
      by_cases hc : c < 128
      · rw [if_pos hc] at h
        split at h
        · cases h
        · rename_i hn
          have e : c % 128 = c := by omega
          rw [e] at h hn
          simp only [Prod.mk.injEq] at h
          obtain ⟨rfl, rfl, _⟩ := h
          refine ⟨c.toNat, ?_, by rw [Int.toNat_of_nonneg c0], by omega, fun h => by omega⟩
          rw [enc_lt (by omega), Int.toNat_of_nonneg c0]
          rfl
      · rw [if_neg hc] at h
        have hp : 0 ≤ c % 128 * B := Int.mul_nonneg (by omega) (by omega)
        obtain ⟨m, rfl, e, hle, h0⟩ := ih _ _ _ _ _ (fun x hx => hb x (by simp [hx])) (by omega) (by omega) (by omega) h
        have hm : m ≠ 0 := fun hm => by have := h0 hm; omega
        obtain ⟨d, hd⟩ : ∃ d : Nat, c % 128 = d := ⟨(c % 128).toNat, by omega⟩
        have hm2 : ¬ d + 128 * m < 128 := by omega
        refine ⟨d + 128 * m, ?_, ?_, hle, fun h => by omega⟩
        · rw [enc_ge hm2]
          have e1 : ((d + 128 * m : Nat) : Int) % 128 + 128 = c := by omega
          have e2 : (d + 128 * m) / 128 = m := by omega
          rw [e1, e2]
          rfl
        · rw [e, hd]
          have h2 : (m : Int) * (B * 128) = (128 * (m : Int)) * B := by rw [Int.mul_comm B 128, ← Int.mul_assoc, Int.mul_comm _ (128 : Int)]
          rw [h2, Int.add_assoc, ← Int.add_mul]
          rfl
theorem rnum_dec {bs t : List Int} {n : Int} (hb : ∀ x ∈ bs, IsB x) (h : rnum bs false = (n, t, false)) : ∃ m : Nat, bs = enc m ++ t ∧ n = m ∧ m ≤ 9007199254740992 := by
  obtain ⟨m, h1, h2, h3, _⟩ := goN_dec 8 0 1 bs t n hb (by decide) (by decide) (by decide) h
  exact ⟨m, h1, by omega, by omega⟩

/-- An item's bytes; can it be written? -/
def itemB (x : S46) : List Int := if x.f0 = 1 then [if x.f1 = 0 then 0 else 1] else if x.f0 = 2 then enc x.f2.size ++ bytesOf x.f2 else enc x.f1.toNat
def good (x : S46) : Prop := if x.f0 = 1 then True else if x.f0 = 2 then x.f2.size ≤ 9007199254740992 else 0 ≤ x.f1 ∧ x.f1 ≤ 9007199254740992
theorem wstep_good {x : S46} (h : good x) (acc : List Int) : wstep (acc, false) x = (acc ++ itemB x, false) := by
  obtain ⟨x0, x1, x2⟩ := x
  unfold wstep itemB
  unfold good at h
  simp only at h ⊢
  by_cases h1 : x0 = 1
  · rw [if_pos h1, if_pos h1]
    unfold wflag
    by_cases hz : x1 = 0
    · subst hz
      rw [if_neg (by decide), wnum_good (by decide) (by decide), show (0 : Int).toNat = 0 from rfl, enc_lt (by decide)]
      rfl
    · rw [if_pos (by simpa using hz), if_neg hz, wnum_good (by decide) (by decide), show (1 : Int).toNat = 1 from rfl, enc_lt (by decide)]
      rfl
  · rw [if_neg h1] at h
    rw [if_neg h1, if_neg h1]
    by_cases h2 : x0 = 2
    · rw [if_pos h2] at h
      rw [if_pos h2, if_pos h2]
      unfold wtext
      rw [wnum_good (by omega) (by omega), Int.toNat_natCast, if_neg (by simp), List.append_assoc]
    · rw [if_neg h2] at h
      rw [if_neg h2, if_neg h2, wnum_good h.1 h.2]
theorem wstep_not {x : S46} (h : ¬ good x) (acc : List Int) : (wstep (acc, false) x).2 = true := by
  obtain ⟨x0, x1, x2⟩ := x
  unfold wstep
  unfold good at h
  simp only at h ⊢
  by_cases h1 : x0 = 1
  · rw [if_pos h1] at h; exact absurd trivial h
  · rw [if_neg h1] at h
    rw [if_neg h1]
    by_cases h2 : x0 = 2
    · rw [if_pos h2] at h
      rw [if_pos h2]
      unfold wtext
      rw [if_pos (wnum_out (.inr (by omega)) _)]
    · rw [if_neg h2] at h
      rw [if_neg h2]
      exact wnum_out (by omega) _
theorem fold_good {l : List S46} : ∀ acc : List Int, (∀ x ∈ l, good x) → l.foldl wstep (acc, false) = (acc ++ l.flatMap itemB, false) := by
  induction l with
  | nil => intro acc _; simp
  | cons x l ih =>
    intro acc h
    rw [List.foldl_cons, wstep_good (h x (by simp)), ih _ (fun y hy => h y (by simp [hy])), List.flatMap_cons, List.append_assoc]
theorem good_of {l : List S46} : ∀ acc : List Int, (l.foldl wstep (acc, false)).2 = false → ∀ x ∈ l, good x := by
  induction l with
  | nil => intro acc _ x hx; simp at hx
  | cons x l ih =>
    intro acc h
    rw [List.foldl_cons] at h
    by_cases hg : good x
    · rw [wstep_good hg] at h
      intro y hy
      rcases List.mem_cons.1 hy with rfl | hy
      · exact hg
      · exact ih _ h y hy
    · rw [fold_bad (wstep_not hg acc)] at h
      cases h
theorem wall_good {l : List S46} (h : (wall l).2 = false) : (∀ x ∈ l, good x) ∧ (wall l).1 = l.flatMap itemB := by
  have hg := good_of [] h
  refine ⟨hg, ?_⟩
  unfold wall
  rw [fold_good [] hg]
  rfl
theorem wall_all {l : List S46} (h : ∀ x ∈ l, good x) : wall l = (l.flatMap itemB, false) := by
  unfold wall
  rw [fold_good [] h]
  rfl

theorem strOf_bytesOf (s : ByteArray) : strOfNums (bytesOf s) = s := by
  apply ByteArray.ext
  apply Array.ext'
  rw [strOfNums_data]
  unfold bytesOf
  rw [List.map_map]
  conv => rhs; rw [← List.map_id s.data.toList]
  apply List.map_congr_left
  intro b _
  simp
theorem bytesOf_strOf {xs : List Int} (h : ∀ x ∈ xs, IsB x) : bytesOf (strOfNums xs) = xs := by
  unfold bytesOf
  rw [strOfNums_data, List.map_map]
  conv => rhs; rw [← List.map_id xs]
  apply List.map_congr_left
  intro x hx
  obtain ⟨h0, h1⟩ := h x hx
  simp only [Function.comp, id]
  rw [UInt8.toNat_ofNat']
  have : x.toNat % 2 ^ 8 = x.toNat := Nat.mod_eq_of_lt (by omega)
  rw [this]
  omega
theorem toList_inj {a b : ByteArray} (h : a.toList = b.toList) : a = b := by
  rw [ByteArray.toList_eq, ByteArray.toList_eq] at h
  exact ByteArray.ext (Array.ext' h)

/-! ### a reader tells what was written -/
theorem rflag_one (b : Bool) (t : List Int) : rflag ((if b = true then 1 else 0) :: t) false = (b, t, false) := by cases b <;> rfl
theorem ragain_item {x : S46} (h : good x) (l : List S46) (t : List Int) : ragain (x :: l) (itemB x ++ t) false = ragain l t false := by
  obtain ⟨x0, x1, x2⟩ := x
  unfold itemB
  unfold good at h
  simp only at h ⊢
  by_cases h1 : x0 = 1
  · subst h1
    rw [if_pos rfl, ragain_flag]
    have e : rflag ([if x1 = 0 then 0 else 1] ++ t) false = (x1 != 0, t, false) := by
      by_cases hz : x1 = 0
      · subst hz; rfl
      · have hz2 : (x1 != 0) = true := by simpa using hz
        rw [if_neg hz, hz2]; rfl
    rw [e, if_pos rfl]
  · rw [if_neg h1] at h
    rw [if_neg h1]
    by_cases h2 : x0 = 2
    · subst h2
      rw [if_pos rfl] at h
      rw [if_pos rfl, ragain_text]
      have e : rtext (x2.size : Int) (enc x2.size ++ bytesOf x2 ++ t) false = (bytesOf x2, t, false) := by
        unfold rtext
        rw [List.append_assoc, rnum_enc h]
        simp only
        rw [if_neg (by simp [bytesOf_length]; omega), Int.toNat_natCast, List.take_left' (bytesOf_length x2), List.drop_left' (bytesOf_length x2)]
      rw [e]
      simp only
      rw [strOf_bytesOf, if_pos rfl]
    · rw [if_neg h2] at h
      rw [if_neg h2, ragain_num h1 h2]
      obtain ⟨m, rfl⟩ := Int.eq_ofNat_of_zero_le h.1
      rw [Int.toNat_natCast, rnum_enc (by omega)]
      simp only
      rw [if_pos trivial]
theorem ragain_all {l : List S46} (h : ∀ x ∈ l, good x) : ragain l (l.flatMap itemB) false = true := by
  induction l with
  | nil => rfl
  | cons x l ih =>
    rw [List.flatMap_cons, ragain_item (h x (by simp))]
    exact ih (fun y hy => h y (by simp [hy]))
theorem ragain_bad : ∀ (l : List S46) (bs : List Int), ragain l bs true = false := by
  intro l
  induction l with
  | nil => intro bs; rfl
  | cons x l ih =>
    intro bs
    rw [ragain]
    split
    · split
      · exact ih _
      · rfl
    · split
      · split
        · exact ih _
        · rfl
      · split
        · exact ih _
        · rfl
theorem ragain_dec : ∀ (l : List S46) (bs : List Int) (bad : Bool), (∀ x ∈ bs, IsB x) → ragain l bs bad = true → bs = l.flatMap itemB := by
  intro l
  induction l with
  | nil =>
    intro bs bad hb h
    unfold ragain rend at h
    split at h
    · cases h
    · rename_i hn
      simp at hn
      rw [hn.2]; rfl
  | cons x l ih =>
    intro bs bad hb h
    cases bad
    case true => rw [ragain_bad] at h; cases h
    obtain ⟨x0, x1, x2⟩ := x
    rw [List.flatMap_cons, show itemB ⟨x0, x1, x2⟩ = if x0 = 1 then [if x1 = 0 then 0 else 1] else if x0 = 2 then enc x2.size ++ bytesOf x2 else enc x1.toNat from rfl]
    by_cases h1 : x0 = 1
    · subst h1
      rw [ragain_flag] at h
      rw [if_pos rfl]
      split at h
      · rename_i he
        cases bs with
        | nil => rw [show rflag [] false = (false, [], true) from rfl, ragain_bad] at h; cases h
        | cons c t =>
          obtain ⟨c0, c1⟩ := hb c (by simp)
          have hd : rflag (c :: t) false = if c > 1 then (false, t, true) else (c == 1, t, false) := rfl
          rw [hd] at h he
          by_cases hc : c > 1
          · rw [if_pos hc, ragain_bad] at h; cases h
          · rw [if_neg hc] at h he
            simp only at h he
            have := ih _ _ (fun y hy => hb y (by simp [hy])) h
            rw [← this]
            have hcc : c = if x1 = 0 then 0 else 1 := by
              by_cases hz : x1 = 0
              · subst hz
                rw [if_pos rfl]
                simp at he
                omega
              · have hz2 : (x1 != 0) = true := by simpa using hz
                rw [if_neg hz]
                rw [hz2] at he
                simpa using he
            rw [← hcc]; rfl
      · cases h
    · rw [if_neg h1]
      by_cases h2 : x0 = 2
      · subst h2
        rw [ragain_text] at h
        rw [if_pos rfl]
        split at h
        · rename_i he
          unfold rtext at h he
          by_cases hq : (rnum bs false).2.2 = true ∨ (rnum bs false).1 > (x2.size : Int) ∨ (rnum bs false).1 > ((rnum bs false).2.1.length : Int)
          · rw [if_pos hq, ragain_bad] at h; cases h
          · rw [if_neg hq] at h he
            simp only at h he
            have hms := rnum_mem (bad := false) hb
            generalize hR : rnum bs false = R at *
            obtain ⟨n, t, b⟩ := R
            simp only at h he hq hms
            have hb2 : b = false := by cases b; rfl; exact absurd (.inl rfl) hq
            subst hb2
            obtain ⟨m, e1, rfl, hm⟩ := rnum_dec hb hR
            rw [Int.toNat_natCast] at h he
            have hs := toList_inj he
            have := ih _ _ (fun y hy => hms y (List.mem_of_mem_drop hy)) h
            have hl : (t.take m).length = m := by rw [List.length_take]; omega
            have hsz : x2.size = m := by rw [← hs, strOfNums_size, hl]
            have hbo : bytesOf x2 = t.take m := by rw [← hs, bytesOf_strOf (fun y hy => hms y (List.mem_of_mem_take hy))]
            rw [hbo, hsz, ← this, e1, List.append_assoc, List.take_append_drop]
        · cases h
      · rw [ragain_num h1 h2] at h
        rw [if_neg h2]
        split at h
        · rename_i he
          have hms := rnum_mem (bad := false) hb
          generalize hR : rnum bs false = R at *
          obtain ⟨n, t, b⟩ := R
          simp only at h he hms
          subst he
          cases b
          · obtain ⟨m, e1, rfl, hm⟩ := rnum_dec hb hR
            have := ih _ _ hms h
            rw [← this, e1, Int.toNat_natCast]
          · rw [ragain_bad] at h; cases h
        · cases h
/-- One byte less is no list's bytes. -/
theorem ragain_less {l : List S46} (hb : ∀ x ∈ l.flatMap itemB, IsB x) (h0 : 0 < (l.flatMap itemB).length) : ragain l ((l.flatMap itemB).take ((l.flatMap itemB).length - 1)) false = false := by
  cases h : ragain l ((l.flatMap itemB).take ((l.flatMap itemB).length - 1)) false
  · rfl
  · have := congrArg List.length (ragain_dec l _ false (fun x hx => hb x (List.mem_of_mem_take hx)) h)
    rw [List.length_take] at this
    omega
theorem enc_isB : ∀ n : Nat, ∀ x ∈ enc n, IsB x := by
  intro n
  induction n using Nat.strongRecOn with
  | _ n ih =>
    intro x hx
    by_cases h : n < 128
    · rw [enc_lt h] at hx
      obtain rfl := List.mem_singleton.1 hx
      unfold IsB; omega
    · rw [enc_ge h] at hx
      rcases List.mem_cons.1 hx with rfl | hx
      · unfold IsB; omega
      · exact ih (n / 128) (by omega) x hx
theorem bytesOf_isB (s : ByteArray) : ∀ x ∈ bytesOf s, IsB x := by
  intro x hx
  unfold bytesOf at hx
  obtain ⟨b, _, rfl⟩ := List.mem_map.1 hx
  have := b.toNat_lt
  unfold IsB; omega
theorem items_isB (l : List S46) : ∀ x ∈ l.flatMap itemB, IsB x := by
  intro x hx
  obtain ⟨y, _, hy⟩ := List.mem_flatMap.1 hx
  unfold itemB at hy
  split at hy
  · obtain rfl := List.mem_singleton.1 hy
    unfold IsB
    split <;> omega
  · split at hy
    · rcases List.mem_append.1 hy with hy | hy
      · exact enc_isB _ x hy
      · exact bytesOf_isB _ x hy
    · exact enc_isB _ x hy
end Go.Proofs.Ytlelddljamfblaa.Pk
