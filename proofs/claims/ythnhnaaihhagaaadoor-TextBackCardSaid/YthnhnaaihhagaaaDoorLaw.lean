/-
  Plain laws: what is quoted is unquoted as it was; both readings of digits unquote alike; a line's words, step by step.
-/
import Derived.Test.YthnhnaaihhagaaaDoorAny
namespace Go.Proofs.YthnhnaaihhagaaaDoor
open Go.RowKit Go.Shelf

/-- A reading of digits that takes those of a quote. -/
def Reads (dg : UInt8 → Option Nat) : Prop := ∀ k : Fin 16, dg (Txt.hexd k.val) = some k.val
theorem reads_R : Reads Txt.dgR := hexd_dgR
theorem reads_P : Reads Txt.dgP := by unfold Reads; decide
theorem inner_bytes (dg : UInt8 → Option Nat) : ∀ (a r : List UInt8), (92 : UInt8) ∉ a → Txt.inner dg (a ++ r) = (Txt.inner dg r).map (a ++ ·)
  | [], r, _ => by simp
  | c :: a, r, h => by
    have h1 : c ≠ 92 := fun e => h (by simp [e])
    have h2 : (92 : UInt8) ∉ a := fun e => h (by simp [e])
    rw [List.cons_append, inner_plain dg c _ h1, inner_bytes dg a r h2, Option.map_map]
    congr 1
theorem inner_qtok (dg : UInt8 → Option Nat) (hd : Reads dg) (t : Int × List UInt8) (h : Txt.Shape t) (r : List UInt8) : Txt.inner dg (Txt.qtok t ++ r) = (Txt.inner dg r).map (t.2 ++ ·) := by
  obtain ⟨n, bs⟩ := t
  by_cases hb : Txt.bad n = true
  · obtain ⟨c, rfl⟩ : ∃ c, bs = [c] := by
      rcases h with ⟨_, c, h, _⟩ | ⟨_, _, h⟩ | ⟨h1, _⟩
      · exact ⟨c, h⟩
      · exact ⟨_, h⟩
      · simp only at h1; simp [Txt.bad] at hb; omega
    have hc := c.toNat_lt
    rw [qtok_bad _ _ hb]
    show Txt.inner dg (92 :: 120 :: Txt.hexd (c.toNat / 16) :: Txt.hexd (c.toNat % 16) :: r) = _
    rw [inner_x, hd ⟨c.toNat / 16, by omega⟩, hd ⟨c.toNat % 16, by omega⟩]
    have e : (16 * (c.toNat / 16) + c.toNat % 16).toUInt8 = c := Txt.toU8_of c _ (by omega)
    simp only [e]; rfl
  · have hb' : Txt.bad n = false := by simpa using hb
    by_cases h10 : n = 10
    · have hbs : bs = [10] := by
        rcases h with ⟨h1, _⟩ | ⟨_, _, h⟩ | ⟨h1, _⟩
        · simp only at h1; omega
        · simp only at h; rw [h, h10]; rfl
        · simp only at h1; omega
      subst h10; subst hbs
      exact inner_n dg r
    · by_cases h34 : n = 34 ∨ n = 92
      · have hbs : bs = [n.toNat.toUInt8] := by
          rcases h with ⟨h1, _⟩ | ⟨_, _, h⟩ | ⟨h1, _⟩
          · simp only at h1; omega
          · exact h
          · simp only at h1; omega
        subst hbs
        rcases h34 with rfl | rfl
        · exact inner_sign dg 34 r (.inl rfl)
        · exact inner_sign dg 92 r (.inr rfl)
      · rw [qtok_else _ _ hb' h10 (by omega) (by omega)]
        refine inner_bytes dg bs r ?_
        intro hm
        rcases h with ⟨_, c, h, h2⟩ | ⟨h0, h1, h⟩ | ⟨_, _, _, _, _, h⟩
        · simp only at h; rw [h] at hm; simp at hm; rw [← hm] at h2; exact absurd h2 (by decide)
        · simp only at h h0 h1; rw [h] at hm; simp at hm
          have := congrArg UInt8.toNat hm
          simp at this; omega
        · exact absurd (h 92 hm) (by decide)
theorem inner_qtoks (dg : UInt8 → Option Nat) (hd : Reads dg) : ∀ (ts : List (Int × List UInt8)), (∀ t ∈ ts, Txt.Shape t) → Txt.inner dg (Txt.qtoks ts) = some (ts.flatMap (·.2))
  | [], _ => rfl
  | t :: ts, h => by
    show Txt.inner dg (Txt.qtok t ++ Txt.qtoks ts) = _
    rw [inner_qtok dg hd t (h t (by simp)), inner_qtoks dg hd ts (fun u hu => h u (by simp [hu]))]
    rfl
theorem inner_body (dg : UInt8 → Option Nat) (hd : Reads dg) (l : List UInt8) : Txt.inner dg (Txt.qbody l) = some l := by
  rw [Txt.qbody, inner_qtoks dg hd _ (Txt.shape_of l), Txt.toks_flat]
theorem unq_quote (dg : UInt8 → Option Nat) (hd : Reads dg) (t : List UInt8) : Txt.unq dg (Txt.quote t) = some t := by
  have hlen : (Txt.quote t).length = (Txt.qbody t).length + 2 := by simp [Txt.quote]
  rw [Txt.unq, if_neg]
  · have : ((Txt.quote t).drop 1).take ((Txt.quote t).length - 2) = Txt.qbody t := by
      rw [hlen]; simp [Txt.quote]
    rw [this, inner_body dg hd]; simp
  · have e2 : (Txt.quote t).getLastD 0 = 34 := by
      rw [show Txt.quote t = (34 :: Txt.qbody t) ++ [34] from rfl, List.getLastD_eq_getLast?, List.getLast?_append]; simp
    have e1 : (Txt.quote t).headD 0 = 34 := rfl
    rw [e1, e2, hlen]
    simp
theorem unq_iff (dg : UInt8 → Option Nat) (hd : Reads dg) (l t : List UInt8) : Txt.unq dg l = some t ↔ Txt.quote t = l := by
  constructor
  · intro h
    unfold Txt.unq at h
    split at h
    · cases h
    · split at h
      · split at h
        · rename_i e; cases h; exact e
        · cases h
      · cases h
  · rintro rfl; exact unq_quote dg hd t
theorem unq_same (l : List UInt8) : Txt.unq Txt.dgP l = Txt.unq Txt.dgR l := by
  cases e : Txt.unq Txt.dgP l with
  | some t => exact ((unq_iff _ reads_R l t).2 ((unq_iff _ reads_P l t).1 e)).symm
  | none => cases e2 : Txt.unq Txt.dgR l with
    | none => rfl
    | some t => rw [(unq_iff _ reads_P l t).2 ((unq_iff _ reads_R l t).1 e2)] at e; cases e
theorem quote_inj (a b : List UInt8) (h : Txt.quote a = Txt.quote b) : a = b := by
  have h1 := unq_quote Txt.dgR reads_R a
  rw [h, unq_quote Txt.dgR reads_R b] at h1
  exact (Option.some.inj h1).symm

/-! ### The words, step by step -/
theorem endF_le : ∀ (l : List UInt8) (b : Bool) (k n : Nat), Txt.endF b k l = some n → k < n ∧ n ≤ k + l.length
  | [], _, _, _, h => by cases h
  | c :: t, b, k, n, h => by
    unfold Txt.endF at h
    split at h
    · have := endF_le t false (k + 1) n h; simp only [List.length_cons]; omega
    · split at h
      · have := endF_le t true (k + 1) n h; simp only [List.length_cons]; omega
      · split at h
        · cases h; simp only [List.length_cons]; omega
        · have := endF_le t false (k + 1) n h; simp only [List.length_cons]; omega
/-- The words of a line whose first byte is no blank. -/
def wordsAt (f : Nat) (c : UInt8) (t : List UInt8) : Option (List (List UInt8)) :=
  if c ≠ 34 then
    if (34 : UInt8) ∈ (c :: t).takeWhile (fun x => !Txt.blank x) then none
    else (Txt.wordsF f ((c :: t).dropWhile fun x => !Txt.blank x)).map ((c :: t).takeWhile (fun x => !Txt.blank x) :: ·)
  else match Txt.endF false 1 t with
    | none => none
    | some n =>
      if ((c :: t).drop n).head?.any (fun x => !Txt.blank x) then none
      else match Txt.unquote ((c :: t).take n) with
        | none => none
        | some w => (Txt.wordsF f ((c :: t).drop n)).map (w :: ·)
theorem wordsF_nil (f : Nat) (l : List UInt8) (h : l.dropWhile Txt.blank = []) : Txt.wordsF (f + 1) l = some [] := by
  rw [Txt.wordsF]; simp only [h]
theorem wordsF_cons (f : Nat) (l : List UInt8) (c : UInt8) (t : List UInt8) (h : l.dropWhile Txt.blank = c :: t) : Txt.wordsF (f + 1) l = wordsAt f c t := by
  rw [Txt.wordsF]; simp only [h]; rfl
theorem dropWhile_len (p : UInt8 → Bool) : ∀ l : List UInt8, (l.dropWhile p).length ≤ l.length
  | [] => by simp
  | c :: t => by rw [List.dropWhile_cons]; split; exact Nat.le_succ_of_le (dropWhile_len p t); exact Nat.le_refl _
theorem dropWhile_head (p : UInt8 → Bool) : ∀ (l : List UInt8) (c : UInt8) (t : List UInt8), l.dropWhile p = c :: t → p c = false
  | [], _, _, h => by cases h
  | d :: l, c, t, h => by
    rw [List.dropWhile_cons] at h
    split at h
    · exact dropWhile_head p l c t h
    · cases h; rename_i hp; simpa using hp
theorem wordsF_fuel : ∀ (f g : Nat) (l : List UInt8), l.length < f → l.length < g → Txt.wordsF f l = Txt.wordsF g l
  | 0, _, _, h, _ => absurd h (by omega)
  | _ + 1, 0, _, _, h => absurd h (by omega)
  | f + 1, g + 1, l, hf, hg => by
    have hl := dropWhile_len Txt.blank l
    cases e : l.dropWhile Txt.blank with
    | nil => rw [wordsF_nil f l e, wordsF_nil g l e]
    | cons c t =>
      have hb := dropWhile_head _ _ _ _ e
      rw [e] at hl
      simp only [List.length_cons] at hl
      have h1 : ((c :: t).dropWhile fun x => !Txt.blank x).length ≤ t.length := by
        rw [List.dropWhile_cons, if_pos (by simp [hb])]; exact dropWhile_len _ t
      rw [wordsF_cons f l c t e, wordsF_cons g l c t e, wordsAt, wordsAt, wordsF_fuel f g _ (by omega) (by omega)]
      cases e2 : Txt.endF false 1 t with
      | none => rfl
      | some n =>
        have hn := endF_le t false 1 n e2
        simp only
        rw [wordsF_fuel f g ((c :: t).drop n) (by simp only [List.length_drop, List.length_cons]; omega) (by simp only [List.length_drop, List.length_cons]; omega)]
theorem words_nil (l : List UInt8) (h : l.dropWhile Txt.blank = []) : Txt.words l = some [] := wordsF_nil _ l h
theorem words_trim (l : List UInt8) : Txt.words (l.dropWhile Txt.blank) = Txt.words l := by
  have hl := dropWhile_len Txt.blank l
  have hd : (l.dropWhile Txt.blank).dropWhile Txt.blank = l.dropWhile Txt.blank := by
    cases e : l.dropWhile Txt.blank with
    | nil => rfl
    | cons c t => rw [List.dropWhile_cons, if_neg (by simp [dropWhile_head _ _ _ _ e])]
  unfold Txt.words
  rw [wordsF_fuel ((l.dropWhile Txt.blank).length + 1) (l.length + 1) _ (by omega) (by omega)]
  cases e : l.dropWhile Txt.blank with
  | nil => rw [wordsF_nil _ [] rfl, wordsF_nil _ l e]
  | cons c t => rw [wordsF_cons _ l c t e, wordsF_cons _ (c :: t) c t (by rw [← e, hd])]
theorem words_bad (c : UInt8) (t : List UInt8) (hb : Txt.blank c = false) (hc : c ≠ 34) (h : (34 : UInt8) ∈ (c :: t).takeWhile (fun x => !Txt.blank x)) : Txt.words (c :: t) = none := by
  rw [Txt.words, wordsF_cons _ _ c t (by rw [List.dropWhile_cons, if_neg (by simp [hb])]), wordsAt, if_pos hc, if_pos h]
theorem words_bare (c : UInt8) (t : List UInt8) (hb : Txt.blank c = false) (hc : c ≠ 34) (h : (34 : UInt8) ∉ (c :: t).takeWhile (fun x => !Txt.blank x)) :
    Txt.words (c :: t) = (Txt.words ((c :: t).dropWhile fun x => !Txt.blank x)).map ((c :: t).takeWhile (fun x => !Txt.blank x) :: ·) := by
  rw [Txt.words, wordsF_cons _ _ c t (by rw [List.dropWhile_cons, if_neg (by simp [hb])]), wordsAt, if_pos hc, if_neg h, Txt.words]
  have h1 : ((c :: t).dropWhile fun x => !Txt.blank x).length ≤ t.length := by
    rw [List.dropWhile_cons, if_pos (by simp [hb])]; exact dropWhile_len _ t
  rw [wordsF_fuel _ (((c :: t).dropWhile fun x => !Txt.blank x).length + 1) _ (by simp only [List.length_cons]; omega) (by omega)]
theorem words_open (t : List UInt8) (h : Txt.endF false 1 t = none) : Txt.words (34 :: t) = none := by
  rw [Txt.words, wordsF_cons _ _ 34 t rfl, wordsAt, if_neg (by simp)]; simp only [h]
theorem words_stuck (t : List UInt8) (n : Nat) (h : Txt.endF false 1 t = some n) (h2 : ((34 :: t).drop n).head?.any (fun x => !Txt.blank x) = true) : Txt.words (34 :: t) = none := by
  rw [Txt.words, wordsF_cons _ _ 34 t rfl, wordsAt, if_neg (by simp)]; simp only [h]; rw [if_pos h2]
theorem words_wrong (t : List UInt8) (n : Nat) (h : Txt.endF false 1 t = some n) (h2 : ((34 :: t).drop n).head?.any (fun x => !Txt.blank x) = false) (h3 : Txt.unquote ((34 :: t).take n) = none) : Txt.words (34 :: t) = none := by
  rw [Txt.words, wordsF_cons _ _ 34 t rfl, wordsAt, if_neg (by simp)]; simp only [h]; rw [if_neg (by rw [h2]; simp)]; simp only [h3]
theorem words_quoted (t w : List UInt8) (n : Nat) (h : Txt.endF false 1 t = some n) (h2 : ((34 :: t).drop n).head?.any (fun x => !Txt.blank x) = false) (h3 : Txt.unquote ((34 :: t).take n) = some w) :
    Txt.words (34 :: t) = (Txt.words ((34 :: t).drop n)).map (w :: ·) := by
  have hn := endF_le t false 1 n h
  rw [Txt.words, wordsF_cons _ _ 34 t rfl, wordsAt, if_neg (by simp)]; simp only [h]; rw [if_neg (by rw [h2]; simp)]; simp only [h3]
  rw [Txt.words, wordsF_fuel _ (((34 :: t).drop n).length + 1) ((34 :: t).drop n) (by simp only [List.length_drop, List.length_cons]; omega) (by omega)]
end Go.Proofs.YthnhnaaihhagaaaDoor
