/-
  Plain laws, no program in sight: the words of a line that was made of words; two lines with a blank between; the runes of two texts; names.
-/
import Derived.Test.YthnhnaaihhagaaaDoorRefWords
import Derived.Test.YthnhnaaihhagaaaDoorLine
namespace Go.Proofs.YthnhnaaihhagaaaDoor

/-! ### The words of two lines -/
theorem endF_append : ∀ (l x : List UInt8) (b : Bool) (k n : Nat), Txt.endF b k l = some n → Txt.endF b k (l ++ x) = some n
  | [], _, _, _, _, h => by cases h
  | c :: t, x, b, k, n, h => by
    rw [List.cons_append, Txt.endF]
    rw [Txt.endF] at h
    cases b with
    | true => rw [if_pos rfl] at h ⊢; exact endF_append t x false (k + 1) n h
    | false =>
      rw [if_neg (by simp)] at h ⊢
      by_cases h1 : c = 92
      · rw [if_pos h1] at h ⊢; exact endF_append t x true (k + 1) n h
      · rw [if_neg h1] at h ⊢
        by_cases h2 : c = 34
        · rw [if_pos h2] at h ⊢; exact h
        · rw [if_neg h2] at h ⊢; exact endF_append t x false (k + 1) n h
theorem tw_join (q : UInt8 → Bool) (c : UInt8) (t : List UInt8) (hc : q c = false) : ∀ l : List UInt8, (l ++ c :: t).takeWhile q = l.takeWhile q ∧ (l ++ c :: t).dropWhile q = l.dropWhile q ++ c :: t
  | [] => by simp [hc]
  | d :: l => by
    have := tw_join q c t hc l
    cases hd : q d <;> simp [hd, this]
theorem map_none {α β : Type} {f : α → β} {o : Option α} {b : β} (h : o.map f = some b) : ∃ a, o = some a ∧ f a = b := Option.map_eq_some_iff.1 h
theorem words_blank (t : List UInt8) : Txt.words (32 :: t) = Txt.words t := words_skip 32 t rfl
theorem words_join : ∀ (n : Nat) (s t : List UInt8) (a : List (List UInt8)), s.length ≤ n → Txt.words s = some a → Txt.words (s ++ 32 :: t) = (Txt.words t).map (a ++ ·)
  | _, [], t, a, _, h => by
    have : a = [] := by rw [words_nil [] rfl] at h; exact (Option.some.inj h).symm
    subst this
    rw [List.nil_append, words_blank]; simp
  | 0, c :: r, _, _, hn, _ => by simp at hn
  | n + 1, c :: r, t, a, hn, h => by
    simp only [List.length_cons] at hn
    by_cases hb : Txt.blank c = true
    · rw [words_skip c r hb] at h
      rw [List.cons_append, words_skip c _ hb]
      exact words_join n r t a (by omega) h
    · have hb' : Txt.blank c = false := by simpa using hb
      by_cases hc : c = 34
      · subst hc
        cases he : Txt.endF false 1 r with
        | none => rw [words_open r he] at h; cases h
        | some m =>
          have hm := endF_le r false 1 m he
          have he2 := endF_append r (32 :: t) false 1 m he
          have hd : ((34 :: r) ++ 32 :: t).drop m = (34 :: r).drop m ++ 32 :: t := List.drop_append_of_le_length (by simp only [List.length_cons]; omega)
          have ht : ((34 :: r) ++ 32 :: t).take m = (34 :: r).take m := List.take_append_of_le_length (by simp only [List.length_cons]; omega)
          cases hx : ((34 :: r).drop m).head?.any (fun x => !Txt.blank x) with
          | true => rw [words_stuck r m he hx] at h; cases h
          | false =>
            cases hu : Txt.unquote ((34 :: r).take m) with
            | none => rw [words_wrong r m he hx hu] at h; cases h
            | some w =>
              rw [words_quoted r w m he hx hu] at h
              obtain ⟨a', h1, rfl⟩ := map_none h
              have ih := words_join n ((34 :: r).drop m) t a' (by simp only [List.length_drop, List.length_cons]; omega) h1
              rw [List.cons_append, words_quoted (r ++ 32 :: t) w m he2 ?_ (by rw [← List.cons_append, ht]; exact hu), ← List.cons_append, hd, ih, Option.map_map]
              · congr 1
              · rw [← List.cons_append, hd]
                cases hq : (34 :: r).drop m with
                | nil => rfl
                | cons y z => rw [hq] at hx; exact hx
      · have hj := tw_join (fun x => !Txt.blank x) 32 t (by rfl) (c :: r)
        by_cases hm : (34 : UInt8) ∈ (c :: r).takeWhile (fun x => !Txt.blank x)
        · rw [words_bad c r hb' hc hm] at h; cases h
        · rw [words_bare c r hb' hc hm] at h
          obtain ⟨a', h1, rfl⟩ := map_none h
          have hlen : ((c :: r).dropWhile fun x => !Txt.blank x).length ≤ r.length := by
            rw [List.dropWhile_cons, if_pos (by simp [hb'])]; exact dropWhile_len _ r
          have ih := words_join n _ t a' (by omega) h1
          rw [List.cons_append, words_bare c (r ++ 32 :: t) hb' hc (by rw [← List.cons_append, hj.1]; exact hm), ← List.cons_append, hj.1, hj.2, ih, Option.map_map]
          congr 1
theorem words_two_lines (s t : List UInt8) (a b : List (List UInt8)) (h1 : Txt.words s = some a) (h2 : Txt.words t = some b) : Txt.words (s ++ 32 :: t) = some (a ++ b) := by
  rw [words_join s.length s t a (Nat.le_refl _) h1, h2]; rfl

/-! ### One word -/
theorem plain_iff (r : Int) : Txt.plainTok r = true ↔ 33 ≤ r ∧ r ≠ 34 ∧ r ≠ 127 := by
  simp [Txt.plainTok]; omega
/-- The bytes of a plain token. -/
theorem plain_byte (t : Int × List UInt8) (h : Txt.Shape t) (hp : Txt.plainTok t.1 = true) : ∀ c ∈ t.2, Txt.blank c = false ∧ c ≠ 34 := by
  obtain ⟨r, bs⟩ := t
  obtain ⟨p1, p2, p3⟩ := (plain_iff r).1 hp
  intro c hc
  rcases h with ⟨h1, _⟩ | ⟨h0, h1, h2⟩ | ⟨_, _, _, _, _, h2⟩
  · simp only at h1; omega
  · simp only at h0 h1 h2 hc
    rw [h2] at hc
    obtain rfl : c = r.toNat.toUInt8 := by simpa using hc
    have e : (r.toNat.toUInt8).toNat = r.toNat := by simp; omega
    have n32 : r.toNat.toUInt8 ≠ 32 := fun x => by have := congrArg UInt8.toNat x; rw [e] at this; simp at this; omega
    have n9 : r.toNat.toUInt8 ≠ 9 := fun x => by have := congrArg UInt8.toNat x; rw [e] at this; simp at this; omega
    have n34 : r.toNat.toUInt8 ≠ 34 := fun x => by have := congrArg UInt8.toNat x; rw [e] at this; simp at this; omega
    exact ⟨by simp [Txt.blank, n32, n9], n34⟩
  · have := h2 c hc
    have n32 : c ≠ 32 := fun x => by rw [x] at this; exact absurd this (by decide)
    have n9 : c ≠ 9 := fun x => by rw [x] at this; exact absurd this (by decide)
    have n34 : c ≠ 34 := fun x => by rw [x] at this; exact absurd this (by decide)
    exact ⟨by simp [Txt.blank, n32, n9], n34⟩
theorem bare_bytes (l : List UInt8) (h : Txt.bare l = true) : l ≠ [] ∧ ∀ c ∈ l, Txt.blank c = false ∧ c ≠ 34 := by
  rw [Txt.bare, Bool.and_eq_true] at h
  refine ⟨by simpa using h.1, fun c hc => ?_⟩
  rw [← Txt.toks_flat l] at hc
  obtain ⟨t, ht, hct⟩ := List.mem_flatMap.1 hc
  exact plain_byte t (Txt.shape_of l t ht) (List.all_eq_true.1 h.2 t ht) c hct
theorem tw_all (q : UInt8 → Bool) : ∀ l : List UInt8, (∀ c ∈ l, q c = true) → l.takeWhile q = l ∧ l.dropWhile q = []
  | [], _ => ⟨rfl, rfl⟩
  | c :: l, h => by
    have := tw_all q l (fun d hd => h d (by simp [hd]))
    simp [h c (by simp), this]
theorem words_bare_all (l : List UInt8) (h : Txt.bare l = true) : Txt.words l = some [l] := by
  obtain ⟨h1, h2⟩ := bare_bytes l h
  obtain ⟨e1, e2⟩ := tw_all (fun x => !Txt.blank x) l (fun c hc => by simp [(h2 c hc).1])
  match l, h1, h2, e1, e2 with
  | c :: t, _, h2, e1, e2 =>
    rw [words_bare c t (h2 c (by simp)).1 (h2 c (by simp)).2 (by rw [e1]; exact fun hm => (h2 34 hm).2 rfl), e1, e2, words_nil [] rfl]
    rfl

/-! ### A quote -/
theorem hexd_val (k : Fin 16) : Txt.hexd k.val ≠ 92 ∧ Txt.hexd k.val ≠ 34 ∧ 32 ≤ (Txt.hexd k.val).toNat ∧ (Txt.hexd k.val).toNat < 127 := by revert k; decide
theorem endF_byte (c : UInt8) (k : Nat) (t : List UInt8) (h1 : c ≠ 92) (h2 : c ≠ 34) : Txt.endF false k (c :: t) = Txt.endF false (k + 1) t := by
  rw [Txt.endF, if_neg (by simp), if_neg h1, if_neg h2]
theorem endF_sign (c : UInt8) (k : Nat) (t : List UInt8) : Txt.endF false k (92 :: c :: t) = Txt.endF false (k + 2) t := by
  rw [Txt.endF, if_neg (by simp), if_pos rfl, Txt.endF, if_pos rfl]
/-- What a token stands as in a quote. -/
theorem qtok_forms (t : Int × List UInt8) (h : Txt.Shape t) :
    (∃ c : UInt8, t.2 = [c] ∧ Txt.qtok t = [92, 120, Txt.hexd (c.toNat / 16), Txt.hexd (c.toNat % 16)]) ∨ Txt.qtok t = [92, 110] ∨ Txt.qtok t = [92, 34] ∨ Txt.qtok t = [92, 92] ∨
    (Txt.qtok t = t.2 ∧ t.1 ≠ 34 ∧ t.1 ≠ 92 ∧ 32 ≤ t.1 ∧ t.1 ≠ 127) := by
  obtain ⟨n, bs⟩ := t
  by_cases hb : Txt.bad n = true
  · obtain ⟨c, rfl⟩ : ∃ c, bs = [c] := by
      rcases h with ⟨_, c, h, _⟩ | ⟨_, _, h⟩ | ⟨h1, _⟩
      · exact ⟨c, h⟩
      · exact ⟨_, h⟩
      · simp only at h1; simp [Txt.bad] at hb; omega
    exact .inl ⟨c, rfl, by rw [qtok_bad _ _ hb]; rfl⟩
  · have hb' : Txt.bad n = false := by simpa using hb
    by_cases h10 : n = 10
    · subst h10; exact .inr (.inl rfl)
    · by_cases h34 : n = 34
      · subst h34; exact .inr (.inr (.inl rfl))
      · by_cases h92 : n = 92
        · subst h92; exact .inr (.inr (.inr (.inl rfl)))
        · refine .inr (.inr (.inr (.inr ⟨qtok_else _ _ hb' h10 h34 h92, h34, h92, ?_⟩)))
          simp only [Txt.bad, Bool.or_eq_false_iff, Bool.and_eq_false_iff, decide_eq_false_iff_not, bne_eq_false_iff_eq, beq_eq_false_iff_ne] at hb'
          exact ⟨by rcases hb'.1 with h | h <;> omega, hb'.2⟩
theorem endF_qtok (t : Int × List UInt8) (h : Txt.Shape t) (k : Nat) (r : List UInt8) : Txt.endF false k (Txt.qtok t ++ r) = Txt.endF false (k + (Txt.qtok t).length) r := by
  rcases qtok_forms t h with ⟨c, _, e⟩ | e | e | e | ⟨e, h1, h2, h3, _⟩
  · have hc := c.toNat_lt
    have a1 := hexd_val ⟨c.toNat / 16, by omega⟩
    have a2 := hexd_val ⟨c.toNat % 16, by omega⟩
    rw [e]
    show Txt.endF false k (92 :: 120 :: Txt.hexd (c.toNat / 16) :: Txt.hexd (c.toNat % 16) :: r) = _
    rw [endF_sign, endF_byte _ _ _ a1.1 a1.2.1, endF_byte _ _ _ a2.1 a2.2.1]
    rfl
  · rw [e]; exact endF_sign 110 k r
  · rw [e]; exact endF_sign 34 k r
  · rw [e]; exact endF_sign 92 k r
  · rw [e]
    obtain ⟨n, bs⟩ := t
    have := endF_tok n bs r k h false
    rw [if_neg (by simp), if_neg h2, if_neg h1] at this
    exact this
theorem endF_qtoks : ∀ (ts : List (Int × List UInt8)) (k : Nat) (r : List UInt8), (∀ t ∈ ts, Txt.Shape t) → Txt.endF false k (Txt.qtoks ts ++ r) = Txt.endF false (k + (Txt.qtoks ts).length) r
  | [], _, _, _ => rfl
  | t :: ts, k, r, h => by
    have e : Txt.qtoks (t :: ts) = Txt.qtok t ++ Txt.qtoks ts := rfl
    rw [e, List.append_assoc, endF_qtok t (h t (by simp)), endF_qtoks ts _ r (fun u hu => h u (by simp [hu])), List.length_append, Nat.add_assoc]
theorem words_quote (w : List UInt8) : Txt.words (Txt.quote w) = some [w] := by
  have e : Txt.endF false 1 (Txt.qbody w ++ [34]) = some (Txt.quote w).length := by
    rw [Txt.qbody, endF_qtoks _ 1 [34] (Txt.shape_of w), Txt.endF, if_neg (by simp), if_neg (by decide), if_pos rfl]
    simp [Txt.quote, Txt.qbody]; omega
  have ed : (34 :: (Txt.qbody w ++ [34])).drop (Txt.quote w).length = [] := List.drop_eq_nil_of_le (Nat.le_refl _)
  have et : (34 :: (Txt.qbody w ++ [34])).take (Txt.quote w).length = Txt.quote w := List.take_of_length_le (Nat.le_refl _)
  rw [Txt.quote, words_quoted _ w _ e (by rw [ed]; rfl) (by rw [et]; exact unq_quote _ reads_R w), ed, words_nil [] rfl]
  rfl
theorem words_word (w : List UInt8) : Txt.words (Txt.word w) = some [w] := by
  unfold Txt.word
  split
  · rename_i h; exact words_bare_all w h
  · exact words_quote w
theorem words_line : ∀ ws : List (List UInt8), Txt.words (Txt.line ws) = some ws
  | [] => words_nil [] rfl
  | [w] => words_word w
  | w :: v :: r => words_two_lines (Txt.word w) (Txt.line (v :: r)) [w] (v :: r) (words_word w) (words_line (v :: r))

/-- The bytes of a quote are from 32 on, and not 127. -/
theorem qtok_bytes (t : Int × List UInt8) (h : Txt.Shape t) : ∀ c ∈ Txt.qtok t, 32 ≤ c.toNat ∧ c.toNat ≠ 127 := by
  intro x hx
  rcases qtok_forms t h with ⟨c, _, e⟩ | e | e | e | ⟨e, h1, h2, h3, h4⟩
  · have hc := c.toNat_lt
    have a1 := hexd_val ⟨c.toNat / 16, by omega⟩
    have a2 := hexd_val ⟨c.toNat % 16, by omega⟩
    simp only at a1 a2
    rw [e] at hx
    simp only [List.mem_cons, List.not_mem_nil, or_false] at hx
    rcases hx with rfl | rfl | rfl | rfl
    · decide
    · decide
    · exact ⟨a1.2.2.1, by omega⟩
    · exact ⟨a2.2.2.1, by omega⟩
  · rw [e] at hx; simp only [List.mem_cons, List.not_mem_nil, or_false] at hx; rcases hx with rfl | rfl <;> decide
  · rw [e] at hx; simp only [List.mem_cons, List.not_mem_nil, or_false] at hx; rcases hx with rfl | rfl <;> decide
  · rw [e] at hx; simp only [List.mem_cons, List.not_mem_nil, or_false] at hx; rcases hx with rfl | rfl <;> decide
  · rw [e] at hx
    obtain ⟨r, bs⟩ := t
    rcases h with ⟨g1, _⟩ | ⟨g0, g1, g2⟩ | ⟨_, _, _, _, _, g2⟩
    · simp only at g1 h3; omega
    · simp only at g0 g1 g2 hx h3 h4
      rw [g2] at hx
      obtain rfl : x = r.toNat.toUInt8 := by simpa using hx
      have e : (r.toNat.toUInt8).toNat = r.toNat := by simp; omega
      rw [e]; omega
    · have := g2 x hx
      omega
theorem quote_bytes (l : List UInt8) : ∀ c ∈ Txt.quote l, 32 ≤ c.toNat ∧ c.toNat ≠ 127 := by
  intro c hc
  simp only [Txt.quote, List.mem_cons, List.mem_append, List.not_mem_nil, or_false] at hc
  rcases hc with rfl | hc | rfl
  · decide
  · obtain ⟨t, ht, hct⟩ := List.mem_flatMap.1 hc
    exact qtok_bytes t (Txt.shape_of l t ht) c hct
  · decide

/-! ### Names -/
theorem named_plain (r : Int) (h : Txt.named r = true) : Txt.plainTok r = true := by
  rw [plain_iff]
  rcases named_cases h with h | h | h | h | h | h | h <;> omega
theorem name_bare (l : List UInt8) (h : Txt.name l = true) : Txt.bare l = true := by
  rw [Txt.name, Bool.and_eq_true, Bool.and_eq_true] at h
  rw [Txt.bare, Bool.and_eq_true]
  refine ⟨?_, List.all_eq_true.2 fun t ht => named_plain _ (List.all_eq_true.1 h.2 t ht)⟩
  cases l with
  | nil => simp [Txt.toks_nil] at h
  | cons c t => rfl
theorem name_words (l : List UInt8) (h : Txt.name l = true) : Txt.words l = some [l] := words_bare_all l (name_bare l h)
theorem name_line (l : List UInt8) (h : Txt.name l = true) : Txt.line [l] = l := by
  rw [Txt.line, Txt.word, if_pos (name_bare l h)]
theorem name_short (l : List UInt8) (h : Txt.name l = true) : (Txt.toks l).length ≤ 32 := by
  rw [Txt.name, Bool.and_eq_true, Bool.and_eq_true] at h
  simpa using h.1.2
theorem toks_one (c : UInt8) : (c.toNat < 128 ∧ Txt.toks [c] = [((c.toNat : Int), [c])]) ∨ (128 ≤ c.toNat ∧ Txt.toks [c] = [(-1, [c])]) := by
  rw [Txt.toks_cons]
  rcases Txt.tok_cases c [] with ⟨e, h1⟩ | ⟨e, h1⟩ | ⟨b1, t, h, _⟩ | ⟨b1, b2, t, h, _⟩ | ⟨b1, b2, b3, t, h, _⟩
  · exact .inr ⟨h1, by rw [e]; rfl⟩
  · exact .inl ⟨h1, by rw [e]; rfl⟩
  · cases h
  · cases h
  · cases h
theorem name_one (c : UInt8) : Txt.name [c] = (decide (c.toNat < 128) && Txt.named c.toNat) := by
  rcases toks_one c with ⟨h, e⟩ | ⟨h, e⟩
  · simp [Txt.name, e, h]
  · have : ¬ c.toNat < 128 := by omega
    simp [Txt.name, e, this]; decide
theorem name_more (l : List UInt8) (c : UInt8) (h : Txt.name l = true) (hc : c.toNat < 128) :
    Txt.name (l ++ [c]) = (Txt.named c.toNat && decide ((Txt.toks l).length < 32)) ∧ Txt.name (c :: l) = (Txt.named c.toNat && decide ((Txt.toks l).length < 32)) := by
  have e1 : Txt.toks (l ++ [c]) = Txt.toks l ++ [((c.toNat : Int), [c])] := by
    rw [Txt.toks_join l [c] (Txt.fresh_ascii c [] hc), Txt.toks_ascii c [] hc, Txt.toks_nil]
  have e2 := Txt.toks_ascii c l hc
  have h2 := h
  rw [Txt.name, Bool.and_eq_true, Bool.and_eq_true] at h2
  have h3 : 1 ≤ (Txt.toks l).length := by simpa using h2.1.1
  have h4 := h2.2
  have d1 : decide ((Txt.toks l).length + 1 ≤ 32) = decide ((Txt.toks l).length < 32) := rfl
  constructor
  · rw [Txt.name, e1, List.length_append, List.all_append, h4]
    simp only [List.length_cons, List.length_nil, List.all_cons, List.all_nil, Bool.true_and, Bool.and_true, Nat.zero_add, d1]
    rw [show decide (1 ≤ (Txt.toks l).length + 1) = true by simp, Bool.true_and, Bool.and_comm]
  · rw [Txt.name, e2]
    simp only [List.length_cons, List.all_cons, h4, Bool.and_true, d1]
    rw [show decide (1 ≤ (Txt.toks l).length + 1) = true by simp, Bool.true_and, Bool.and_comm]

/-! ### The runes of two texts -/
theorem runes_bar (s t : List UInt8) : Txt.runes (s ++ 124 :: t) = Txt.runes (s ++ [124]) ++ Txt.runes t := by
  have e1 := Txt.toks_join s (124 :: t) (Txt.fresh_ascii 124 t (by decide))
  have e2 := Txt.toks_join s [124] (Txt.fresh_ascii 124 [] (by decide))
  rw [Txt.toks_ascii 124 t (by decide)] at e1
  rw [Txt.toks_ascii 124 [] (by decide), Txt.toks_nil] at e2
  simp [Txt.runes, e1, e2]
theorem runes_bounds (l : List UInt8) : ∀ r ∈ Txt.runes l, -1 ≤ r ∧ r ≤ 1114111 := by
  intro r hr
  obtain ⟨t, ht, rfl⟩ := List.mem_map.1 hr
  rcases Txt.shape_of l t ht with ⟨h, _⟩ | ⟨h, h2, _⟩ | ⟨h, h2, _⟩ <;> omega
def wideN (l : List Int) : Nat := (l.filter fun r => decide (128 ≤ r)).length
theorem wide_le : ∀ (ts : List (Int × List UInt8)), (∀ t ∈ ts, Txt.Shape t) → (ts.map (·.1)).length + wideN (ts.map (·.1)) ≤ (ts.flatMap (·.2)).length
  | [], _ => by simp [wideN]
  | t :: ts, h => by
    have ih := wide_le ts (fun u hu => h u (by simp [hu]))
    have h1 := h t (by simp)
    simp only [List.map_cons, List.length_cons, List.flatMap_cons, List.length_append, wideN, List.filter_cons] at ih ⊢
    rcases h1 with ⟨g1, b, g2, _⟩ | ⟨g0, g1, g2⟩ | ⟨g0, _, _, g2, _⟩
    · rw [if_neg (by simp; omega), g2]; simp only [List.length_cons, List.length_nil]; omega
    · rw [if_neg (by simp; omega), g2]; simp only [List.length_cons, List.length_nil]; omega
    · rw [if_pos (by simp; omega)]; simp only [List.length_cons]; omega
theorem runes_wide (l : List UInt8) : (Txt.runes l).length + wideN (Txt.runes l) ≤ l.length := by
  have := wide_le (Txt.toks l) (Txt.shape_of l)
  rw [Txt.toks_flat] at this
  exact this
theorem wideN_step (l : List Int) (i : Nat) (h : i < l.length) : wideN (l.take (i + 1)) = wideN (l.take i) + if 128 ≤ l[i] then 1 else 0 := by
  rw [← List.take_append_getElem h]
  simp only [wideN, List.filter_append, List.length_append, List.filter_cons, List.filter_nil]
  congr 1
  by_cases g : (128 : Int) ≤ l[i] <;> simp [g]
theorem wideN_take_le (l : List Int) (i : Nat) : wideN (l.take i) ≤ l.length := by
  unfold wideN
  exact Nat.le_trans (List.length_filter_le _ _) (List.length_take_le' i l)
end Go.Proofs.YthnhnaaihhagaaaDoor
