/-
  Plain Lean, no program in sight: the runes of a text, token by token, and its quote.
-/
import Derived.Lib.RuneBytes
import Derived.Lib.DecodeN
namespace Go.Proofs.YthmblkckpdpjkaaGreatDoor.Txt
open Go.Lib (decodeN encodeRune encodeRuneZ)

/-- The first token of bytes: its number (-1: none begins there) and how many bytes it has. -/
def tok (l : List UInt8) : Int × Nat :=
  let d := decodeN l.length (l.getD 0 0).toNat (l.getD 1 0).toNat (l.getD 2 0).toNat (l.getD 3 0).toNat
  if d.1 = 65533 ∧ d.2 = 1 then (-1, 1) else ((d.1 : Int), d.2)

def toksF : Nat → List UInt8 → List (Int × List UInt8)
  | 0, _ => []
  | _ + 1, [] => []
  | f + 1, b :: l => ((tok (b :: l)).1, (b :: l).take (tok (b :: l)).2) :: toksF f ((b :: l).drop (tok (b :: l)).2)
def toks (l : List UInt8) : List (Int × List UInt8) := toksF l.length l
def runes (l : List UInt8) : List Int := (toks l).map (·.1)

theorem u8_lt (b : UInt8) : b.toNat < 256 := b.toNat_lt
theorem u8_eq {a b : UInt8} (h : a.toNat = b.toNat) : a = b := UInt8.toNat_inj.1 h

/-- What the first token may be. -/
theorem tok_cases (b : UInt8) (l : List UInt8) :
    (tok (b :: l) = (-1, 1) ∧ 128 ≤ b.toNat) ∨
    (tok (b :: l) = ((b.toNat : Int), 1) ∧ b.toNat < 128) ∨
    (∃ b1 t, l = b1 :: t ∧ 192 ≤ b.toNat ∧ b.toNat < 224 ∧ b1.toNat / 64 = 2 ∧ 128 ≤ b.toNat % 32 * 64 + b1.toNat % 64 ∧
      tok (b :: l) = (((b.toNat % 32 * 64 + b1.toNat % 64 : Nat) : Int), 2)) ∨
    (∃ b1 b2 t, l = b1 :: b2 :: t ∧ 224 ≤ b.toNat ∧ b.toNat < 240 ∧ b1.toNat / 64 = 2 ∧ b2.toNat / 64 = 2 ∧
      2048 ≤ b.toNat % 16 * 4096 + b1.toNat % 64 * 64 + b2.toNat % 64 ∧
      (b.toNat % 16 * 4096 + b1.toNat % 64 * 64 + b2.toNat % 64 < 55296 ∨ 57344 ≤ b.toNat % 16 * 4096 + b1.toNat % 64 * 64 + b2.toNat % 64) ∧
      tok (b :: l) = (((b.toNat % 16 * 4096 + b1.toNat % 64 * 64 + b2.toNat % 64 : Nat) : Int), 3)) ∨
    (∃ b1 b2 b3 t, l = b1 :: b2 :: b3 :: t ∧ 240 ≤ b.toNat ∧ b.toNat < 248 ∧ b1.toNat / 64 = 2 ∧ b2.toNat / 64 = 2 ∧ b3.toNat / 64 = 2 ∧
      65536 ≤ b.toNat % 8 * 262144 + b1.toNat % 64 * 4096 + b2.toNat % 64 * 64 + b3.toNat % 64 ∧
      b.toNat % 8 * 262144 + b1.toNat % 64 * 4096 + b2.toNat % 64 * 64 + b3.toNat % 64 ≤ 1114111 ∧
      tok (b :: l) = (((b.toNat % 8 * 262144 + b1.toNat % 64 * 4096 + b2.toNat % 64 * 64 + b3.toNat % 64 : Nat) : Int), 4)) := by
  have hb := u8_lt b
  by_cases h0 : b.toNat < 128
  · refine .inr (.inl ⟨?_, h0⟩)
    have : b.toNat ≠ 65533 := by omega
    simp [tok, decodeN, h0, this]
  by_cases h2 : b.toNat / 32 = 6 ∧ (1 < (b :: l).length ∧ ((b :: l).getD 1 0).toNat / 64 = 2) ∧ b.toNat % 32 * 64 + ((b :: l).getD 1 0).toNat % 64 ≥ 128
  · obtain ⟨e1, ⟨e2, e3⟩, e4⟩ := h2
    match l, e2, e3, e4 with
    | b1 :: t, _, e3, e4 =>
      simp only [List.getD_cons_succ, List.getD_cons_zero] at e3 e4
      refine .inr (.inr (.inl ⟨b1, t, rfl, by omega, by omega, e3, e4, ?_⟩))
      have hne : ¬ (b.toNat % 32 * 64 + b1.toNat % 64 = 65533) := by omega
      simp [tok, decodeN, h0, e1, e3, e4, hne]
  by_cases h3 : b.toNat / 16 = 14 ∧ (1 < (b :: l).length ∧ ((b :: l).getD 1 0).toNat / 64 = 2) ∧ (2 < (b :: l).length ∧ ((b :: l).getD 2 0).toNat / 64 = 2) ∧ b.toNat % 16 * 4096 + ((b :: l).getD 1 0).toNat % 64 * 64 + ((b :: l).getD 2 0).toNat % 64 ≥ 2048 ∧ (b.toNat % 16 * 4096 + ((b :: l).getD 1 0).toNat % 64 * 64 + ((b :: l).getD 2 0).toNat % 64 < 55296 ∨ (57344 ≤ b.toNat % 16 * 4096 + ((b :: l).getD 1 0).toNat % 64 * 64 + ((b :: l).getD 2 0).toNat % 64))
  · obtain ⟨e1, ⟨e2, e3⟩, ⟨e4, e5⟩, e6, e7⟩ := h3
    match l, e2, e3, e4, e5, e6, e7 with
    | b1 :: b2 :: t, _, e3, _, e5, e6, e7 =>
      simp only [List.getD_cons_succ, List.getD_cons_zero] at e3 e5 e6 e7
      refine .inr (.inr (.inr (.inl ⟨b1, b2, t, rfl, by omega, by omega, e3, e5, e6, e7, ?_⟩)))
      have e0 : ¬ b.toNat / 32 = 6 := by omega
      have e8 : b.toNat % 16 * 4096 + b1.toNat % 64 * 64 + b2.toNat % 64 ≤ 1114111 := by omega
      simp [tok, decodeN, h0, e0, e1, e3, e5, e6, e7, e8]
  by_cases h4 : b.toNat / 8 = 30 ∧ (1 < (b :: l).length ∧ ((b :: l).getD 1 0).toNat / 64 = 2) ∧ (2 < (b :: l).length ∧ ((b :: l).getD 2 0).toNat / 64 = 2) ∧ (3 < (b :: l).length ∧ ((b :: l).getD 3 0).toNat / 64 = 2) ∧ b.toNat % 8 * 262144 + ((b :: l).getD 1 0).toNat % 64 * 4096 + ((b :: l).getD 2 0).toNat % 64 * 64 + ((b :: l).getD 3 0).toNat % 64 ≥ 65536 ∧ b.toNat % 8 * 262144 + ((b :: l).getD 1 0).toNat % 64 * 4096 + ((b :: l).getD 2 0).toNat % 64 * 64 + ((b :: l).getD 3 0).toNat % 64 ≤ 1114111
  · obtain ⟨e1, ⟨e2, e3⟩, ⟨e4, e5⟩, ⟨e6, e7⟩, e8, e9⟩ := h4
    rcases l with _ | ⟨b1, _ | ⟨b2, _ | ⟨b3, t⟩⟩⟩
    · simp at e2
    · simp at e4
    · simp at e6
    · simp only [List.getD_cons_succ, List.getD_cons_zero] at e3 e5 e7 e8 e9
      clear h2 h3 e2 e4 e6
      refine .inr (.inr (.inr (.inr ⟨b1, b2, b3, t, rfl, by omega, by omega, e3, e5, e7, e8, e9, ?_⟩)))
      have e0 : ¬ b.toNat / 32 = 6 := by omega
      have e0' : ¬ b.toNat / 16 = 14 := by omega
      have ea : b.toNat % 8 * 262144 + b1.toNat % 64 * 4096 + b2.toNat % 64 * 64 + b3.toNat % 64 < 55296 ∨ 57344 ≤ b.toNat % 8 * 262144 + b1.toNat % 64 * 4096 + b2.toNat % 64 * 64 + b3.toNat % 64 := by omega
      simp [tok, decodeN, h0, e0, e0', e1, e3, e5, e7, e8, e9, ea]
  · refine .inl ⟨?_, by omega⟩
    have e : decodeN (b :: l).length ((b :: l).getD 0 0).toNat ((b :: l).getD 1 0).toNat ((b :: l).getD 2 0).toNat ((b :: l).getD 3 0).toNat = (65533, 1) := by
      simp only [decodeN, List.getD_cons_zero, if_neg h0]
      split
      · rename_i g; rw [if_neg (fun g' => h2 ⟨g.1, g.2, g'⟩)]
      · split
        · rename_i g
          rw [if_neg (fun g' => h3 ⟨g.1, g.2.1, g.2.2, g'.1, by omega⟩)]
        · split
          · rename_i g
            rw [if_neg (fun g' => h4 ⟨g.1, g.2.1, g.2.2.1, g.2.2.2, g'.1, by omega⟩)]
          · rfl
    simp only [tok, e]
    simp

theorem tok_width (b : UInt8) (l : List UInt8) : 1 ≤ (tok (b :: l)).2 ∧ (tok (b :: l)).2 ≤ 4 ∧ (tok (b :: l)).2 ≤ (b :: l).length := by
  rcases tok_cases b l with ⟨h, _⟩ | ⟨h, _⟩ | ⟨b1, t, rfl, _, _, _, _, h⟩ | ⟨b1, b2, t, rfl, _, _, _, _, _, _, h⟩ | ⟨b1, b2, b3, t, rfl, _, _, _, _, _, _, _, h⟩ <;> simp [h] <;> omega
theorem tok_num (b : UInt8) (l : List UInt8) : -1 ≤ (tok (b :: l)).1 ∧ (tok (b :: l)).1 ≤ 1114111 := by
  rcases tok_cases b l with ⟨h, _⟩ | ⟨h, _⟩ | ⟨b1, t, rfl, _, _, _, _, h⟩ | ⟨b1, b2, t, rfl, _, _, _, _, _, _, h⟩ | ⟨b1, b2, b3, t, rfl, _, _, _, _, _, _, _, h⟩ <;> simp only [h] <;> omega

/-- How the fuel does not matter. -/
theorem toksF_fuel : ∀ (f g : Nat) (l : List UInt8), l.length ≤ f → l.length ≤ g → toksF f l = toksF g l
  | 0, g, l, h, _ => by
    have : l = [] := List.eq_nil_of_length_eq_zero (by omega)
    subst this; cases g <;> rfl
  | f + 1, 0, l, _, h => by
    have : l = [] := List.eq_nil_of_length_eq_zero (by omega)
    subst this; rfl
  | f + 1, g + 1, [], _, _ => rfl
  | f + 1, g + 1, b :: l, hf, hg => by
    have hw := tok_width b l
    simp only [toksF]
    rw [toksF_fuel f g]
    · simp only [List.length_drop, List.length_cons] at *; omega
    · simp only [List.length_drop, List.length_cons] at *; omega
theorem toks_nil : toks [] = [] := rfl
theorem toks_cons (b : UInt8) (l : List UInt8) :
    toks (b :: l) = ((tok (b :: l)).1, (b :: l).take (tok (b :: l)).2) :: toks ((b :: l).drop (tok (b :: l)).2) := by
  have hw := tok_width b l
  show toksF (l.length + 1) (b :: l) = _
  simp only [toksF, toks]
  rw [toksF_fuel l.length]
  · simp only [List.length_drop, List.length_cons]; omega
  · omega

/-- The bytes of all tokens are the text's. -/
theorem toks_bytes : ∀ (n : Nat) (l : List UInt8), l.length ≤ n → (toks l).flatMap (·.2) = l
  | 0, l, h => by
    have : l = [] := List.eq_nil_of_length_eq_zero (by omega)
    subst this; rfl
  | n + 1, [], _ => rfl
  | n + 1, b :: l, h => by
    have hw := tok_width b l
    rw [toks_cons, List.flatMap_cons, toks_bytes n]
    · exact List.take_append_drop _ _
    · simp only [List.length_drop, List.length_cons] at *; omega
theorem toks_flat (l : List UInt8) : (toks l).flatMap (·.2) = l := toks_bytes l.length l (Nat.le_refl _)

/-- A token's shape: what its number says of its bytes. -/
def Shape (t : Int × List UInt8) : Prop :=
  (t.1 = -1 ∧ ∃ b : UInt8, t.2 = [b] ∧ 128 ≤ b.toNat) ∨
  (0 ≤ t.1 ∧ t.1 < 128 ∧ t.2 = [t.1.toNat.toUInt8]) ∨
  (128 ≤ t.1 ∧ t.1 ≤ 1114111 ∧ t.2 = encodeRune t.1 ∧ 2 ≤ t.2.length ∧ t.2.length ≤ 4 ∧ ∀ b ∈ t.2, 128 ≤ b.toNat)

theorem toU8_of (b : UInt8) (n : Nat) (h : b.toNat = n) : n.toUInt8 = b := by
  apply u8_eq; subst h; simp

theorem cont_of (b : UInt8) (h : b.toNat / 64 = 2) : b.toNat = 128 + b.toNat % 64 := by omega
theorem lt64 (n : Nat) : n % 64 < 64 := Nat.mod_lt _ (by decide)
theorem shape_wide (v : Nat) (l : List UInt8) (n : Nat) (h1 : 128 ≤ v) (h2 : v ≤ 1114111) (he : encodeRune (v : Int) = l.take n) (h3 : 2 ≤ (l.take n).length) (h4 : (l.take n).length ≤ 4)
    (h5 : ∀ b ∈ l.take n, 128 ≤ b.toNat) : Shape ((v : Int), l.take n) :=
  .inr (.inr ⟨by show (128 : Int) ≤ v; omega, by show (v : Int) ≤ 1114111; omega, he.symm, h3, h4, h5⟩)

theorem tok_shape (b : UInt8) (l : List UInt8) : Shape ((tok (b :: l)).1, (b :: l).take (tok (b :: l)).2) := by
  have hb := u8_lt b
  rcases tok_cases b l with ⟨h, h1⟩ | ⟨h, h1⟩ | ⟨b1, t, rfl, h1, h2, h3, h4, h⟩ | ⟨b1, b2, t, rfl, h1, h2, h3, h4, h5, h6, h⟩ | ⟨b1, b2, b3, t, rfl, h1, h2, h3, h4, h5, h6, h7, h⟩
  · exact .inl ⟨by rw [h], b, by rw [h]; rfl, h1⟩
  · exact .inr (.inl ⟨by rw [h]; simp, by rw [h]; simp; omega, by rw [h]; simp⟩)
  · have c1 := cont_of b1 h3
    have eb : b.toNat = 192 + b.toNat % 32 := by omega
    have l1 := lt64 b1.toNat
    have hx : b.toNat % 32 < 32 := Nat.mod_lt _ (by decide)
    rw [h]
    clear h
    generalize b.toNat % 32 = x at *
    generalize b1.toNat % 64 = y at *
    obtain ⟨v, hv⟩ : ∃ v, v = x * 64 + y := ⟨_, rfl⟩
    rw [← hv] at h4 ⊢
    have eA : (192 + (v : Int) / 64).toNat = b.toNat := by omega
    have eB : (128 + (v : Int) % 64).toNat = b1.toNat := by omega
    refine shape_wide v _ _ h4 (by omega) ?_ (by simp) (by simp) ?_
    · rw [encodeRune, Go.Lib.encodeRuneZ_two (by omega) (by omega)]
      simp only [List.map_cons, List.map_nil, eA, eB, toU8_of b _ rfl, toU8_of b1 _ rfl, List.take_succ_cons, List.take_zero]
    · simp only [List.take_succ_cons, List.take_zero, List.mem_cons, List.not_mem_nil, or_false, forall_eq_or_imp, forall_eq]
      clear eA eB
      exact ⟨by omega, by omega⟩
  · have c1 := cont_of b1 h3
    have c2 := cont_of b2 h4
    have eb : b.toNat = 224 + b.toNat % 16 := by omega
    have hx : b.toNat % 16 < 16 := Nat.mod_lt _ (by decide)
    have l1 := lt64 b1.toNat
    have l2 := lt64 b2.toNat
    rw [h]
    clear h
    generalize b.toNat % 16 = x at *
    generalize b1.toNat % 64 = y at *
    generalize b2.toNat % 64 = z at *
    obtain ⟨v, hv⟩ : ∃ v, v = x * 4096 + y * 64 + z := ⟨_, rfl⟩
    rw [← hv] at h5 h6 ⊢
    have eA : (224 + (v : Int) / 4096).toNat = b.toNat := by omega
    have eB : (128 + (v : Int) / 64 % 64).toNat = b1.toNat := by omega
    have eC : (128 + (v : Int) % 64).toNat = b2.toNat := by omega
    refine shape_wide v _ _ (Nat.le_trans (by decide) h5) (by omega) ?_ (by simp) (by simp) ?_
    · rw [encodeRune, Go.Lib.encodeRuneZ_three (by omega)]
      simp only [List.map_cons, List.map_nil, eA, eB, eC, toU8_of b _ rfl, toU8_of b1 _ rfl, toU8_of b2 _ rfl, List.take_succ_cons, List.take_zero]
    · simp only [List.take_succ_cons, List.take_zero, List.mem_cons, List.not_mem_nil, or_false, forall_eq_or_imp, forall_eq]
      clear eA eB eC h5 h6 hv
      exact ⟨by omega, by omega, by omega⟩
  · have c1 := cont_of b1 h3
    have c2 := cont_of b2 h4
    have c3 := cont_of b3 h5
    have eb : b.toNat = 240 + b.toNat % 8 := by omega
    have l1 := lt64 b1.toNat
    have l2 := lt64 b2.toNat
    have l3 := lt64 b3.toNat
    rw [h]
    clear h
    generalize b.toNat % 8 = x at *
    generalize b1.toNat % 64 = y at *
    generalize b2.toNat % 64 = z at *
    generalize b3.toNat % 64 = u at *
    obtain ⟨v, hv⟩ : ∃ v, v = x * 262144 + y * 4096 + z * 64 + u := ⟨_, rfl⟩
    rw [← hv] at h6 h7 ⊢
    have eA : (240 + (v : Int) / 262144).toNat = b.toNat := by omega
    have eB : (128 + (v : Int) / 4096 % 64).toNat = b1.toNat := by omega
    have eC : (128 + (v : Int) / 64 % 64).toNat = b2.toNat := by omega
    have eD : (128 + (v : Int) % 64).toNat = b3.toNat := by omega
    refine shape_wide v _ _ (Nat.le_trans (by decide) h6) h7 ?_ (by simp) (by simp) ?_
    · rw [encodeRune, Go.Lib.encodeRuneZ_four (by omega) (by omega)]
      simp only [List.map_cons, List.map_nil, eA, eB, eC, eD, toU8_of b _ rfl, toU8_of b1 _ rfl, toU8_of b2 _ rfl, toU8_of b3 _ rfl, List.take_succ_cons, List.take_zero]
    · simp only [List.take_succ_cons, List.take_zero, List.mem_cons, List.not_mem_nil, or_false, forall_eq_or_imp, forall_eq]
      clear eA eB eC eD h6 h7 hv
      exact ⟨by omega, by omega, by omega, by omega⟩

theorem toks_shape : ∀ (n : Nat) (l : List UInt8), l.length ≤ n → ∀ t ∈ toks l, Shape t
  | 0, l, h => by
    have : l = [] := List.eq_nil_of_length_eq_zero (by omega)
    subst this; intro t ht; cases ht
  | n + 1, [], _ => by intro t ht; cases ht
  | n + 1, b :: l, h => by
    have hw := tok_width b l
    rw [toks_cons]
    intro t ht
    rcases List.mem_cons.1 ht with rfl | ht
    · exact tok_shape b l
    · exact toks_shape n _ (by simp only [List.length_drop, List.length_cons] at *; omega) t ht
theorem shape_of (l : List UInt8) : ∀ t ∈ toks l, Shape t := toks_shape l.length l (Nat.le_refl _)

/-- Bytes that begin with none that goes on: a token ahead of them is what it was. -/
def Fresh (l : List UInt8) : Prop := ∀ b t, l = b :: t → b.toNat / 64 ≠ 2
theorem tok_append (b : UInt8) (l r : List UInt8) (hr : Fresh r) : tok (b :: (l ++ r)) = tok (b :: l) := by
  have e : ∀ (x : UInt8) (y : List UInt8), tok (x :: y) = (let d := decodeN (x :: y).length x.toNat (y.getD 0 0).toNat (y.getD 1 0).toNat (y.getD 2 0).toNat
      if d.1 = 65533 ∧ d.2 = 1 then (-1, 1) else ((d.1 : Int), d.2)) := fun x y => by simp [tok]
  have key : decodeN (b :: (l ++ r)).length b.toNat ((l ++ r).getD 0 0).toNat ((l ++ r).getD 1 0).toNat ((l ++ r).getD 2 0).toNat =
      decodeN (b :: l).length b.toNat (l.getD 0 0).toNat (l.getD 1 0).toNat (l.getD 2 0).toNat := by
    match l with
    | [] =>
      cases r with
      | nil => rfl
      | cons c r =>
        have := hr c r rfl
        simp [decodeN, this]
    | [b1] =>
      cases r with
      | nil => rfl
      | cons c r =>
        have := hr c r rfl
        simp [decodeN, this]
    | [b1, b2] =>
      cases r with
      | nil => rfl
      | cons c r =>
        have := hr c r rfl
        simp [decodeN, this]
    | b1 :: b2 :: b3 :: t =>
      simp [decodeN]
  rw [e, e, key]

theorem toks_append : ∀ (n : Nat) (l r : List UInt8), l.length ≤ n → Fresh r → toks (l ++ r) = toks l ++ toks r
  | 0, l, r, h, _ => by
    have : l = [] := List.eq_nil_of_length_eq_zero (by omega)
    subst this; rfl
  | n + 1, [], r, _, _ => rfl
  | n + 1, b :: l, r, h, hr => by
    have hw := tok_width b l
    rw [List.cons_append, toks_cons, toks_cons, tok_append b l r hr, List.cons_append]
    have e1 : (b :: (l ++ r)).take (tok (b :: l)).2 = (b :: l).take (tok (b :: l)).2 := by
      rw [← List.cons_append, List.take_append_of_le_length hw.2.2]
    have e2 : (b :: (l ++ r)).drop (tok (b :: l)).2 = (b :: l).drop (tok (b :: l)).2 ++ r := by
      rw [← List.cons_append, List.drop_append_of_le_length hw.2.2]
    rw [e1, e2, toks_append n _ r _ hr]
    simp only [List.length_drop, List.length_cons] at *; omega
theorem toks_join (l r : List UInt8) (hr : Fresh r) : toks (l ++ r) = toks l ++ toks r := toks_append l.length l r (Nat.le_refl _) hr
theorem fresh_ascii (c : UInt8) (r : List UInt8) (h : c.toNat < 128) : Fresh (c :: r) := by
  intro b t e; cases e; omega
theorem toks_ascii (c : UInt8) (l : List UInt8) (h : c.toNat < 128) : toks (c :: l) = ((c.toNat : Int), [c]) :: toks l := by
  rw [toks_cons]
  rcases tok_cases c l with ⟨e, h1⟩ | ⟨e, h1⟩ | ⟨b1, t, rfl, h1, _⟩ | ⟨b1, b2, t, rfl, h1, _⟩ | ⟨b1, b2, b3, t, rfl, h1, _⟩
  · omega
  · rw [e]; simp
  · omega
  · omega
  · omega
end Go.Proofs.YthmblkckpdpjkaaGreatDoor.Txt
