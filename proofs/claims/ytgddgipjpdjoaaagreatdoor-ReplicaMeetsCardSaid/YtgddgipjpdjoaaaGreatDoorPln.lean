/-
  Plain Lean, no program in sight: the runes of a text, token by token, and its quote.
  Plain Lean, no program in sight: names, quotes, words: what the functions of layer 1 compute.
  Plain Lean, no program in sight: numbers and texts as bytes (layer 2).
  Plain Lean, no program in sight: check sums by nibbles, and bit by bit (layer 3).
  Plain Lean, no program in sight: frames, and rows of them (layer 4).
  Plain Lean, no program in sight: events, batches, entries as bytes (layers 5, 6).
  Plain Lean, no program in sight: what a file of entries has (layer 9).
  Plain Lean, no program in sight: the name of a number, the number of a name (layer 9).
  Plain Lean, no program in sight: a disk as its files, by their names in order (layer 8).
-/
import Derived.Lib.RuneBytes
import Derived.Lib.DecodeN
import Derived.Lib.AtoiAll
import Derived.Lib.ItoaNum
namespace Go.Proofs.YtgddgipjpdjoaaaGreatDoor.Txt
open Go.Lib (decodeN encodeRune encodeRuneZ)
def tok (l : List UInt8) : Int × Nat :=
 let d := decodeN l.length (l.getD 0 0).toNat (l.getD 1 0).toNat (l.getD 2 0).toNat (l.getD 3 0).toNat
 if d.1 = 65533 ∧ d.2 = 1 then (-1, 1) else ((d.1 : Int), d.2)
def toksF : Nat → List UInt8 → List (Int × List UInt8)
 | 0, _ => []
 | _ + 1, [] => []
 | f + 1, b :: l => ((tok (b :: l)).1, (b :: l).take (tok (b :: l)).2) :: toksF f ((b :: l).drop (tok (b :: l)).2)
def toks (l : List UInt8) : List (Int × List UInt8) := toksF l.length l
theorem u8_lt (b : UInt8) : b.toNat < 256 := b.toNat_lt
theorem u8_eq {a b : UInt8} (h : a.toNat = b.toNat) : a = b := UInt8.toNat_inj.1 h
theorem tok_cases (b : UInt8) (l : List UInt8) :
   (tok (b :: l) = (-1, 1) ∧ 128 ≤ b.toNat) ∨
   (tok (b :: l) = ((b.toNat : Int), 1) ∧ b.toNat < 128) ∨
   (∃ b1 t, l = b1 :: t ∧ 192 ≤ b.toNat ∧ b.toNat < 224 ∧ b1.toNat / 64 = 2 ∧ 128 ≤ b.toNat % 32 * 64 + b1.toNat % 64 ∧
     tok (b :: l) = (((b.toNat % 32 * 64 + b1.toNat % 64 : Nat) : Int), 2)) ∨
   (∃ b1 b2 t, l = b1 :: b2 :: t ∧ 224 ≤ b.toNat ∧ b.toNat < 240 ∧ b1.toNat / 64 = 2 ∧ b2.toNat / 64 = 2 ∧
     2048 ≤ b.toNat % 16 * 4096 + b1.toNat % 64 * 64 + b2.toNat % 64 ∧
     (b.toNat % 16 * 4096 + b1.toNat % 64 * 64 + b2.toNat % 64 < 55296 ∨ 57344 ≤ b.toNat % 16 * 4096 + b1.toNat % 64 * 64 + b2.toNat % 64) ∧
     tok (b :: l) = (((b.toNat % 16 * 4096 + b1.toNat % 64 * 64 + b2.toNat % 64 : Nat) : Int), 3)) ∨
   (∃ b1 b2 b3 t, l = b1 :: b2 :: b3 :: t ∧ 240 ≤ b.toNat ∧ b.toNat < 248 ∧ b1.toNat / 64 = 2 ∧ b2.toNat / 64 = 2 ∧ b3.toNat / 64 = 2 ∧
     65536 ≤ b.toNat % 8 * 262144 + b1.toNat % 64 * 4096 + b2.toNat % 64 * 64 + b3.toNat % 64 ∧
     b.toNat % 8 * 262144 + b1.toNat % 64 * 4096 + b2.toNat % 64 * 64 + b3.toNat % 64 ≤ 1114111 ∧
     tok (b :: l) = (((b.toNat % 8 * 262144 + b1.toNat % 64 * 4096 + b2.toNat % 64 * 64 + b3.toNat % 64 : Nat) : Int), 4)) := by
 have hb := u8_lt b
 by_cases h0 : b.toNat < 128
 · refine .inr (.inl ⟨?_, h0⟩)
   have : b.toNat ≠ 65533 := by omega
   simp [tok, decodeN, h0, this]
 by_cases h2 : b.toNat / 32 = 6 ∧ (1 < (b :: l).length ∧ ((b :: l).getD 1 0).toNat / 64 = 2) ∧ b.toNat % 32 * 64 + ((b :: l).getD 1 0).toNat % 64 ≥ 128
 · obtain ⟨e1, ⟨e2, e3⟩, e4⟩ := h2
   match l, e2, e3, e4 with
   | b1 :: t, _, e3, e4 =>
     simp only [List.getD_cons_succ, List.getD_cons_zero] at e3 e4
     refine .inr (.inr (.inl ⟨b1, t, rfl, by omega, by omega, e3, e4, ?_⟩))
     have hne : ¬ (b.toNat % 32 * 64 + b1.toNat % 64 = 65533) := by omega
     simp [tok, decodeN, h0, e1, e3, e4, hne]
 by_cases h3 : b.toNat / 16 = 14 ∧ (1 < (b :: l).length ∧ ((b :: l).getD 1 0).toNat / 64 = 2) ∧ (2 < (b :: l).length ∧ ((b :: l).getD 2 0).toNat / 64 = 2) ∧ b.toNat % 16 * 4096 + ((b :: l).getD 1 0).toNat % 64 * 64 + ((b :: l).getD 2 0).toNat % 64 ≥ 2048 ∧ (b.toNat % 16 * 4096 + ((b :: l).getD 1 0).toNat % 64 * 64 + ((b :: l).getD 2 0).toNat % 64 < 55296 ∨ (57344 ≤ b.toNat % 16 * 4096 + ((b :: l).getD 1 0).toNat % 64 * 64 + ((b :: l).getD 2 0).toNat % 64))
 · obtain ⟨e1, ⟨e2, e3⟩, ⟨e4, e5⟩, e6, e7⟩ := h3
   match l, e2, e3, e4, e5, e6, e7 with
   | b1 :: b2 :: t, _, e3, _, e5, e6, e7 =>
     simp only [List.getD_cons_succ, List.getD_cons_zero] at e3 e5 e6 e7
     refine .inr (.inr (.inr (.inl ⟨b1, b2, t, rfl, by omega, by omega, e3, e5, e6, e7, ?_⟩)))
     have e0 : ¬ b.toNat / 32 = 6 := by omega
     have e8 : b.toNat % 16 * 4096 + b1.toNat % 64 * 64 + b2.toNat % 64 ≤ 1114111 := by omega
     simp [tok, decodeN, h0, e0, e1, e3, e5, e6, e7, e8]
 by_cases h4 : b.toNat / 8 = 30 ∧ (1 < (b :: l).length ∧ ((b :: l).getD 1 0).toNat / 64 = 2) ∧ (2 < (b :: l).length ∧ ((b :: l).getD 2 0).toNat / 64 = 2) ∧ (3 < (b :: l).length ∧ ((b :: l).getD 3 0).toNat / 64 = 2) ∧ b.toNat % 8 * 262144 + ((b :: l).getD 1 0).toNat % 64 * 4096 + ((b :: l).getD 2 0).toNat % 64 * 64 + ((b :: l).getD 3 0).toNat % 64 ≥ 65536 ∧ b.toNat % 8 * 262144 + ((b :: l).getD 1 0).toNat % 64 * 4096 + ((b :: l).getD 2 0).toNat % 64 * 64 + ((b :: l).getD 3 0).toNat % 64 ≤ 1114111
 · obtain ⟨e1, ⟨e2, e3⟩, ⟨e4, e5⟩, ⟨e6, e7⟩, e8, e9⟩ := h4
   rcases l with _ | ⟨b1, _ | ⟨b2, _ | ⟨b3, t⟩⟩⟩
   · simp at e2
   · simp at e4
   · simp at e6
   · simp only [List.getD_cons_succ, List.getD_cons_zero] at e3 e5 e7 e8 e9
     clear h2 h3 e2 e4 e6
     refine .inr (.inr (.inr (.inr ⟨b1, b2, b3, t, rfl, by omega, by omega, e3, e5, e7, e8, e9, ?_⟩)))
     have e0 : ¬ b.toNat / 32 = 6 := by omega
     have e0' : ¬ b.toNat / 16 = 14 := by omega
     have ea : b.toNat % 8 * 262144 + b1.toNat % 64 * 4096 + b2.toNat % 64 * 64 + b3.toNat % 64 < 55296 ∨ 57344 ≤ b.toNat % 8 * 262144 + b1.toNat % 64 * 4096 + b2.toNat % 64 * 64 + b3.toNat % 64 := by omega
     simp [tok, decodeN, h0, e0, e0', e1, e3, e5, e7, e8, e9, ea]
 · refine .inl ⟨?_, by omega⟩
   have e : decodeN (b :: l).length ((b :: l).getD 0 0).toNat ((b :: l).getD 1 0).toNat ((b :: l).getD 2 0).toNat ((b :: l).getD 3 0).toNat = (65533, 1) := by
     simp only [decodeN, List.getD_cons_zero, if_neg h0]
     split
     · rename_i g; rw [if_neg (fun g' => h2 ⟨g.1, g.2, g'⟩)]
     · split
       · rename_i g
         rw [if_neg (fun g' => h3 ⟨g.1, g.2.1, g.2.2, g'.1, by omega⟩)]
       · split
         · rename_i g
           rw [if_neg (fun g' => h4 ⟨g.1, g.2.1, g.2.2.1, g.2.2.2, g'.1, by omega⟩)]
         · rfl
   simp only [tok, e]
   simp
theorem tok_width (b : UInt8) (l : List UInt8) : 1 ≤ (tok (b :: l)).2 ∧ (tok (b :: l)).2 ≤ 4 ∧ (tok (b :: l)).2 ≤ (b :: l).length := by
 rcases tok_cases b l with ⟨h, _⟩ | ⟨h, _⟩ | ⟨b1, t, rfl, _, _, _, _, h⟩ | ⟨b1, b2, t, rfl, _, _, _, _, _, _, h⟩ | ⟨b1, b2, b3, t, rfl, _, _, _, _, _, _, _, h⟩ <;> simp [h] <;> omega
theorem toksF_fuel : ∀ (f g : Nat) (l : List UInt8), l.length ≤ f → l.length ≤ g → toksF f l = toksF g l
 | 0, g, l, h, _ => by
   have : l = [] := List.eq_nil_of_length_eq_zero (by omega)
   subst this; cases g <;> rfl
 | f + 1, 0, l, _, h => by
   have : l = [] := List.eq_nil_of_length_eq_zero (by omega)
   subst this; rfl
 | f + 1, g + 1, [], _, _ => rfl
 | f + 1, g + 1, b :: l, hf, hg => by
   have hw := tok_width b l
   simp only [toksF]
   rw [toksF_fuel f g]
   · simp only [List.length_drop, List.length_cons] at *; omega
   · simp only [List.length_drop, List.length_cons] at *; omega
theorem toks_nil : toks [] = [] := rfl
theorem toks_cons (b : UInt8) (l : List UInt8) :
   toks (b :: l) = ((tok (b :: l)).1, (b :: l).take (tok (b :: l)).2) :: toks ((b :: l).drop (tok (b :: l)).2) := by
 have hw := tok_width b l
 show toksF (l.length + 1) (b :: l) = _
 simp only [toksF, toks]
 rw [toksF_fuel l.length]
 · simp only [List.length_drop, List.length_cons]; omega
 · omega
theorem toks_bytes : ∀ (n : Nat) (l : List UInt8), l.length ≤ n → (toks l).flatMap (·.2) = l
 | 0, l, h => by
   have : l = [] := List.eq_nil_of_length_eq_zero (by omega)
   subst this; rfl
 | n + 1, [], _ => rfl
 | n + 1, b :: l, h => by
   have hw := tok_width b l
   rw [toks_cons, List.flatMap_cons, toks_bytes n]
   · exact List.take_append_drop _ _
   · simp only [List.length_drop, List.length_cons] at *; omega
theorem toks_flat (l : List UInt8) : (toks l).flatMap (·.2) = l := toks_bytes l.length l (Nat.le_refl _)
def Shape (t : Int × List UInt8) : Prop :=
 (t.1 = -1 ∧ ∃ b : UInt8, t.2 = [b] ∧ 128 ≤ b.toNat) ∨
 (0 ≤ t.1 ∧ t.1 < 128 ∧ t.2 = [t.1.toNat.toUInt8]) ∨
 (128 ≤ t.1 ∧ t.1 ≤ 1114111 ∧ t.2 = encodeRune t.1 ∧ 2 ≤ t.2.length ∧ t.2.length ≤ 4 ∧ ∀ b ∈ t.2, 128 ≤ b.toNat)
theorem toU8_of (b : UInt8) (n : Nat) (h : b.toNat = n) : n.toUInt8 = b := by
 apply u8_eq; subst h; simp
theorem cont_of (b : UInt8) (h : b.toNat / 64 = 2) : b.toNat = 128 + b.toNat % 64 := by omega
theorem lt64 (n : Nat) : n % 64 < 64 := Nat.mod_lt _ (by decide)
theorem shape_wide (v : Nat) (l : List UInt8) (n : Nat) (h1 : 128 ≤ v) (h2 : v ≤ 1114111) (he : encodeRune (v : Int) = l.take n) (h3 : 2 ≤ (l.take n).length) (h4 : (l.take n).length ≤ 4)
   (h5 : ∀ b ∈ l.take n, 128 ≤ b.toNat) : Shape ((v : Int), l.take n) :=
 .inr (.inr ⟨by show (128 : Int) ≤ v; omega, by show (v : Int) ≤ 1114111; omega, he.symm, h3, h4, h5⟩)
theorem tok_shape (b : UInt8) (l : List UInt8) : Shape ((tok (b :: l)).1, (b :: l).take (tok (b :: l)).2) := by
 have hb := u8_lt b
 rcases tok_cases b l with ⟨h, h1⟩ | ⟨h, h1⟩ | ⟨b1, t, rfl, h1, h2, h3, h4, h⟩ | ⟨b1, b2, t, rfl, h1, h2, h3, h4, h5, h6, h⟩ | ⟨b1, b2, b3, t, rfl, h1, h2, h3, h4, h5, h6, h7, h⟩
 · exact .inl ⟨by rw [h], b, by rw [h]; rfl, h1⟩
 · exact .inr (.inl ⟨by rw [h]; simp, by rw [h]; simp; omega, by rw [h]; simp⟩)
 · have c1 := cont_of b1 h3
   have eb : b.toNat = 192 + b.toNat % 32 := by omega
   have l1 := lt64 b1.toNat
   have hx : b.toNat % 32 < 32 := Nat.mod_lt _ (by decide)
   rw [h]
   clear h
   generalize b.toNat % 32 = x at *
   generalize b1.toNat % 64 = y at *
   obtain ⟨v, hv⟩ : ∃ v, v = x * 64 + y := ⟨_, rfl⟩
   rw [← hv] at h4 ⊢
   have eA : (192 + (v : Int) / 64).toNat = b.toNat := by omega
   have eB : (128 + (v : Int) % 64).toNat = b1.toNat := by omega
   refine shape_wide v _ _ h4 (by omega) ?_ (by simp) (by simp) ?_
   · rw [encodeRune, Go.Lib.encodeRuneZ_two (by omega) (by omega)]
     simp only [List.map_cons, List.map_nil, eA, eB, toU8_of b _ rfl, toU8_of b1 _ rfl, List.take_succ_cons, List.take_zero]
   · simp only [List.take_succ_cons, List.take_zero, List.mem_cons, List.not_mem_nil, or_false, forall_eq_or_imp, forall_eq]
     clear eA eB
     exact ⟨by omega, by omega⟩
 · have c1 := cont_of b1 h3
   have c2 := cont_of b2 h4
   have eb : b.toNat = 224 + b.toNat % 16 := by omega
   have hx : b.toNat % 16 < 16 := Nat.mod_lt _ (by decide)
   have l1 := lt64 b1.toNat
   have l2 := lt64 b2.toNat
   rw [h]
   clear h
   generalize b.toNat % 16 = x at *
   generalize b1.toNat % 64 = y at *
   generalize b2.toNat % 64 = z at *
   obtain ⟨v, hv⟩ : ∃ v, v = x * 4096 + y * 64 + z := ⟨_, rfl⟩
   rw [← hv] at h5 h6 ⊢
   have eA : (224 + (v : Int) / 4096).toNat = b.toNat := by omega
   have eB : (128 + (v : Int) / 64 % 64).toNat = b1.toNat := by omega
   have eC : (128 + (v : Int) % 64).toNat = b2.toNat := by omega
   refine shape_wide v _ _ (Nat.le_trans (by decide) h5) (by omega) ?_ (by simp) (by simp) ?_
   · rw [encodeRune, Go.Lib.encodeRuneZ_three (by omega)]
     simp only [List.map_cons, List.map_nil, eA, eB, eC, toU8_of b _ rfl, toU8_of b1 _ rfl, toU8_of b2 _ rfl, List.take_succ_cons, List.take_zero]
   · simp only [List.take_succ_cons, List.take_zero, List.mem_cons, List.not_mem_nil, or_false, forall_eq_or_imp, forall_eq]
     clear eA eB eC h5 h6 hv
     exact ⟨by omega, by omega, by omega⟩
 · have c1 := cont_of b1 h3
   have c2 := cont_of b2 h4
   have c3 := cont_of b3 h5
   have eb : b.toNat = 240 + b.toNat % 8 := by omega
   have l1 := lt64 b1.toNat
   have l2 := lt64 b2.toNat
   have l3 := lt64 b3.toNat
   rw [h]
   clear h
   generalize b.toNat % 8 = x at *
   generalize b1.toNat % 64 = y at *
   generalize b2.toNat % 64 = z at *
   generalize b3.toNat % 64 = u at *
   obtain ⟨v, hv⟩ : ∃ v, v = x * 262144 + y * 4096 + z * 64 + u := ⟨_, rfl⟩
   rw [← hv] at h6 h7 ⊢
   have eA : (240 + (v : Int) / 262144).toNat = b.toNat := by omega
   have eB : (128 + (v : Int) / 4096 % 64).toNat = b1.toNat := by omega
   have eC : (128 + (v : Int) / 64 % 64).toNat = b2.toNat := by omega
   have eD : (128 + (v : Int) % 64).toNat = b3.toNat := by omega
   refine shape_wide v _ _ (Nat.le_trans (by decide) h6) h7 ?_ (by simp) (by simp) ?_
   · rw [encodeRune, Go.Lib.encodeRuneZ_four (by omega) (by omega)]
     simp only [List.map_cons, List.map_nil, eA, eB, eC, eD, toU8_of b _ rfl, toU8_of b1 _ rfl, toU8_of b2 _ rfl, toU8_of b3 _ rfl, List.take_succ_cons, List.take_zero]
   · simp only [List.take_succ_cons, List.take_zero, List.mem_cons, List.not_mem_nil, or_false, forall_eq_or_imp, forall_eq]
     clear eA eB eC eD h6 h7 hv
     exact ⟨by omega, by omega, by omega, by omega⟩
theorem toks_shape : ∀ (n : Nat) (l : List UInt8), l.length ≤ n → ∀ t ∈ toks l, Shape t
 | 0, l, h => by
   have : l = [] := List.eq_nil_of_length_eq_zero (by omega)
   subst this; intro t ht; cases ht
 | n + 1, [], _ => by intro t ht; cases ht
 | n + 1, b :: l, h => by
   have hw := tok_width b l
   rw [toks_cons]
   intro t ht
   rcases List.mem_cons.1 ht with rfl | ht
   · exact tok_shape b l
   · exact toks_shape n _ (by simp only [List.length_drop, List.length_cons] at *; omega) t ht
theorem shape_of (l : List UInt8) : ∀ t ∈ toks l, Shape t := toks_shape l.length l (Nat.le_refl _)
theorem toks_ascii (c : UInt8) (l : List UInt8) (h : c.toNat < 128) : toks (c :: l) = ((c.toNat : Int), [c]) :: toks l := by
 rw [toks_cons]
 rcases tok_cases c l with ⟨e, h1⟩ | ⟨e, h1⟩ | ⟨b1, t, rfl, h1, _⟩ | ⟨b1, b2, t, rfl, h1, _⟩ | ⟨b1, b2, b3, t, rfl, h1, _⟩
 · omega
 · rw [e]; simp
 · omega
 · omega
 · omega
end Go.Proofs.YtgddgipjpdjoaaaGreatDoor.Txt
namespace Go.Proofs.YtgddgipjpdjoaaaGreatDoor.Txt
def named (r : Int) : Bool :=
 decide (97 ≤ r ∧ r ≤ 122) || decide (65 ≤ r ∧ r ≤ 90) || decide (48 ≤ r ∧ r ≤ 57) || r == 45 || r == 95 || r == 46 || decide (160 ≤ r)
def name (l : List UInt8) : Bool := decide (1 ≤ (toks l).length) && decide ((toks l).length ≤ 32) && (toks l).all fun t => named t.1
def inner (dg : UInt8 → Option Nat) : List UInt8 → Option (List UInt8)
 | [] => some []
 | c :: t =>
   if c ≠ 92 then (inner dg t).map (c :: ·)
   else match t with
     | [] => none
     | d :: t =>
       if d = 34 ∨ d = 92 then (inner dg t).map (d :: ·)
       else if d = 110 then (inner dg t).map (10 :: ·)
       else if d = 120 then
         match t with
         | a :: b :: t =>
           match dg a, dg b with
           | some x, some y => (inner dg t).map ((16 * x + y).toUInt8 :: ·)
           | _, _ => none
         | _ => none
       else none
end Go.Proofs.YtgddgipjpdjoaaaGreatDoor.Txt
namespace Go.Proofs.YtgddgipjpdjoaaaGreatDoor.Num
def put (n : Nat) : List UInt8 := if h : n < 128 then [n.toUInt8] else (n % 128 + 128).toUInt8 :: put (n / 128)
termination_by n
decreasing_by omega
theorem put_small (n : Nat) (h : n < 128) : put n = [n.toUInt8] := by rw [put, dif_pos h]
theorem put_large (n : Nat) (h : ¬ n < 128) : put n = (n % 128 + 128).toUInt8 :: put (n / 128) := by rw [put, dif_neg h]
def held (n : Int) : Nat := if n ≤ 0 then 0 else if n ≤ 1099511627776 then n.toNat else 1099511627776
theorem held_le (n : Int) : held n ≤ 1099511627776 := by unfold held; split; omega; split <;> omega
theorem held_of (n : Nat) (h : n ≤ 1099511627776) : held (n : Int) = n := by unfold held; split; omega; split <;> omega
theorem put_ne (n : Nat) : put n ≠ [] := by rw [put]; split <;> simp
theorem put_len (k : Nat) : ∀ n : Nat, n < 128 ^ (k + 1) → (put n).length ≤ k + 1 := by
 induction k with
 | zero => intro n h; rw [put_small n (by simpa using h)]; simp
 | succ k ih =>
   intro n h
   by_cases h1 : n < 128
   · rw [put_small n h1]; simp
   · rw [put_large n h1, List.length_cons]
     have := ih (n / 128) (by rw [Nat.pow_succ] at h; exact Nat.div_lt_of_lt_mul (by rw [Nat.mul_comm]; exact h))
     omega
theorem put_le6 (n : Nat) (h : n ≤ 1099511627776) : (put n).length ≤ 6 := put_len 5 n (by omega)
def takeF (i n : Nat) : List UInt8 → Nat × List UInt8 × Nat
 | [] => (0, [], 3)
 | c :: l =>
   if i = 6 then (0, [], 2) else
   if 128 ≤ c.toNat then takeF (i + 1) (n + c.toNat % 128 * 128 ^ i) l else
   if c.toNat = 0 ∧ 0 < i then (0, [], 2) else
   if 1099511627776 < n + c.toNat % 128 * 128 ^ i then (0, [], 4) else
   (n + c.toNat % 128 * 128 ^ i, l, 0)
def take (l : List UInt8) : Nat × List UInt8 × Nat := takeF 0 0 l
theorem toU8_nat (n : Nat) (h : n < 256) : (n.toUInt8).toNat = n := by
 simp [Nat.toUInt8, UInt8.toNat_ofNat', Nat.mod_eq_of_lt h]
theorem takeF_put (r : List UInt8) : ∀ (k i n acc : Nat), n < 128 ^ k → i + k = 6 → (0 < i → 0 < n) → acc + n * 128 ^ i ≤ 1099511627776 → takeF i acc (put n ++ r) = (acc + n * 128 ^ i, r, 0)
 | 0, i, n, acc, h, hi, h0, _ => by
   have : n = 0 := by simp at h; exact h
   omega
 | k + 1, i, n, acc, h, hi, h0, hm => by
   by_cases h1 : n < 128
   · rw [put_small n h1]
     have e := toU8_nat n (by omega)
     have em : n % 128 = n := Nat.mod_eq_of_lt h1
     simp only [List.singleton_append, takeF, e, em]
     rw [if_neg (by omega), if_neg (by omega), if_neg (by omega), if_neg (by omega)]
   · rw [put_large n h1]
     have e := toU8_nat (n % 128 + 128) (by omega)
     have em : (n % 128 + 128) % 128 = n % 128 := by omega
     have hp : 128 ^ (i + 1) = 128 ^ i * 128 := Nat.pow_succ ..
     have hs : n % 128 * 128 ^ i + n / 128 * 128 ^ (i + 1) = n * 128 ^ i := by
       rw [hp, Nat.mul_comm (128 ^ i) 128, ← Nat.mul_assoc, ← Nat.add_mul]
       congr 1; omega
     simp only [List.cons_append, takeF, e, em]
     rw [if_neg (by omega), if_pos (by omega), takeF_put r k (i + 1) (n / 128) _ (by rw [Nat.pow_succ] at h; omega) (by omega) (by omega) (by omega)]
     rw [Nat.add_assoc, hs]
theorem take_put (n : Nat) (h : n ≤ 1099511627776) (r : List UInt8) : take (put n ++ r) = (n, r, 0) := by
 unfold take
 rw [takeF_put r 6 0 n 0 (by omega) rfl (by omega) (by omega)]
 simp
theorem takeF_le : ∀ (l : List UInt8) (i n : Nat), (takeF i n l).1 ≤ 1099511627776 ∧ (takeF i n l).2.1.length ≤ l.length ∧ (takeF i n l).2.2 ≤ 4 ∧ ((takeF i n l).2.2 ≠ 0 → (takeF i n l).1 = 0 ∧ (takeF i n l).2.1 = []) ∧
   ((takeF i n l).2.2 = 0 → (takeF i n l).2.1.length < l.length ∧ ∃ p, l = p ++ (takeF i n l).2.1)
 | [], i, n => by simp [takeF]
 | c :: l, i, n => by
   have ih := takeF_le l (i + 1) (n + c.toNat % 128 * 128 ^ i)
   simp only [takeF]
   split
   · simp
   · split
     · obtain ⟨h1, h2, h3, h4, h5⟩ := ih
       refine ⟨h1, by simp; omega, h3, h4, fun h => ?_⟩
       obtain ⟨h6, p, h7⟩ := h5 h
       exact ⟨by simp; omega, c :: p, by rw [List.cons_append, ← h7]⟩
     · split
       · simp
       · split
         · simp
         · refine ⟨by simp; omega, by simp, by simp, by simp, fun _ => ⟨by simp, [c], by simp⟩⟩
theorem take_le (l : List UInt8) : (take l).1 ≤ 1099511627776 ∧ (take l).2.1.length ≤ l.length ∧ (take l).2.2 ≤ 4 ∧ ((take l).2.2 ≠ 0 → (take l).1 = 0 ∧ (take l).2.1 = []) ∧
   ((take l).2.2 = 0 → (take l).2.1.length < l.length ∧ ∃ p, l = p ++ (take l).2.1) := takeF_le l 0 0
def zig (n : Int) : Nat := if 0 ≤ n then (2 * n).toNat else (-2 * n - 1).toNat
def zag (m : Nat) : Int := if m % 2 = 0 then ((m / 2 : Nat) : Int) else -((m / 2 : Nat) : Int) - 1
theorem zag_zig (n : Int) : zag (zig n) = n := by
 unfold zag zig
 split <;> split <;> omega
def heldInt (n : Int) : Int := if n ≤ -549755813888 then -549755813888 else if n ≤ 549755813888 then n else 549755813888
theorem heldInt_le (n : Int) : -549755813888 ≤ heldInt n ∧ heldInt n ≤ 549755813888 := by unfold heldInt; split <;> (try split) <;> omega
theorem heldInt_of (n : Int) (h1 : -549755813888 ≤ n) (h2 : n ≤ 549755813888) : heldInt n = n := by unfold heldInt; split <;> (try split) <;> omega
theorem zig_le (n : Int) : zig (heldInt n) ≤ 1099511627776 := by have := heldInt_le n; unfold zig; split <;> omega
def putInt (n : Int) : List UInt8 := put (zig (heldInt n))
def takeInt (l : List UInt8) : Int × List UInt8 × Nat := (zag (take l).1, (take l).2.1, (take l).2.2)
theorem takeInt_put (n : Int) (h1 : -549755813888 ≤ n) (h2 : n ≤ 549755813888) (r : List UInt8) : takeInt (putInt n ++ r) = (n, r, 0) := by
 unfold takeInt putInt
 rw [take_put _ (zig_le n), heldInt_of n h1 h2, zag_zig]
def putText (l : List UInt8) : List UInt8 := put (held l.length) ++ l
def takeText (l : List UInt8) (long : Int) : List UInt8 × List UInt8 × Nat :=
 if (take l).2.2 ≠ 0 then ([], [], (take l).2.2) else
 if long < (take l).1 then ([], [], 4) else
 if (take l).2.1.length < (take l).1 then ([], [], 3) else
 ((take l).2.1.take (take l).1, (take l).2.1.drop (take l).1, 0)
theorem takeText_put (t r : List UInt8) (long : Int) (h1 : (t.length : Int) ≤ long) (h2 : t.length ≤ 1099511627776) : takeText (putText t ++ r) long = (t, r, 0) := by
 unfold takeText putText
 rw [held_of _ h2, List.append_assoc, take_put _ h2]
 simp only [ne_eq, not_true_eq_false, if_false]
 rw [if_neg (by omega), if_neg (by simp)]
 simp
theorem takeText_le (l : List UInt8) (long : Int) : (takeText l long).2.2 ≤ 4 ∧ ((takeText l long).2.2 ≠ 0 → (takeText l long).1 = [] ∧ (takeText l long).2.1 = []) ∧ (takeText l long).1.length ≤ l.length ∧ (takeText l long).2.1.length ≤ l.length ∧
   ((takeText l long).2.2 = 0 → ((takeText l long).1.length : Int) ≤ long ∧ (takeText l long).2.1.length < l.length) := by
 obtain ⟨h1, h2, h3, h4, h5⟩ := take_le l
 unfold takeText
 split
 · rename_i h; simp; omega
 · split
   · simp
   · split
     · simp
     · rename_i ha hb hc
       have := (h5 (by omega)).1
       simp only [List.length_take, List.length_drop]
       refine ⟨by omega, by simp, by omega, by omega, fun _ => ⟨by omega, by omega⟩⟩
def fixed (n : Nat) : List UInt8 := [(n / 16777216).toUInt8, (n / 65536).toUInt8, (n / 256).toUInt8, n.toUInt8]
def takeFixed (l : List UInt8) : Nat × List UInt8 × Nat :=
 match l with
 | a :: b :: c :: d :: r => (((a.toNat * 256 + b.toNat) * 256 + c.toNat) * 256 + d.toNat, r, 0)
 | _ => (0, [], 3)
theorem fixed_len (n : Nat) : (fixed n).length = 4 := rfl
theorem toU8_mod (n : Nat) : (n.toUInt8).toNat = n % 256 := by simp [Nat.toUInt8, UInt8.toNat_ofNat']
theorem takeFixed_fixed (n : Nat) (h : n < 4294967296) (r : List UInt8) : takeFixed (fixed n ++ r) = (n, r, 0) := by
 simp only [fixed, List.cons_append, List.nil_append, takeFixed, toU8_mod]
 congr 1
 omega
theorem takeFixed_of (l : List UInt8) (h : 4 ≤ l.length) : ∃ n, takeFixed l = (n, l.drop 4, 0) ∧ n < 4294967296 := by
 match l, h with
 | a :: b :: c :: d :: r, _ =>
   have ha := a.toNat_lt; have hb := b.toNat_lt; have hc := c.toNat_lt; have hd := d.toNat_lt
   exact ⟨_, rfl, by omega⟩
theorem takeFixed_short (l : List UInt8) (h : l.length < 4) : takeFixed l = (0, [], 3) := by
 match l, h with
 | [], _ => rfl
 | [_], _ => rfl
 | [_, _], _ => rfl
 | [_, _, _], _ => rfl
end Go.Proofs.YtgddgipjpdjoaaaGreatDoor.Num
namespace Go.Proofs.YtgddgipjpdjoaaaGreatDoor.Crc
def step (r : Nat) : Nat := if r % 2 = 1 then (r / 2) ^^^ 0xEDB88320 else r / 2
def step4 (r : Nat) : Nat := step (step (step (step r)))
def nib (r c : Nat) : Nat := step4 ((r ^^^ c) % 16) ^^^ (r / 16)
def byte (r c : Nat) : Nat := nib (nib r c) (c / 16)
def run (r : Nat) (l : List UInt8) : Nat := l.foldl (fun r c => byte r c.toNat) r
def upd (s : Nat) (l : List UInt8) : Nat := 4294967295 ^^^ run (4294967295 ^^^ s) l
def sum (l : List UInt8) : Nat := upd 0 l
theorem run_append (r : Nat) (a b : List UInt8) : run r (a ++ b) = run (run r a) b := by simp [run]
theorem not_not (r : Nat) : 4294967295 ^^^ (4294967295 ^^^ r) = r := by rw [← Nat.xor_assoc, Nat.xor_self, Nat.zero_xor]
theorem upd_append (s : Nat) (a b : List UInt8) : upd (upd s a) b = upd s (a ++ b) := by
 unfold upd; rw [not_not, run_append]
theorem xor_lt {a b : Nat} (ha : a < 4294967296) (hb : b < 4294967296) : a ^^^ b < 4294967296 := Nat.xor_lt_two_pow (n := 32) ha hb
theorem step_lt {r : Nat} (h : r < 4294967296) : step r < 4294967296 := by
 unfold step; split
 · exact xor_lt (by omega) (by omega)
 · omega
theorem step4_lt {r : Nat} (h : r < 4294967296) : step4 r < 4294967296 := step_lt (step_lt (step_lt (step_lt h)))
theorem nib_lt {r c : Nat} (h : r < 4294967296) : nib r c < 4294967296 := xor_lt (step4_lt (by omega)) (by omega)
theorem byte_lt {r c : Nat} (h : r < 4294967296) : byte r c < 4294967296 := nib_lt (nib_lt h)
theorem run_lt : ∀ (l : List UInt8) {r : Nat}, r < 4294967296 → run r l < 4294967296
 | [], _, h => h
 | c :: l, r, h => run_lt l (r := byte r c.toNat) (byte_lt h)
theorem upd_lt {s : Nat} (h : s < 4294967296) (l : List UInt8) : upd s l < 4294967296 := xor_lt (by omega) (run_lt l (xor_lt (by omega) h))
theorem sum_lt (l : List UInt8) : sum l < 4294967296 := upd_lt (by omega) l
end Go.Proofs.YtgddgipjpdjoaaaGreatDoor.Crc
namespace Go.Proofs.YtgddgipjpdjoaaaGreatDoor.Frm
open Go.Proofs.YtgddgipjpdjoaaaGreatDoor (Num.fixed Num.takeFixed)
def framed (p : List UInt8) : List UInt8 := Num.fixed p.length ++ (Num.fixed (Crc.sum (Num.fixed p.length ++ p)) ++ p)
def put (p : List UInt8) : List UInt8 × Nat := if p = [] then ([], 2) else if 8000 < p.length then ([], 4) else (framed p, 0)
def take (s : List UInt8) : List UInt8 × List UInt8 × Nat :=
 if s.length < 8 then ([], [], 3) else
 if (Num.takeFixed s).1 = 0 then ([], [], 2) else
 if 8000 < (Num.takeFixed s).1 then ([], [], 4) else
 if (s.drop 8).length < (Num.takeFixed s).1 then ([], [], 3) else
 if Crc.sum (s.take 4 ++ (s.drop 8).take (Num.takeFixed s).1) ≠ (Num.takeFixed (s.drop 4)).1 then ([], [], 5) else
 ((s.drop 8).take (Num.takeFixed s).1, (s.drop 8).drop (Num.takeFixed s).1, 0)
theorem framed_len (p : List UInt8) : (framed p).length = p.length + 8 := by simp [framed, Num.fixed]
theorem take_framed (p r : List UInt8) (h0 : p ≠ []) (h1 : p.length ≤ 8000) : take (framed p ++ r) = (p, r, 0) := by
 have hp : 0 < p.length := List.length_pos_iff.2 h0
 have e1 : Num.takeFixed (framed p ++ r) = (p.length, Num.fixed (Crc.sum (Num.fixed p.length ++ p)) ++ p ++ r, 0) := by
   rw [framed, List.append_assoc, Num.takeFixed_fixed _ (by omega)]
 have e2 : (framed p ++ r).drop 4 = Num.fixed (Crc.sum (Num.fixed p.length ++ p)) ++ (p ++ r) := by
   rw [framed, List.append_assoc, List.drop_append_of_le_length (by simp [Num.fixed_len]), List.drop_of_length_le (by simp [Num.fixed_len])]; simp
 have e3 : (framed p ++ r).drop 8 = p ++ r := by
   rw [show 8 = 4 + 4 from rfl, ← List.drop_drop, e2, List.drop_append_of_le_length (by simp [Num.fixed_len]), List.drop_of_length_le (by simp [Num.fixed_len])]; simp
 have e4 : (framed p ++ r).take 4 = Num.fixed p.length := by
   rw [framed, List.append_assoc, List.take_append_of_le_length (by simp [Num.fixed_len]), List.take_of_length_le (by simp [Num.fixed_len])]
 have e5 : (framed p ++ r).length = p.length + 8 + r.length := by rw [List.length_append, framed_len]
 unfold take
 rw [e1, e2, e3, e4, e5, Num.takeFixed_fixed _ (Crc.sum_lt _)]
 simp only
 rw [if_neg (by omega), if_neg (by omega), if_neg (by omega), if_neg (by simp), if_neg (by simp)]
 simp
theorem take_le (s : List UInt8) : (take s).2.2 ≤ 5 ∧ ((take s).2.2 ≠ 0 → (take s).1 = [] ∧ (take s).2.1 = []) ∧ ((take s).2.2 = 0 → 1 ≤ (take s).1.length ∧ (take s).1.length ≤ 8000 ∧ (take s).2.1.length + 9 ≤ s.length ∧ (take s).2.1.length + (take s).1.length + 8 = s.length) := by
 unfold take
 split
 · simp
 · split
   · simp
   · split
     · simp
     · split
       · simp
       · split
         · simp
         · rename_i h1 h2 h3 h4 h5
           simp only [List.length_drop] at h4
           simp only [List.length_take, List.length_drop]
           refine ⟨by omega, by simp, fun _ => ⟨by omega, by omega, by omega, by omega⟩⟩
def scanF : Nat → List UInt8 → List (List UInt8) × List UInt8
 | 0, s => ([], s)
 | f + 1, s => if (take s).2.2 ≠ 0 then ([], s) else ((take s).1 :: (scanF f (take s).2.1).1, (scanF f (take s).2.1).2)
def scan (s : List UInt8) : List (List UInt8) × List UInt8 := scanF s.length s
theorem scanF_fuel : ∀ (f g : Nat) (s : List UInt8), s.length ≤ f → s.length ≤ g → scanF f s = scanF g s
 | 0, 0, s, _, _ => rfl
 | 0, g + 1, s, h, _ => by
   have : s = [] := List.eq_nil_of_length_eq_zero (by omega)
   subst this; rfl
 | f + 1, 0, s, _, h => by
   have : s = [] := List.eq_nil_of_length_eq_zero (by omega)
   subst this; rfl
 | f + 1, g + 1, s, hf, hg => by
   unfold scanF
   split
   · rfl
   · rename_i h
     have := ((take_le s).2.2 (by omega)).2.2.1
     rw [scanF_fuel f g _ (by omega) (by omega)]
theorem scan_stop (s : List UInt8) (h : (take s).2.2 ≠ 0) : scan s = ([], s) := by
 unfold scan
 cases e : s.length with
 | zero => rfl
 | succ n => rw [scanF, if_pos h]
theorem scan_go (s : List UInt8) (h : (take s).2.2 = 0) : scan s = ((take s).1 :: (scan (take s).2.1).1, (scan (take s).2.1).2) := by
 have h2 := ((take_le s).2.2 h).2.2.1
 unfold scan
 cases e : s.length with
 | zero => omega
 | succ n =>
   rw [scanF, if_neg (by omega), scanF_fuel n (take s).2.1.length _ (by omega) (by omega)]
theorem scan_framed (p r : List UInt8) (h0 : p ≠ []) (h1 : p.length ≤ 8000) : scan (framed p ++ r) = (p :: (scan r).1, (scan r).2) := by
 have h := take_framed p r h0 h1
 rw [scan_go _ (by rw [h]), h]
theorem scan_nil : scan [] = ([], []) := rfl
theorem scan_members : ∀ (n : Nat) (s : List UInt8), s.length ≤ n → ∀ p ∈ (scan s).1, 1 ≤ p.length ∧ p.length ≤ 8000
 | n, s, hn => by
   by_cases h : (take s).2.2 = 0
   · rw [scan_go s h]
     have h2 := (take_le s).2.2 h
     match n with
     | 0 => omega
     | n + 1 =>
       have ih := scan_members n (take s).2.1 (by omega)
       intro p hp
       rcases List.mem_cons.1 hp with rfl | hp
       · exact ⟨h2.1, h2.2.1⟩
       · exact ih p hp
   · rw [scan_stop s h]; intro p hp; cases hp
theorem scan_count : ∀ (n : Nat) (s : List UInt8), s.length ≤ n → 9 * (scan s).1.length ≤ s.length
 | n, s, hn => by
   by_cases h : (take s).2.2 = 0
   · rw [scan_go s h]
     have h2 := (take_le s).2.2 h
     match n with
     | 0 => omega
     | n + 1 =>
       have ih := scan_count n (take s).2.1 (by omega)
       simp only [List.length_cons]; omega
   · rw [scan_stop s h]; simp
def good (p : List UInt8) : Prop := p ≠ [] ∧ p.length ≤ 8000
theorem put_good {p : List UInt8} (h : good p) : put p = (framed p, 0) := by
 unfold put; rw [if_neg h.1, if_neg (by have := h.2; omega)]
theorem scan_row : ∀ (l : List (List UInt8)) (r : List UInt8), (∀ p ∈ l, good p) → scan (l.flatMap framed ++ r) = (l ++ (scan r).1, (scan r).2)
 | [], r, _ => by simp
 | p :: l, r, h => by
   have h1 := h p (by simp)
   rw [List.flatMap_cons, List.append_assoc, scan_framed p _ h1.1 h1.2, scan_row l r (fun q hq => h q (by simp [hq]))]
   simp
theorem take_torn (p q r : List UInt8) (h0 : p ≠ []) (h1 : p.length ≤ 8000) (he : framed p = q ++ r) (hr : r ≠ []) : (take q).2.2 ≠ 0 := by
 have hl : q.length + r.length = p.length + 8 := by rw [← framed_len, he, List.length_append]
 have hr1 : 0 < r.length := List.length_pos_iff.2 hr
 by_cases hs : q.length < 8
 · unfold take; rw [if_pos hs]; simp
 · have e1 : (Num.takeFixed q).1 = p.length := by
     rcases q with _ | ⟨a, _ | ⟨b, _ | ⟨c, _ | ⟨d, q'⟩⟩⟩⟩
     · simp at hs
     · simp at hs
     · simp at hs
     · simp at hs
     · have e2 := Num.takeFixed_fixed p.length (by omega) (Num.fixed (Crc.sum (Num.fixed p.length ++ p)) ++ p)
       rw [framed] at he
       rw [he] at e2
       simp only [List.cons_append, Num.takeFixed] at e2 ⊢
       exact congrArg Prod.fst e2
   have hp : 0 < p.length := List.length_pos_iff.2 h0
   unfold take
   rw [if_neg hs, e1, if_neg (by omega), if_neg (by omega), if_pos (by rw [List.length_drop]; omega)]
   simp
theorem scan_prefix : ∀ (l : List (List UInt8)) (q r : List UInt8), (∀ p ∈ l, good p) → l.flatMap framed = q ++ r →
   ∃ k, k ≤ l.length ∧ (scan q).1 = l.take k ∧ ∀ j, j ≤ l.length → ((l.take j).flatMap framed).length ≤ q.length → j ≤ k
 | [], q, r, _, he => by
   have : q = [] := by simp at he; exact he.1
   subst this
   exact ⟨0, by simp, rfl, fun j h _ => by simpa using h⟩
 | p :: l, q, r, hg, he => by
   have h1 := hg p (by simp)
   by_cases hq : (framed p).length ≤ q.length
   · obtain ⟨q', rfl⟩ : ∃ q', q = framed p ++ q' := by
       have : framed p <+: q := List.prefix_of_prefix_length_le ⟨_, List.flatMap_cons.symm⟩ ⟨r, he.symm⟩ hq
       obtain ⟨q', h⟩ := this
       exact ⟨q', h.symm⟩
     rw [List.flatMap_cons, List.append_assoc] at he
     have he' := List.append_cancel_left he
     obtain ⟨k, hk1, hk2, hk3⟩ := scan_prefix l q' r (fun q hq => hg q (by simp [hq])) he'
     refine ⟨k + 1, by simp; omega, ?_, ?_⟩
     · rw [scan_framed p q' h1.1 h1.2, hk2]; simp
     · intro j hj hl
       match j with
       | 0 => omega
       | j + 1 =>
         simp only [List.take_succ_cons, List.flatMap_cons, List.length_append] at hl
         have := hk3 j (by simpa using hj) (by omega)
         omega
   · refine ⟨0, by simp, ?_, ?_⟩
     · have hx : ∃ x, framed p = q ++ x ∧ x ≠ [] := by
         have : q <+: framed p := List.prefix_of_prefix_length_le ⟨r, he.symm⟩ ⟨_, List.flatMap_cons.symm⟩ (by omega)
         obtain ⟨x, h⟩ := this
         refine ⟨x, h.symm, ?_⟩
         rintro rfl
         rw [List.append_nil] at h
         rw [← h] at hq; omega
       obtain ⟨x, hx1, hx2⟩ := hx
       rw [scan_stop q (take_torn p q x h1.1 h1.2 hx1 hx2)]; simp
     · intro j hj hl
       match j with
       | 0 => omega
       | j + 1 =>
         simp only [List.take_succ_cons, List.flatMap_cons, List.length_append] at hl
         omega
end Go.Proofs.YtgddgipjpdjoaaaGreatDoor.Frm
namespace Go.Proofs.YtgddgipjpdjoaaaGreatDoor.Evt
structure Event where
 kind : List UInt8
 data : List UInt8
structure Batch where
 stream : List UInt8
 expect : Int
 session : Int
 seq : Int
 events : List Event
structure Entry where
 pos : Int
 epoch : Int
 b : Batch
def zeroB : Batch := ⟨[], 0, 0, 0, []⟩
def zeroN : Entry := ⟨0, 0, zeroB⟩
def right (e : Event) : Bool := decide (e.data.length ≤ 200) && Txt.name e.kind
def number (n : Int) : Bool := decide (1 ≤ n) && decide (n ≤ 274877906944)
def headed (b : Batch) : Bool := Txt.name b.stream && decide (-1 ≤ b.expect) && decide (b.expect ≤ 274877906944) && number b.session && number b.seq && !b.events.isEmpty
def fits (b : Batch) : Nat :=
 if headed b = false then 1 else if 8 < b.events.length then 4 else if b.events.all right = false then 1 else 0
def bytesE (e : Event) : List UInt8 := Num.putText e.kind ++ Num.putText e.data
def bytesB (b : Batch) : List UInt8 :=
 (Num.putText b.stream ++ Num.putInt b.expect ++ Num.put (Num.held b.session) ++ Num.put (Num.held b.seq) ++ Num.put (Num.held b.events.length)) ++ b.events.flatMap bytesE
def putBatch (b : Batch) : List UInt8 := if fits b ≠ 0 then [] else bytesB b
def rdName (st : List UInt8 × Nat) : List UInt8 × (List UInt8 × Nat) := if st.2 ≠ 0 then ([], st) else ((Num.takeText st.1 200).1, (Num.takeText st.1 200).2.1, (Num.takeText st.1 200).2.2)
def rdNum (st : List UInt8 × Nat) : Nat × (List UInt8 × Nat) := if st.2 ≠ 0 then (0, st) else ((Num.take st.1).1, (Num.take st.1).2.1, (Num.take st.1).2.2)
def rdInt (st : List UInt8 × Nat) : Int × (List UInt8 × Nat) := if st.2 ≠ 0 then (0, st) else ((Num.takeInt st.1).1, (Num.takeInt st.1).2.1, (Num.takeInt st.1).2.2)
def note (st : List UInt8 × Nat) (e : Nat) : List UInt8 × Nat := if st.2 = 0 then (st.1, e) else st
def rdEvent (st : List UInt8 × Nat) : Event × (List UInt8 × Nat) := (⟨(rdName st).1, (rdName (rdName st).2).1⟩, (rdName (rdName st).2).2)
def rdEvents : Nat → List UInt8 × Nat → List Event × (List UInt8 × Nat)
 | 0, st => ([], st)
 | n + 1, st => if st.2 ≠ 0 then ([], st) else ((rdEvent st).1 :: (rdEvents n (rdEvent st).2).1, (rdEvents n (rdEvent st).2).2)
def rdHead (s : List UInt8) : List UInt8 × Int × Nat × Nat × Nat × (List UInt8 × Nat) :=
 let a := rdName (s, 0); let b := rdInt a.2; let c := rdNum b.2; let d := rdNum c.2; let e := rdNum d.2
 (a.1, b.1, c.1, d.1, e.1, e.2)
def rdMany (many : Nat) (st : List UInt8 × Nat) : List UInt8 × Nat := if 8 < many then note st 4 else st
def rdLast (b : Batch) (st : List UInt8 × Nat) : List UInt8 × Nat := if fits b ≠ 0 then note st 2 else st
def takeBatch (s : List UInt8) : Batch × List UInt8 × Nat :=
 let h := rdHead s
 let q := rdEvents h.2.2.2.2.1 (rdMany h.2.2.2.2.1 h.2.2.2.2.2)
 let b : Batch := ⟨h.1, h.2.1, h.2.2.1, h.2.2.2.1, q.1⟩
 let st := rdLast b q.2
 if st.2 ≠ 0 then (zeroB, [], st.2) else (b, st.1, 0)
def rightN (e : Entry) : Bool := number e.pos && number e.epoch && (fits e.b == 0)
def put (e : Entry) : List UInt8 := if rightN e then Num.put (Num.held e.pos) ++ Num.put (Num.held e.epoch) ++ putBatch e.b else []
def take (s : List UInt8) : Entry × List UInt8 × Nat :=
 let p := Num.take s
 if p.2.2 ≠ 0 then (zeroN, [], p.2.2) else
 let q := Num.take p.2.1
 if q.2.2 ≠ 0 then (zeroN, [], q.2.2) else
 let b := takeBatch q.2.1
 if b.2.2 ≠ 0 then (zeroN, [], b.2.2) else
 if rightN ⟨p.1, q.1, b.1⟩ then (⟨p.1, q.1, b.1⟩, b.2.1, 0) else (zeroN, [], 2)
def follows : List Entry → Int → Int → Bool
 | [], _, _ => true
 | e :: l, pos, epoch => if e.pos ≠ pos + 1 ∨ e.epoch < epoch ∨ rightN e = false then false else follows l e.pos e.epoch
theorem number_iff (n : Int) : number n = true ↔ 1 ≤ n ∧ n ≤ 274877906944 := by simp [number]
theorem held_number {n : Int} (h : number n = true) : Num.held n ≤ 1099511627776 ∧ ((Num.held n : Nat) : Int) = n := by
 have := (number_iff n).1 h
 refine ⟨Num.held_le n, ?_⟩
 unfold Num.held
 rw [if_neg (by omega), if_pos (by omega)]; omega
theorem tok_len4 {t : Int × List UInt8} (h : Txt.Shape t) : t.2.length ≤ 4 := by
 rcases h with ⟨_, b, h, _⟩ | ⟨_, _, h⟩ | ⟨_, _, _, _, h, _⟩
 · rw [h]; simp
 · rw [h]; simp
 · exact h
theorem flat_len4 : ∀ (ts : List (Int × List UInt8)), (∀ t ∈ ts, Txt.Shape t) → (ts.flatMap (·.2)).length ≤ 4 * ts.length
 | [], _ => by simp
 | t :: ts, h => by
   have h1 := tok_len4 (h t (by simp))
   have h2 := flat_len4 ts (fun u hu => h u (by simp [hu]))
   simp only [List.flatMap_cons, List.length_append, List.length_cons]; omega
theorem name_len {l : List UInt8} (h : Txt.name l = true) : l.length ≤ 128 := by
 have h1 := flat_len4 (Txt.toks l) (Txt.shape_of l)
 rw [Txt.toks_flat] at h1
 simp only [Txt.name, Bool.and_eq_true, decide_eq_true_eq] at h
 omega
theorem right_len {e : Event} (h : right e = true) : e.kind.length ≤ 128 ∧ e.data.length ≤ 200 := by
 simp only [right, Bool.and_eq_true, decide_eq_true_eq] at h
 exact ⟨name_len h.2, h.1⟩
theorem fits_zero {b : Batch} (h : fits b = 0) : Txt.name b.stream = true ∧ (-1 ≤ b.expect ∧ b.expect ≤ 274877906944) ∧ number b.session = true ∧ number b.seq = true ∧ b.events ≠ [] ∧ b.events.length ≤ 8 ∧ ∀ e ∈ b.events, right e = true := by
 unfold fits at h
 split at h
 · cases h
 · split at h
   · cases h
   · split at h
     · cases h
     · rename_i h1 h2 h3
       simp only [headed, Bool.and_eq_true, decide_eq_true_eq, Bool.not_eq_false, Bool.not_eq_true', List.isEmpty_eq_false_iff, ne_eq, List.all_eq_true] at h1 h2 h3
       obtain ⟨⟨⟨⟨⟨a, b1⟩, b2⟩, c⟩, d⟩, e⟩ := h1
       exact ⟨a, ⟨b1, b2⟩, c, d, e, by omega, h3⟩
theorem rdName_putText (t r : List UInt8) (h : t.length ≤ 200) : rdName (Num.putText t ++ r, 0) = (t, r, 0) := by
 unfold rdName
 rw [if_neg (by simp), Num.takeText_put t r 200 (by omega) (by omega)]
theorem rdNum_put (n : Nat) (r : List UInt8) (h : n ≤ 1099511627776) : rdNum (Num.put n ++ r, 0) = (n, r, 0) := by
 unfold rdNum
 rw [if_neg (by simp), Num.take_put n h r]
theorem rdInt_put (n : Int) (r : List UInt8) (h1 : -1 ≤ n) (h2 : n ≤ 274877906944) : rdInt (Num.putInt n ++ r, 0) = (n, r, 0) := by
 unfold rdInt
 rw [if_neg (by simp), Num.takeInt_put n (by omega) (by omega) r]
theorem rdEvent_bytes (e : Event) (r : List UInt8) (h : right e = true) : rdEvent (bytesE e ++ r, 0) = (e, r, 0) := by
 obtain ⟨h1, h2⟩ := right_len h
 unfold rdEvent bytesE
 rw [List.append_assoc, rdName_putText _ _ (by omega), rdName_putText _ _ (by omega)]
theorem rdEvents_bytes : ∀ (l : List Event) (r : List UInt8), (∀ e ∈ l, right e = true) → rdEvents l.length (l.flatMap bytesE ++ r, 0) = (l, r, 0)
 | [], r, _ => by simp [rdEvents]
 | e :: l, r, h => by
   rw [List.length_cons, rdEvents, if_neg (by simp), List.flatMap_cons, List.append_assoc, rdEvent_bytes e _ (h e (by simp))]
   simp only [rdEvents_bytes l r (fun x hx => h x (by simp [hx]))]
theorem takeBatch_put (b : Batch) (r : List UInt8) (h : fits b = 0) : takeBatch (putBatch b ++ r) = (b, r, 0) := by
 obtain ⟨h1, ⟨h2, h3⟩, h4, h5, h6, h7, h8⟩ := fits_zero h
 have hn := name_len h1
 obtain ⟨i1, i2⟩ := held_number h4
 obtain ⟨j1, j2⟩ := held_number h5
 have hk : Num.held (b.events.length : Int) = b.events.length := Num.held_of _ (by omega)
 have e : rdHead (putBatch b ++ r) = (b.stream, b.expect, Num.held b.session, Num.held b.seq, b.events.length, b.events.flatMap bytesE ++ r, 0) := by
   unfold rdHead putBatch
   rw [if_neg (by simp [h]), bytesB, hk]
   simp only [List.append_assoc]
   rw [rdName_putText _ _ (by omega)]
   simp only
   rw [rdInt_put _ _ h2 h3]
   simp only
   rw [rdNum_put _ _ i1]
   simp only
   rw [rdNum_put _ _ j1]
   simp only
   rw [rdNum_put _ _ (by omega)]
 unfold takeBatch
 rw [e]
 simp only [rdMany]
 rw [if_neg (show ¬ 8 < b.events.length by omega), rdEvents_bytes _ _ h8]
 simp only [i2, j2]
 rw [show (⟨b.stream, b.expect, b.session, b.seq, b.events⟩ : Batch) = b from rfl, rdLast, if_neg (show ¬ fits b ≠ 0 by simp [h])]
 simp
theorem rightN_iff {e : Entry} : rightN e = true ↔ number e.pos = true ∧ number e.epoch = true ∧ fits e.b = 0 := by
 simp [rightN, and_assoc]
theorem take_put (e : Entry) (r : List UInt8) (h : rightN e = true) : take (put e ++ r) = (e, r, 0) := by
 obtain ⟨h1, h2, h3⟩ := rightN_iff.1 h
 obtain ⟨i1, i2⟩ := held_number h1
 obtain ⟨j1, j2⟩ := held_number h2
 unfold put
 rw [if_pos h]
 simp only [List.append_assoc, take]
 rw [Num.take_put _ i1]
 simp only [ne_eq, not_true_eq_false, if_false]
 rw [Num.take_put _ j1]
 simp only [not_true_eq_false, if_false]
 rw [takeBatch_put _ _ h3]
 simp only [not_true_eq_false, if_false, i2, j2]
 rw [show (⟨e.pos, e.epoch, e.b⟩ : Entry) = e from rfl, if_pos h]
theorem take_right (s : List UInt8) (h : (take s).2.2 = 0) : rightN (take s).1 = true := by
 unfold take at h ⊢
 simp only at h ⊢
 split at h
 · rename_i g; exact absurd h g
 · split at h
   · rename_i g; exact absurd h g
   · split at h
     · rename_i g; exact absurd h g
     · split at h
       · rename_i g1 g2 g3 g4
         rw [if_neg g1, if_neg g2, if_neg g3, if_pos g4]
         exact g4
       · cases h
theorem putText_len (t : List UInt8) : (Num.putText t).length ≤ 6 + t.length := by
 have := Num.put_le6 _ (Num.held_le t.length)
 simp only [Num.putText, List.length_append]; omega
theorem bytesE_len {e : Event} (h : right e = true) : (bytesE e).length ≤ 340 := by
 obtain ⟨h1, h2⟩ := right_len h
 have h3 := putText_len e.kind
 have h4 := putText_len e.data
 simp only [bytesE, List.length_append]; omega
theorem flat_len (k : Nat) : ∀ (l : List Event), (∀ e ∈ l, (bytesE e).length ≤ k) → (l.flatMap bytesE).length ≤ k * l.length
 | [], _ => by simp
 | e :: l, h => by
   have h1 := h e (by simp)
   have h2 := flat_len k l (fun x hx => h x (by simp [hx]))
   simp only [List.flatMap_cons, List.length_append, List.length_cons, Nat.mul_add]; omega
theorem putBatch_len (b : Batch) : (putBatch b).length ≤ 3000 := by
 unfold putBatch
 split
 · simp
 · rename_i h
   have h0 : fits b = 0 := by omega
   obtain ⟨h1, _, _, _, _, h7, h8⟩ := fits_zero h0
   have a1 := putText_len b.stream
   have a2 := name_len h1
   have a3 := Num.put_le6 _ (Num.zig_le b.expect)
   have a4 := Num.put_le6 _ (Num.held_le b.session)
   have a5 := Num.put_le6 _ (Num.held_le b.seq)
   have a6 := Num.put_le6 _ (Num.held_le b.events.length)
   have a7 := flat_len 340 b.events (fun e he => bytesE_len (h8 e he))
   simp only [bytesB, Num.putInt, List.length_append]; omega
theorem put_len (e : Entry) : (put e).length ≤ 3012 := by
 unfold put
 split
 · have a4 := Num.put_le6 _ (Num.held_le e.pos)
   have a5 := Num.put_le6 _ (Num.held_le e.epoch)
   have a6 := putBatch_len e.b
   simp only [List.length_append]; omega
 · simp
end Go.Proofs.YtgddgipjpdjoaaaGreatDoor.Evt
namespace Go.Proofs.YtgddgipjpdjoaaaGreatDoor.Seg
open Evt
def headP (first : Int) : List UInt8 := 115 :: Num.put (Num.held first)
def bytesH (first : Int) : List UInt8 := Frm.framed (headP first)
def member (e : Entry) : List UInt8 := 101 :: Evt.put e
def bytesB (l : List Entry) : List UInt8 := (l.map member).flatMap Frm.framed
theorem headP_good (first : Int) : Frm.good (headP first) := by
 have := Num.put_le6 _ (Num.held_le first)
 exact ⟨by simp [headP], by simp only [headP, List.length_cons]; omega⟩
theorem member_good (e : Entry) : Frm.good (member e) := by
 have := Evt.put_len e
 exact ⟨by simp [member], by simp only [member, List.length_cons]; omega⟩
theorem bytesB_append (a b : List Entry) : bytesB (a ++ b) = bytesB a ++ bytesB b := by simp [bytesB]
theorem bytesB_nil : bytesB [] = [] := rfl
theorem bytesB_len : ∀ (l : List Entry), (bytesB l).length ≤ 3021 * l.length
 | [] => by simp [bytesB]
 | e :: l => by
   have h1 := Evt.put_len e
   have h2 := bytesB_len l
   have h3 : bytesB (e :: l) = Frm.framed (member e) ++ bytesB l := rfl
   rw [h3, List.length_append, Frm.framed_len, member, List.length_cons, List.length_cons]; omega
theorem bytesH_len (first : Int) : (bytesH first).length ≤ 15 := by
 have := Num.put_le6 _ (Num.held_le first)
 rw [bytesH, Frm.framed_len, headP, List.length_cons]; omega
def goes (pos epoch : Int) (s : List UInt8) : Bool :=
 (s.head? == some 101) && ((Evt.take (s.drop 1)).2.2 == 0) && ((Evt.take (s.drop 1)).2.1.isEmpty) && ((Evt.take (s.drop 1)).1.pos == pos + 1) && decide (epoch ≤ (Evt.take (s.drop 1)).1.epoch)
def entF : Int → Int → List (List UInt8) → List Entry
 | _, _, [] => []
 | pos, epoch, s :: l => if goes pos epoch s then (Evt.take (s.drop 1)).1 :: entF (Evt.take (s.drop 1)).1.pos (Evt.take (s.drop 1)).1.epoch l else []
structure Seg where
 first : Int
 entries : List Entry
 torn : Bool
def zeroS : Seg := ⟨0, [], false⟩
def opens (h : List UInt8) : Bool :=
 (h.head? == some 115) && ((Num.take (h.drop 1)).2.2 == 0) && ((Num.take (h.drop 1)).2.1.isEmpty) && decide (1 ≤ (Num.take (h.drop 1)).1) && decide ((Num.take (h.drop 1)).1 ≤ 274877906944)
def loaded (first : Int) (l : List Entry) (s : List UInt8) : Seg := ⟨first, l, bytesH first ++ bytesB l != s⟩
def load (s : List UInt8) : Seg × Nat :=
 match (Frm.scan s).1 with
 | [] => (zeroS, 2)
 | h :: l => if opens h then (loaded (Num.take (h.drop 1)).1 (entF ((Num.take (h.drop 1)).1 - 1) 0 l) s, 0) else (zeroS, 2)
def last (g : Seg) : Int × Int := match g.entries.getLast? with | none => (g.first - 1, 0) | some e => (e.pos, e.epoch)
theorem follows_cons {e : Entry} {l : List Entry} {pos epoch : Int} : follows (e :: l) pos epoch = true ↔ e.pos = pos + 1 ∧ epoch ≤ e.epoch ∧ rightN e = true ∧ follows l e.pos e.epoch = true := by
 rw [follows]
 split
 · rename_i h
   simp only [Bool.false_eq_true, false_iff]
   rintro ⟨h1, h2, h3, _⟩
   rcases h with h | h | h
   · exact h h1
   · omega
   · rw [h3] at h; cases h
 · rename_i h
   have h1 : ¬ (rightN e = false) := fun g => h (.inr (.inr g))
   constructor
   · intro g; exact ⟨by omega, by omega, by simpa using h1, g⟩
   · rintro ⟨_, _, _, g⟩; exact g
def endOf (pos epoch : Int) : List Entry → Int × Int
 | [] => (pos, epoch)
 | e :: l => endOf e.pos e.epoch l
theorem follows_append : ∀ (a b : List Entry) (pos epoch : Int), follows (a ++ b) pos epoch = true ↔ follows a pos epoch = true ∧ follows b (endOf pos epoch a).1 (endOf pos epoch a).2 = true
 | [], b, pos, epoch => by simp [follows, endOf]
 | e :: a, b, pos, epoch => by
   rw [List.cons_append, follows_cons, follows_cons, follows_append a b, endOf]; simp [and_assoc]
theorem endOf_last : ∀ (l : List Entry) (pos epoch : Int), endOf pos epoch l = match l.getLast? with | none => (pos, epoch) | some e => (e.pos, e.epoch)
 | [], pos, epoch => rfl
 | [e], pos, epoch => rfl
 | e :: f :: l, pos, epoch => by
   rw [endOf, endOf_last (f :: l)]
   simp [List.getLast?_cons]
theorem last_end (g : Seg) : last g = endOf (g.first - 1) 0 g.entries := by
 rw [endOf_last, last]
theorem goes_member {e : Entry} {pos epoch : Int} (h : rightN e = true) (h1 : e.pos = pos + 1) (h2 : epoch ≤ e.epoch) : goes pos epoch (member e) = true ∧ (Evt.take ((member e).drop 1)).1 = e := by
 have ht : Evt.take ((member e).drop 1) = (e, [], 0) := by
   have := Evt.take_put e [] h
   simpa [member] using this
 refine ⟨?_, by rw [ht]⟩
 unfold goes
 rw [ht]
 simp [member, h1, h2]
theorem entF_members : ∀ (l : List Entry) (r : List (List UInt8)) (pos epoch : Int), follows l pos epoch = true → entF pos epoch (l.map member ++ r) = l ++ entF (endOf pos epoch l).1 (endOf pos epoch l).2 r
 | [], r, pos, epoch, _ => rfl
 | e :: l, r, pos, epoch, h => by
   obtain ⟨h1, h2, h3, h4⟩ := follows_cons.1 h
   obtain ⟨g1, g2⟩ := goes_member h3 h1 h2
   rw [List.map_cons, List.cons_append, entF, if_pos g1, g2, entF_members l r _ _ h4, endOf, List.cons_append]
theorem entF_follows : ∀ (l : List (List UInt8)) (pos epoch : Int), follows (entF pos epoch l) pos epoch = true
 | [], _, _ => rfl
 | s :: l, pos, epoch => by
   rw [entF]
   split
   · rename_i h
     simp only [goes, Bool.and_eq_true, beq_iff_eq, decide_eq_true_eq] at h
     obtain ⟨⟨⟨⟨h1, h2⟩, h3⟩, h4⟩, h5⟩ := h
     exact follows_cons.2 ⟨h4, h5, Evt.take_right _ h2, entF_follows l _ _⟩
   · rfl
theorem entF_len : ∀ (l : List (List UInt8)) (pos epoch : Int), (entF pos epoch l).length ≤ l.length
 | [], _, _ => Nat.le_refl _
 | s :: l, pos, epoch => by
   rw [entF]
   split
   · have := entF_len l (Evt.take (s.drop 1)).1.pos (Evt.take (s.drop 1)).1.epoch
     simp only [List.length_cons]; omega
   · simp
theorem headP_opens (first : Int) (h1 : 1 ≤ first) (h2 : first ≤ 274877906944) : opens (headP first) = true ∧ (((Num.take ((headP first).drop 1)).1 : Nat) : Int) = first := by
 have e : Num.held first = first.toNat := by unfold Num.held; rw [if_neg (by omega), if_pos (by omega)]
 have ht : Num.take ((headP first).drop 1) = (first.toNat, [], 0) := by
   have := Num.take_put first.toNat (by omega) []
   simpa [headP, e] using this
 unfold opens
 rw [ht]
 refine ⟨?_, by simp only; omega⟩
 simp [headP]; omega
theorem load_prefix (first : Int) (l : List Entry) (q r : List UInt8) (h1 : 1 ≤ first) (h2 : first ≤ 274877906944) (hf : follows l (first - 1) 0 = true) (he : bytesH first ++ bytesB l = q ++ r) (hq : (bytesH first).length ≤ q.length) :
   ∃ k, k ≤ l.length ∧ load q = (loaded first (l.take k) q, 0) ∧ (∀ j, j ≤ l.length → (bytesH first ++ bytesB (l.take j)).length ≤ q.length → j ≤ k) := by
 have hall : ∀ p ∈ headP first :: l.map member, Frm.good p := by
   intro p hp
   rcases List.mem_cons.1 hp with rfl | hp
   · exact headP_good first
   · obtain ⟨e, _, rfl⟩ := List.mem_map.1 hp; exact member_good e
 obtain ⟨k, hk1, hk2, hk3⟩ := Frm.scan_prefix (headP first :: l.map member) q r hall (by simpa [bytesH, bytesB] using he)
 have hk0 : 1 ≤ k := hk3 1 (by simp) (by simpa [bytesH] using hq)
 obtain ⟨k, rfl⟩ : ∃ m, k = m + 1 := ⟨k - 1, by omega⟩
 simp only [List.length_cons, List.length_map] at hk1
 obtain ⟨o1, o2⟩ := headP_opens first h1 h2
 have hs : (Frm.scan q).1 = headP first :: (l.take k).map member := by rw [hk2]; simp [List.map_take]
 have hft : follows (l.take k) (first - 1) 0 = true := by
   have := (follows_append (l.take k) (l.drop k) (first - 1) 0).1 (by rw [List.take_append_drop]; exact hf)
   exact this.1
 refine ⟨k, by omega, ?_, ?_⟩
 · unfold load
   rw [hs]
   simp only [o1, if_true, o2]
   have := entF_members (l.take k) [] (first - 1) 0 hft
   simp only [List.append_nil] at this
   rw [this, entF, List.append_nil]
 · intro j hj hl
   have := hk3 (j + 1) (by simp; omega) (by
     simp only [List.take_succ_cons, List.flatMap_cons, ← List.map_take]
     simpa [bytesH, bytesB] using hl)
   omega
theorem load_bytes (first : Int) (l : List Entry) (h1 : 1 ≤ first) (h2 : first ≤ 274877906944) (hf : follows l (first - 1) 0 = true) : load (bytesH first ++ bytesB l) = (⟨first, l, false⟩, 0) := by
 obtain ⟨k, k1, k2, k3⟩ := load_prefix first l (bytesH first ++ bytesB l) [] h1 h2 hf (by simp) (by simp)
 have := k3 l.length (Nat.le_refl _) (by simp)
 have e : l.take k = l := List.take_of_length_le (by omega)
 rw [k2, e, loaded]
 simp
theorem load_le (s : List UInt8) : (load s).2 ≤ 2 ∧ ((load s).2 ≠ 0 → load s = (zeroS, 2)) ∧
   ((load s).2 = 0 → 1 ≤ (load s).1.first ∧ (load s).1.first ≤ 274877906944 ∧ follows (load s).1.entries ((load s).1.first - 1) 0 = true ∧ (load s).1.torn = (bytesH (load s).1.first ++ bytesB (load s).1.entries != s) ∧ 9 * (load s).1.entries.length ≤ s.length) := by
 have hc := Frm.scan_count s.length s (Nat.le_refl _)
 unfold load
 split
 · simp
 · rename_i h l hs
   rw [hs] at hc
   split
   · rename_i g
     simp only [opens, Bool.and_eq_true, beq_iff_eq, decide_eq_true_eq] at g
     have := entF_len l (((Num.take (h.drop 1)).1 : Nat) - 1 : Int) 0
     simp only [List.length_cons] at hc
     refine ⟨by simp, by simp, fun _ => ⟨?_, ?_, entF_follows _ _ _, rfl, ?_⟩⟩
     · simp only [loaded]; omega
     · simp only [loaded]; omega
     · simp only [loaded]; omega
   · simp
end Go.Proofs.YtgddgipjpdjoaaaGreatDoor.Seg
namespace Go.Proofs.YtgddgipjpdjoaaaGreatDoor.Seg
def nameOf (n : Int) : List UInt8 := if 1 ≤ n ∧ n ≤ 1073741824 then [115, 101, 103, 45] ++ Lib.decDigits n.toNat else []
theorem digit_nat (d : Nat) (h : d < 10) : (UInt8.ofNat (48 + d)).toNat = 48 + d := by
 rw [UInt8.toNat_ofNat']; omega
theorem parse_dec : ∀ (n : Nat) (r : List UInt8), n ≤ 1073741824 → Lib.parseUint10 0 (Lib.decDigits n ++ r) = Lib.parseUint10 n r := by
 intro n
 induction n using Nat.strongRecOn with
 | ind n ih =>
   intro r h
   rw [Lib.decDigits]
   by_cases h1 : n < 10
   · rw [dif_pos h1]
     have e := digit_nat n h1
     simp only [List.singleton_append, Lib.parseUint10]
     rw [e, if_pos (by omega), if_neg (by omega), if_neg (by omega)]
     congr 1; omega
   · rw [dif_neg h1, List.append_assoc, ih (n / 10) (by omega) _ (by omega)]
     have e := digit_nat (n % 10) (by omega)
     simp only [List.singleton_append, Lib.parseUint10]
     rw [e, if_pos (by omega), if_neg (by omega), if_neg (by omega)]
     congr 1; omega
theorem dec_head : ∀ n : Nat, ∃ c r, Lib.decDigits n = c :: r ∧ 48 ≤ c.toNat ∧ c.toNat ≤ 57 := by
 intro n
 induction n using Nat.strongRecOn with
 | ind n ih =>
   rw [Lib.decDigits]
   by_cases h1 : n < 10
   · rw [dif_pos h1]
     have e := digit_nat n h1
     exact ⟨_, _, rfl, by omega, by omega⟩
   · rw [dif_neg h1]
     obtain ⟨c, r, e, h2, h3⟩ := ih (n / 10) (by omega)
     exact ⟨c, r ++ [_], by rw [e]; rfl, h2, h3⟩
theorem dec_len : ∀ (k n : Nat), n < 10 ^ (k + 1) → (Lib.decDigits n).length ≤ k + 1 := by
 intro k
 induction k with
 | zero => intro n h; rw [Lib.decDigits, dif_pos (by simpa using h)]; simp
 | succ k ih =>
   intro n h
   rw [Lib.decDigits]
   by_cases h1 : n < 10
   · rw [dif_pos h1]; simp
   · rw [dif_neg h1, List.length_append]
     have := ih (n / 10) (Nat.div_lt_of_lt_mul (by rw [Nat.pow_succ] at h; omega))
     simp; omega
theorem parseMag_dec (n : Nat) (h : n ≤ 1073741824) : Lib.parseMag (Lib.decDigits n) = .ok n := by
 obtain ⟨c, r, e, h2, h3⟩ := dec_head n
 have := parse_dec n [] h
 rw [List.append_nil] at this
 rw [Lib.parseMag, if_neg (by rw [e]; simp), this]; rfl
theorem atoi_dec (n : Nat) (h : n ≤ 1073741824) : Lib.atoiAll (Lib.decDigits n) = .ok (n : Int) := by
 obtain ⟨c, r, e, h2, h3⟩ := dec_head n
 have hm := parseMag_dec n h
 rw [e] at hm ⊢
 unfold Lib.atoiAll
 simp only
 rw [if_neg (by omega), hm]
 simp only
 rw [if_neg (by omega), if_neg (by omega), if_neg (by omega)]
theorem name_len (n : Int) : (nameOf n).length ≤ 14 := by
 unfold nameOf
 split
 · have := dec_len 9 n.toNat (by omega)
   simp only [List.length_append, List.length_cons, List.length_nil]; omega
 · simp
theorem name_min (n : Int) (h1 : 1 ≤ n) (h2 : n ≤ 1073741824) : 5 ≤ (nameOf n).length := by
 obtain ⟨c, r, e, h2, h3⟩ := dec_head n.toNat
 unfold nameOf
 rw [if_pos ⟨h1, by omega⟩, e]; simp only [List.length_append, List.length_cons, List.length_nil]; omega
theorem name_ne (n : Int) (h1 : 1 ≤ n) (h2 : n ≤ 1073741824) : nameOf n ≠ [] := fun h => by
 have := name_min n h1 h2; rw [h] at this; simp at this
def numberOf (s : List UInt8) : Int :=
 match Lib.parseUint10 0 (s.drop 4) with
 | .ok u => if nameOf u = s ∧ s ≠ [] then u else 0
 | _ => 0
def IsNum (s : List UInt8) (n : Int) : Prop := (1 ≤ n ∧ n ≤ 1073741824 ∧ nameOf n = s) ∨ (n = 0 ∧ ∀ m : Int, 1 ≤ m → m ≤ 1073741824 → nameOf m ≠ s)
theorem number_name (n : Int) (h1 : 1 ≤ n) (h2 : n ≤ 1073741824) : numberOf (nameOf n) = n := by
 have e : (nameOf n).drop 4 = Lib.decDigits n.toNat := by unfold nameOf; rw [if_pos ⟨h1, h2⟩]; rfl
 have hp := parse_dec n.toNat [] (by omega)
 rw [List.append_nil] at hp
 have en : ((n.toNat : Nat) : Int) = n := by omega
 rw [numberOf, e, hp]
 simp only [Lib.parseUint10]
 rw [en, if_pos ⟨rfl, name_ne n h1 h2⟩]
theorem isNum_eq {s : List UInt8} {n : Int} (h : IsNum s n) : n = numberOf s := by
 rcases h with ⟨h1, h2, rfl⟩ | ⟨rfl, h⟩
 · exact (number_name n h1 h2).symm
 · unfold numberOf
   split
   · rename_i u hu
     split
     · rename_i g
       by_cases h1 : 1 ≤ (u : Int) ∧ (u : Int) ≤ 1073741824
       · exact absurd g.1 (h u h1.1 h1.2)
       · exfalso
         have := g.1
         unfold nameOf at this
         rw [if_neg h1] at this
         exact g.2 this.symm
     · rfl
   · rfl
theorem name_inj {n m : Int} (h1 : 1 ≤ n) (h2 : n ≤ 1073741824) (h3 : 1 ≤ m) (h4 : m ≤ 1073741824) (h : nameOf n = nameOf m) : n = m := by
 rw [← number_name n h1 h2, h, number_name m h3 h4]
theorem trim_name (m : Int) (h1 : 1 ≤ m) (h2 : m ≤ 1073741824) : (nameOf m).drop 4 = Lib.decDigits m.toNat ∧ (nameOf m).take 4 = [115, 101, 103, 45] := by
 unfold nameOf; rw [if_pos ⟨h1, h2⟩]; exact ⟨rfl, rfl⟩
end Go.Proofs.YtgddgipjpdjoaaaGreatDoor.Seg
namespace Go.Proofs.YtgddgipjpdjoaaaGreatDoor.Dk
structure File where
 name : List UInt8
 bytes : ByteArray
 synced : Nat
def look : List File → List UInt8 → Option File
 | [], _ => none
 | x :: fs, k => if x.name = k then some x else look fs k
def put (y : File) : List File → List File
 | [] => [y]
 | x :: fs => if x.name = y.name then y :: fs else if y.name < x.name then y :: x :: fs else x :: put y fs
def del (k : List UInt8) : List File → List File
 | [] => []
 | x :: fs => if x.name = k then fs else x :: del k fs
def total : List File → Nat
 | [] => 0
 | x :: fs => x.bytes.size + total fs
def Sorted (fs : List File) : Prop := fs.Pairwise fun a b => a.name < b.name
theorem look_name : ∀ {fs : List File} {k : List UInt8} {x : File}, look fs k = some x → x.name = k ∧ x ∈ fs
 | [], _, _, h => by cases h
 | y :: fs, k, x, h => by
   rw [look] at h
   split at h
   · rename_i e; cases h; exact ⟨e, by simp⟩
   · have := look_name h; exact ⟨this.1, by simp [this.2]⟩
theorem look_none : ∀ {fs : List File} {k : List UInt8}, look fs k = none → ∀ x ∈ fs, x.name ≠ k
 | [], _, _, x, hx => by cases hx
 | y :: fs, k, h, x, hx => by
   rw [look] at h
   split at h
   · cases h
   · rename_i e
     rcases List.mem_cons.1 hx with rfl | hx
     · exact e
     · exact look_none h x hx
theorem look_put_same (y : File) : ∀ fs : List File, look (put y fs) y.name = some y
 | [] => by simp [put, look]
 | x :: fs => by
   rw [put]
   split
   · simp [look]
   · split
     · simp [look]
     · rename_i h _; rw [look, if_neg h, look_put_same y fs]
theorem look_put_other (y : File) {k : List UInt8} (hk : k ≠ y.name) : ∀ fs : List File, look (put y fs) k = look fs k
 | [] => by simp only [put, look]; rw [if_neg (Ne.symm hk)]
 | x :: fs => by
   rw [put]
   split
   · rename_i h; simp only [look]; rw [if_neg (Ne.symm hk), h, if_neg (Ne.symm hk)]
   · split
     · simp only [look]; rw [if_neg (Ne.symm hk)]
     · simp only [look]; rw [look_put_other y hk fs]
theorem mem_put (y : File) : ∀ (fs : List File) (x : File), x ∈ put y fs → x = y ∨ x ∈ fs
 | [], x, h => by simp [put] at h; exact .inl h
 | z :: fs, x, h => by
   rw [put] at h
   split at h
   · rcases List.mem_cons.1 h with h | h
     · exact .inl h
     · exact .inr (by simp [h])
   · split at h
     · rcases List.mem_cons.1 h with h | h
       · exact .inl h
       · exact .inr h
     · rcases List.mem_cons.1 h with h | h
       · exact .inr (by simp [h])
       · rcases mem_put y fs x h with h | h
         · exact .inl h
         · exact .inr (by simp [h])
theorem lt_of_not {a b : List UInt8} (h1 : a ≠ b) (h2 : ¬ b < a) : a < b :=
  Std.lt_of_le_of_ne (Std.not_lt.1 h2) h1
theorem sorted_put (y : File) : ∀ fs : List File, Sorted fs → Sorted (put y fs)
 | [], _ => by simp [put, Sorted]
 | x :: fs, h => by
   have h' := List.pairwise_cons.1 h
   rw [put]
   split
   · rename_i e
     exact List.pairwise_cons.2 ⟨fun z hz => by rw [← e]; exact h'.1 z hz, h'.2⟩
   · split
     · rename_i e
       refine List.pairwise_cons.2 ⟨fun z hz => ?_, h⟩
       rcases List.mem_cons.1 hz with rfl | hz
       · exact e
       · exact Std.lt_trans e (h'.1 z hz)
     · rename_i e1 e2
       refine List.pairwise_cons.2 ⟨fun z hz => ?_, sorted_put y fs h'.2⟩
       rcases mem_put y fs z hz with rfl | hz
       · exact lt_of_not e1 e2
       · exact h'.1 z hz
theorem look_tail {x : File} {fs : List File} (h : Sorted (x :: fs)) : look fs x.name = none := by
 have h' := (List.pairwise_cons.1 h).1
 cases e : look fs x.name with
 | none => rfl
 | some z =>
   have := look_name e
   have h2 := h' z this.2
   rw [this.1] at h2
   exact absurd h2 (Std.lt_irrefl)
theorem put_len (y : File) : ∀ fs : List File, Sorted fs → (put y fs).length = if (look fs y.name).isSome then fs.length else fs.length + 1
 | [], _ => by simp [put, look]
 | x :: fs, h => by
   have h' := List.pairwise_cons.1 h
   rw [put]
   split
   · rename_i e; simp [look, e]
   · rename_i e1
     split
     · rename_i e2
       have : look fs y.name = none := by
         cases e : look fs y.name with
         | none => rfl
         | some z =>
           have hz := look_name e
           have h3 := Std.lt_trans e2 (h'.1 z hz.2)
           rw [hz.1] at h3
           exact absurd h3 (Std.lt_irrefl)
       simp [look, e1, this]
     · have := put_len y fs h'.2
       simp only [List.length_cons, this, look, if_neg e1]
       split <;> rfl
theorem put_total (y : File) : ∀ fs : List File, Sorted fs → total (put y fs) + (match look fs y.name with | none => 0 | some x => x.bytes.size) = total fs + y.bytes.size
 | [], _ => by simp [put, look, total]
 | x :: fs, h => by
   have h' := List.pairwise_cons.1 h
   rw [put]
   split
   · rename_i e; simp only [look, e, if_true, total]; omega
   · rename_i e1
     split
     · rename_i e2
       have : look fs y.name = none := by
         cases e : look fs y.name with
         | none => rfl
         | some z =>
           have hz := look_name e
           have h3 := Std.lt_trans e2 (h'.1 z hz.2)
           rw [hz.1] at h3
           exact absurd h3 (Std.lt_irrefl)
       simp only [look, if_neg e1, this, total]; omega
     · have := put_total y fs h'.2
       simp only [look, if_neg e1, total]; omega
theorem look_le : ∀ {fs : List File} {k : List UInt8} {x : File}, look fs k = some x → x.bytes.size ≤ total fs
 | [], _, _, h => by cases h
 | y :: fs, k, x, h => by
   rw [look] at h
   split at h
   · cases h; simp only [total]; omega
   · have := look_le h; simp only [total]; omega
theorem mem_del (k : List UInt8) : ∀ (fs : List File) (x : File), x ∈ del k fs → x ∈ fs
 | [], _, h => by cases h
 | z :: fs, x, h => by
   rw [del] at h
   split at h
   · simp [h]
   · rcases List.mem_cons.1 h with h | h
     · simp [h]
     · simp [mem_del k fs x h]
theorem sorted_del (k : List UInt8) : ∀ fs : List File, Sorted fs → Sorted (del k fs)
 | [], _ => by simp [del, Sorted]
 | x :: fs, h => by
   have h' := List.pairwise_cons.1 h
   rw [del]
   split
   · exact h'.2
   · exact List.pairwise_cons.2 ⟨fun z hz => h'.1 z (mem_del k fs z hz), sorted_del k fs h'.2⟩
theorem look_del_same (k : List UInt8) : ∀ fs : List File, Sorted fs → look (del k fs) k = none
 | [], _ => rfl
 | x :: fs, h => by
   have h' := List.pairwise_cons.1 h
   rw [del]
   split
   · rename_i e; subst e; exact look_tail h
   · rename_i e; rw [look, if_neg e, look_del_same k fs h'.2]
theorem look_del_other (k : List UInt8) {j : List UInt8} (hj : j ≠ k) : ∀ fs : List File, look (del k fs) j = look fs j
 | [] => rfl
 | x :: fs => by
   rw [del]
   split
   · rename_i e; rw [look, if_neg (by rw [e]; exact Ne.symm hj)]
   · simp only [look]; rw [look_del_other k hj fs]
theorem del_len (k : List UInt8) : ∀ fs : List File, (del k fs).length + (if (look fs k).isSome then 1 else 0) = fs.length
 | [] => rfl
 | x :: fs => by
   rw [del]
   split
   · rename_i e; simp [look, e]
   · rename_i e; have := del_len k fs; simp only [List.length_cons, look, if_neg e]; omega
theorem del_total (k : List UInt8) : ∀ fs : List File, total (del k fs) + (match look fs k with | none => 0 | some x => x.bytes.size) = total fs
 | [] => rfl
 | x :: fs => by
   rw [del]
   split
   · rename_i e; simp only [look, e, if_true, total]; omega
   · rename_i e; have := del_total k fs; simp only [look, if_neg e, total]; omega
theorem del_none (k : List UInt8) : ∀ fs : List File, look fs k = none → del k fs = fs
 | [], _ => rfl
 | x :: fs, h => by
   rw [look] at h
   split at h
   · cases h
   · rename_i e; rw [del, if_neg e, del_none k fs h]
def more (k : List UInt8) (s : ByteArray) : Option File → File
 | none => ⟨k, s, 0⟩
 | some x => ⟨k, x.bytes ++ s, x.synced⟩
def append (room : Int) (k : List UInt8) (s : ByteArray) (fs : List File) : List File × Nat :=
 if Txt.name k = false then (fs, 1) else
 if look fs k = none ∧ 40 ≤ fs.length then (fs, 4) else
 if room - (total fs : Int) < (s.size : Int) then (fs, 8) else
 (put (more k s (look fs k)) fs, 0)
def sync (k : List UInt8) (fs : List File) : List File × Nat :=
 match look fs k with
 | none => (fs, 6)
 | some x => (put ⟨k, x.bytes, x.bytes.size⟩ fs, 0)
def read (k : List UInt8) (fs : List File) : ByteArray × Nat :=
 match look fs k with
 | none => (⟨#[]⟩, 6)
 | some x => (x.bytes, 0)
def synced (k : List UInt8) (fs : List File) : Nat :=
 match look fs k with
 | none => 0
 | some x => x.synced
def delete (k : List UInt8) (fs : List File) : List File × Nat :=
 match look fs k with
 | none => (fs, 6)
 | some _ => (del k fs, 0)
def rename (a b : List UInt8) (fs : List File) : List File × Nat :=
 match look fs a with
 | none => (fs, 6)
 | some x => if Txt.name b = false then (fs, 1) else if a = b then (fs, 0) else (put ⟨b, x.bytes, x.synced⟩ (del a (del b fs)), 0)
end Go.Proofs.YtgddgipjpdjoaaaGreatDoor.Dk
