/-
  Plain Lean, no program in sight: names, quotes, words: what the functions of layer 1 compute.
-/
import Derived.Test.YthmblkckpdpjkaaGreatDoorTxtA
namespace Go.Proofs.YthmblkckpdpjkaaGreatDoor.Txt

/-- Is a number one of a name's runes? -/
def named (r : Int) : Bool :=
  decide (97 ≤ r ∧ r ≤ 122) || decide (65 ≤ r ∧ r ≤ 90) || decide (48 ≤ r ∧ r ≤ 57) || r == 45 || r == 95 || r == 46 || decide (160 ≤ r)
def name (l : List UInt8) : Bool := decide (1 ≤ (toks l).length) && decide ((toks l).length ≤ 32) && (toks l).all fun t => named t.1

def hexd (n : Nat) : UInt8 := if n < 10 then (48 + n).toUInt8 else (87 + n).toUInt8
def hexs (c : UInt8) : List UInt8 := [92, 120, hexd (c.toNat / 16), hexd (c.toNat % 16)]
/-- Does a token stand in a quote by its two digits? -/
def bad (r : Int) : Bool := (decide (r < 32) && r != 10) || r == 127
def qtok (t : Int × List UInt8) : List UInt8 :=
  if bad t.1 then hexs (t.2.headD 0)
  else if t.1 = 10 then [92, 110]
  else if t.1 = 34 ∨ t.1 = 92 then [92, t.1.toNat.toUInt8]
  else t.2
def qtoks (ts : List (Int × List UInt8)) : List UInt8 := ts.flatMap qtok
def qbody (l : List UInt8) : List UInt8 := qtoks (toks l)
def quote (l : List UInt8) : List UInt8 := 34 :: (qbody l ++ [34])

theorem qtok_le {t : Int × List UInt8} (h : Shape t) : (qtok t).length ≤ 4 * t.2.length := by
  have h1 : 1 ≤ t.2.length := by
    rcases h with ⟨_, b, e, _⟩ | ⟨_, _, e⟩ | ⟨_, _, _, e, _⟩
    · rw [e]; simp
    · rw [e]; simp
    · omega
  unfold qtok
  split
  · simp [hexs]; omega
  · split
    · simp; omega
    · split
      · simp; omega
      · omega
/-- What is between quotes, without its signs, by a reading of digits. -/
def inner (dg : UInt8 → Option Nat) : List UInt8 → Option (List UInt8)
  | [] => some []
  | c :: t =>
    if c ≠ 92 then (inner dg t).map (c :: ·)
    else match t with
      | [] => none
      | d :: t =>
        if d = 34 ∨ d = 92 then (inner dg t).map (d :: ·)
        else if d = 110 then (inner dg t).map (10 :: ·)
        else if d = 120 then
          match t with
          | a :: b :: t =>
            match dg a, dg b with
            | some x, some y => (inner dg t).map ((16 * x + y).toUInt8 :: ·)
            | _, _ => none
          | _ => none
        else none

/-- The digits that a quote has. -/
def dgR (c : UInt8) : Option Nat := if 48 ≤ c.toNat ∧ c.toNat ≤ 57 then some (c.toNat - 48) else if 97 ≤ c.toNat ∧ c.toNat ≤ 102 then some (c.toNat - 87) else none
/-- The digits that strconv.ParseUint takes. -/
def dgP (c : UInt8) : Option Nat :=
  if 48 ≤ c.toNat ∧ c.toNat ≤ 57 then some (c.toNat - 48) else if 97 ≤ c.toNat ∧ c.toNat ≤ 102 then some (c.toNat - 87) else if 65 ≤ c.toNat ∧ c.toNat ≤ 70 then some (c.toNat - 55) else none

/-- A quoted text without its quote; none: it is wrong. -/
def unq (dg : UInt8 → Option Nat) (l : List UInt8) : Option (List UInt8) :=
  if l.length < 2 ∨ l.headD 0 ≠ 34 ∨ l.getLastD 0 ≠ 34 then none
  else match inner dg ((l.drop 1).take (l.length - 2)) with
    | some t => if quote t = l then some t else none
    | none => none
def unquote (l : List UInt8) : Option (List UInt8) := unq dgR l

/-- Where a quoted word ends: k: how many bytes are behind; the place behind the closing sign. -/
def endF (skip : Bool) (k : Nat) : List UInt8 → Option Nat
  | [] => none
  | c :: t => if skip then endF false (k + 1) t else if c = 92 then endF true (k + 1) t else if c = 34 then some (k + 1) else endF false (k + 1) t

def blank (c : UInt8) : Bool := c == 32 || c == 9
/-- A line's words; none: it is wrong. -/
def wordsF : Nat → List UInt8 → Option (List (List UInt8))
  | 0, _ => none
  | f + 1, l =>
    match l.dropWhile blank with
    | [] => some []
    | c :: t =>
      if c ≠ 34 then
        if (34 : UInt8) ∈ (c :: t).takeWhile (fun x => !blank x) then none
        else (wordsF f ((c :: t).dropWhile fun x => !blank x)).map ((c :: t).takeWhile (fun x => !blank x) :: ·)
      else match endF false 1 t with
        | none => none
        | some n =>
          if ((c :: t).drop n).head?.any (fun x => !blank x) then none
          else match unquote ((c :: t).take n) with
            | none => none
            | some w => (wordsF f ((c :: t).drop n)).map (w :: ·)
def words (l : List UInt8) : Option (List (List UInt8)) := wordsF (l.length + 1) l

/-- May a word stand as it is? -/
def plainTok (r : Int) : Bool := !(decide (r < 33) || r == 34 || r == 127)
def bare (l : List UInt8) : Bool := !l.isEmpty && (toks l).all fun t => plainTok t.1
def word (l : List UInt8) : List UInt8 := if bare l then l else quote l
def line : List (List UInt8) → List UInt8
  | [] => []
  | [w] => word w
  | w :: v :: r => word w ++ 32 :: line (v :: r)
end Go.Proofs.YthmblkckpdpjkaaGreatDoor.Txt
