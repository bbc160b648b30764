/-
  Plain Lean, no program in sight: numbers and texts as bytes (layer 2).
-/
import Derived.Lib.RuneBytes
namespace Go.Proofs.YthmblkckpdpjkaaGreatDoor.Num

def most : Nat := 1099511627776
def put (n : Nat) : List UInt8 := if h : n < 128 then [n.toUInt8] else (n % 128 + 128).toUInt8 :: put (n / 128)
termination_by n
decreasing_by omega
theorem put_small (n : Nat) (h : n < 128) : put n = [n.toUInt8] := by rw [put, dif_pos h]
theorem put_large (n : Nat) (h : ¬ n < 128) : put n = (n % 128 + 128).toUInt8 :: put (n / 128) := by rw [put, dif_neg h]
/-- Put's number, held within bounds. -/
def held (n : Int) : Nat := if n ≤ 0 then 0 else if n ≤ 1099511627776 then n.toNat else 1099511627776
theorem held_le (n : Int) : held n ≤ 1099511627776 := by unfold held; split; omega; split <;> omega
theorem held_of (n : Nat) (h : n ≤ 1099511627776) : held (n : Int) = n := by unfold held; split; omega; split <;> omega
theorem put_ne (n : Nat) : put n ≠ [] := by rw [put]; split <;> simp
theorem put_len (k : Nat) : ∀ n : Nat, n < 128 ^ (k + 1) → (put n).length ≤ k + 1 := by
  induction k with
  | zero => intro n h; rw [put_small n (by simpa using h)]; simp
  | succ k ih =>
    intro n h
    by_cases h1 : n < 128
    · rw [put_small n h1]; simp
    · rw [put_large n h1, List.length_cons]
      have := ih (n / 128) (by rw [Nat.pow_succ] at h; exact Nat.div_lt_of_lt_mul (by rw [Nat.mul_comm]; exact h))
      omega
theorem put_le6 (n : Nat) (h : n ≤ 1099511627776) : (put n).length ≤ 6 := put_len 5 n (by omega)

/-- What is taken off the front: i bytes ahead of it gave n. -/
def takeF (i n : Nat) : List UInt8 → Nat × List UInt8 × Nat
  | [] => (0, [], 3)
  | c :: l =>
    if i = 6 then (0, [], 2) else
    if 128 ≤ c.toNat then takeF (i + 1) (n + c.toNat % 128 * 128 ^ i) l else
    if c.toNat = 0 ∧ 0 < i then (0, [], 2) else
    if 1099511627776 < n + c.toNat % 128 * 128 ^ i then (0, [], 4) else
    (n + c.toNat % 128 * 128 ^ i, l, 0)
def take (l : List UInt8) : Nat × List UInt8 × Nat := takeF 0 0 l
theorem toU8_nat (n : Nat) (h : n < 256) : (n.toUInt8).toNat = n := by
  simp [Nat.toUInt8, UInt8.toNat_ofNat', Nat.mod_eq_of_lt h]
theorem takeF_put (r : List UInt8) : ∀ (k i n acc : Nat), n < 128 ^ k → i + k = 6 → (0 < i → 0 < n) → acc + n * 128 ^ i ≤ 1099511627776 → takeF i acc (put n ++ r) = (acc + n * 128 ^ i, r, 0)
  | 0, i, n, acc, h, hi, h0, _ => by
    have : n = 0 := by simp at h; exact h
    omega
  | k + 1, i, n, acc, h, hi, h0, hm => by
    by_cases h1 : n < 128
    · rw [put_small n h1]
      have e := toU8_nat n (by omega)
      have em : n % 128 = n := Nat.mod_eq_of_lt h1
      simp only [List.singleton_append, takeF, e, em]
      rw [if_neg (by omega), if_neg (by omega), if_neg (by omega), if_neg (by omega)]
    · rw [put_large n h1]
      have e := toU8_nat (n % 128 + 128) (by omega)
      have em : (n % 128 + 128) % 128 = n % 128 := by omega
      have hp : 128 ^ (i + 1) = 128 ^ i * 128 := Nat.pow_succ ..
      have hs : n % 128 * 128 ^ i + n / 128 * 128 ^ (i + 1) = n * 128 ^ i := by
        rw [hp, Nat.mul_comm (128 ^ i) 128, ← Nat.mul_assoc, ← Nat.add_mul]
        congr 1; omega
      simp only [List.cons_append, takeF, e, em]
      rw [if_neg (by omega), if_pos (by omega), takeF_put r k (i + 1) (n / 128) _ (by rw [Nat.pow_succ] at h; omega) (by omega) (by omega) (by omega)]
      rw [Nat.add_assoc, hs]
theorem take_put (n : Nat) (h : n ≤ 1099511627776) (r : List UInt8) : take (put n ++ r) = (n, r, 0) := by
  unfold take
  rw [takeF_put r 6 0 n 0 (by omega) rfl (by omega) (by omega)]
  simp
/-- What a taking gives. -/
theorem takeF_le : ∀ (l : List UInt8) (i n : Nat), (takeF i n l).1 ≤ 1099511627776 ∧ (takeF i n l).2.1.length ≤ l.length ∧ (takeF i n l).2.2 ≤ 4 ∧ ((takeF i n l).2.2 ≠ 0 → (takeF i n l).1 = 0 ∧ (takeF i n l).2.1 = []) ∧
    ((takeF i n l).2.2 = 0 → (takeF i n l).2.1.length < l.length ∧ ∃ p, l = p ++ (takeF i n l).2.1)
  | [], i, n => by simp [takeF]
  | c :: l, i, n => by
    have ih := takeF_le l (i + 1) (n + c.toNat % 128 * 128 ^ i)
    simp only [takeF]
    split
    · simp
    · split
      · obtain ⟨h1, h2, h3, h4, h5⟩ := ih
        refine ⟨h1, by simp; omega, h3, h4, fun h => ?_⟩
        obtain ⟨h6, p, h7⟩ := h5 h
        exact ⟨by simp; omega, c :: p, by rw [List.cons_append, ← h7]⟩
      · split
        · simp
        · split
          · simp
          · refine ⟨by simp; omega, by simp, by simp, by simp, fun _ => ⟨by simp, [c], by simp⟩⟩
theorem take_le (l : List UInt8) : (take l).1 ≤ 1099511627776 ∧ (take l).2.1.length ≤ l.length ∧ (take l).2.2 ≤ 4 ∧ ((take l).2.2 ≠ 0 → (take l).1 = 0 ∧ (take l).2.1 = []) ∧
    ((take l).2.2 = 0 → (take l).2.1.length < l.length ∧ ∃ p, l = p ++ (take l).2.1) := takeF_le l 0 0

/-! Whole numbers, and texts. -/
def zig (n : Int) : Nat := if 0 ≤ n then (2 * n).toNat else (-2 * n - 1).toNat
def zag (m : Nat) : Int := if m % 2 = 0 then ((m / 2 : Nat) : Int) else -((m / 2 : Nat) : Int) - 1
theorem zag_zig (n : Int) : zag (zig n) = n := by
  unfold zag zig
  split <;> split <;> omega
def heldInt (n : Int) : Int := if n ≤ -549755813888 then -549755813888 else if n ≤ 549755813888 then n else 549755813888
theorem heldInt_le (n : Int) : -549755813888 ≤ heldInt n ∧ heldInt n ≤ 549755813888 := by unfold heldInt; split <;> (try split) <;> omega
theorem heldInt_of (n : Int) (h1 : -549755813888 ≤ n) (h2 : n ≤ 549755813888) : heldInt n = n := by unfold heldInt; split <;> (try split) <;> omega
theorem zig_le (n : Int) : zig (heldInt n) ≤ 1099511627776 := by have := heldInt_le n; unfold zig; split <;> omega
def putInt (n : Int) : List UInt8 := put (zig (heldInt n))
def takeInt (l : List UInt8) : Int × List UInt8 × Nat := (zag (take l).1, (take l).2.1, (take l).2.2)
theorem takeInt_put (n : Int) (h1 : -549755813888 ≤ n) (h2 : n ≤ 549755813888) (r : List UInt8) : takeInt (putInt n ++ r) = (n, r, 0) := by
  unfold takeInt putInt
  rw [take_put _ (zig_le n), heldInt_of n h1 h2, zag_zig]
def putText (l : List UInt8) : List UInt8 := put (held l.length) ++ l
def takeText (l : List UInt8) (long : Int) : List UInt8 × List UInt8 × Nat :=
  if (take l).2.2 ≠ 0 then ([], [], (take l).2.2) else
  if long < (take l).1 then ([], [], 4) else
  if (take l).2.1.length < (take l).1 then ([], [], 3) else
  ((take l).2.1.take (take l).1, (take l).2.1.drop (take l).1, 0)
theorem takeText_put (t r : List UInt8) (long : Int) (h1 : (t.length : Int) ≤ long) (h2 : t.length ≤ 1099511627776) : takeText (putText t ++ r) long = (t, r, 0) := by
  unfold takeText putText
  rw [held_of _ h2, List.append_assoc, take_put _ h2]
  simp only [ne_eq, not_true_eq_false, if_false]
  rw [if_neg (by omega), if_neg (by simp)]
  simp
theorem takeText_le (l : List UInt8) (long : Int) : (takeText l long).2.2 ≤ 4 ∧ ((takeText l long).2.2 ≠ 0 → (takeText l long).1 = [] ∧ (takeText l long).2.1 = []) ∧ (takeText l long).1.length ≤ l.length ∧ (takeText l long).2.1.length ≤ l.length ∧
    ((takeText l long).2.2 = 0 → ((takeText l long).1.length : Int) ≤ long ∧ (takeText l long).2.1.length < l.length) := by
  obtain ⟨h1, h2, h3, h4, h5⟩ := take_le l
  unfold takeText
  split
  · rename_i h; simp; omega
  · split
    · simp
    · split
      · simp
      · rename_i ha hb hc
        have := (h5 (by omega)).1
        simp only [List.length_take, List.length_drop]
        refine ⟨by omega, by simp, by omega, by omega, fun _ => ⟨by omega, by omega⟩⟩

/-! Four bytes. -/
def fixed (n : Nat) : List UInt8 := [(n / 16777216).toUInt8, (n / 65536).toUInt8, (n / 256).toUInt8, n.toUInt8]
def takeFixed (l : List UInt8) : Nat × List UInt8 × Nat :=
  match l with
  | a :: b :: c :: d :: r => (((a.toNat * 256 + b.toNat) * 256 + c.toNat) * 256 + d.toNat, r, 0)
  | _ => (0, [], 3)
theorem fixed_len (n : Nat) : (fixed n).length = 4 := rfl
theorem toU8_mod (n : Nat) : (n.toUInt8).toNat = n % 256 := by simp [Nat.toUInt8, UInt8.toNat_ofNat']
theorem takeFixed_fixed (n : Nat) (h : n < 4294967296) (r : List UInt8) : takeFixed (fixed n ++ r) = (n, r, 0) := by
  simp only [fixed, List.cons_append, List.nil_append, takeFixed, toU8_mod]
  congr 1
  omega
theorem takeFixed_of (l : List UInt8) (h : 4 ≤ l.length) : ∃ n, takeFixed l = (n, l.drop 4, 0) ∧ n < 4294967296 := by
  match l, h with
  | a :: b :: c :: d :: r, _ =>
    have ha := a.toNat_lt; have hb := b.toNat_lt; have hc := c.toNat_lt; have hd := d.toNat_lt
    exact ⟨_, rfl, by omega⟩
theorem takeFixed_short (l : List UInt8) (h : l.length < 4) : takeFixed l = (0, [], 3) := by
  match l, h with
  | [], _ => rfl
  | [_], _ => rfl
  | [_, _], _ => rfl
  | [_, _, _], _ => rfl
end Go.Proofs.YthmblkckpdpjkaaGreatDoor.Num
