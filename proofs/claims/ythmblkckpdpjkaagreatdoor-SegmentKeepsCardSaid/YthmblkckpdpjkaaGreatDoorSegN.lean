/-
  Plain Lean, no program in sight: the name of a number, the number of a name (layer 9).
-/
import Derived.Lib.AtoiAll
import Derived.Lib.ItoaNum
namespace Go.Proofs.YthmblkckpdpjkaaGreatDoor.Seg

def nameOf (n : Int) : List UInt8 := if 1 ≤ n ∧ n ≤ 1073741824 then [115, 101, 103, 45] ++ Lib.decDigits n.toNat else []
theorem digit_nat (d : Nat) (h : d < 10) : (UInt8.ofNat (48 + d)).toNat = 48 + d := by
  rw [UInt8.toNat_ofNat']; omega
theorem parse_dec : ∀ (n : Nat) (r : List UInt8), n ≤ 1073741824 → Lib.parseUint10 0 (Lib.decDigits n ++ r) = Lib.parseUint10 n r := by
  intro n
  induction n using Nat.strongRecOn with
  | ind n ih =>
    intro r h
    rw [Lib.decDigits]
    by_cases h1 : n < 10
    · rw [dif_pos h1]
      have e := digit_nat n h1
      simp only [List.singleton_append, Lib.parseUint10]
      rw [e, if_pos (by omega), if_neg (by omega), if_neg (by omega)]
      congr 1; omega
    · rw [dif_neg h1, List.append_assoc, ih (n / 10) (by omega) _ (by omega)]
      have e := digit_nat (n % 10) (by omega)
      simp only [List.singleton_append, Lib.parseUint10]
      rw [e, if_pos (by omega), if_neg (by omega), if_neg (by omega)]
      congr 1; omega
theorem dec_head : ∀ n : Nat, ∃ c r, Lib.decDigits n = c :: r ∧ 48 ≤ c.toNat ∧ c.toNat ≤ 57 := by
  intro n
  induction n using Nat.strongRecOn with
  | ind n ih =>
    rw [Lib.decDigits]
    by_cases h1 : n < 10
    · rw [dif_pos h1]
      have e := digit_nat n h1
      exact ⟨_, _, rfl, by omega, by omega⟩
    · rw [dif_neg h1]
      obtain ⟨c, r, e, h2, h3⟩ := ih (n / 10) (by omega)
      exact ⟨c, r ++ [_], by rw [e]; rfl, h2, h3⟩
theorem dec_len : ∀ (k n : Nat), n < 10 ^ (k + 1) → (Lib.decDigits n).length ≤ k + 1 := by
  intro k
  induction k with
  | zero => intro n h; rw [Lib.decDigits, dif_pos (by simpa using h)]; simp
  | succ k ih =>
    intro n h
    rw [Lib.decDigits]
    by_cases h1 : n < 10
    · rw [dif_pos h1]; simp
    · rw [dif_neg h1, List.length_append]
      have := ih (n / 10) (Nat.div_lt_of_lt_mul (by rw [Nat.pow_succ] at h; omega))
      simp; omega
theorem parseMag_dec (n : Nat) (h : n ≤ 1073741824) : Lib.parseMag (Lib.decDigits n) = .ok n := by
  obtain ⟨c, r, e, h2, h3⟩ := dec_head n
  have := parse_dec n [] h
  rw [List.append_nil] at this
  rw [Lib.parseMag, if_neg (by rw [e]; simp), this]; rfl
theorem atoi_dec (n : Nat) (h : n ≤ 1073741824) : Lib.atoiAll (Lib.decDigits n) = .ok (n : Int) := by
  obtain ⟨c, r, e, h2, h3⟩ := dec_head n
  have hm := parseMag_dec n h
  rw [e] at hm ⊢
  unfold Lib.atoiAll
  simp only
  rw [if_neg (by omega), hm]
  simp only
  rw [if_neg (by omega), if_neg (by omega), if_neg (by omega)]
theorem name_len (n : Int) : (nameOf n).length ≤ 14 := by
  unfold nameOf
  split
  · have := dec_len 9 n.toNat (by omega)
    simp only [List.length_append, List.length_cons, List.length_nil]; omega
  · simp
theorem name_min (n : Int) (h1 : 1 ≤ n) (h2 : n ≤ 1073741824) : 5 ≤ (nameOf n).length := by
  obtain ⟨c, r, e, h2, h3⟩ := dec_head n.toNat
  unfold nameOf
  rw [if_pos ⟨h1, by omega⟩, e]; simp only [List.length_append, List.length_cons, List.length_nil]; omega
theorem name_ne (n : Int) (h1 : 1 ≤ n) (h2 : n ≤ 1073741824) : nameOf n ≠ [] := fun h => by
  have := name_min n h1 h2; rw [h] at this; simp at this
/-- The number of a name. -/
def numberOf (s : List UInt8) : Int :=
  match Lib.parseUint10 0 (s.drop 4) with
  | .ok u => if nameOf u = s ∧ s ≠ [] then u else 0
  | _ => 0
def IsNum (s : List UInt8) (n : Int) : Prop := (1 ≤ n ∧ n ≤ 1073741824 ∧ nameOf n = s) ∨ (n = 0 ∧ ∀ m : Int, 1 ≤ m → m ≤ 1073741824 → nameOf m ≠ s)
theorem number_name (n : Int) (h1 : 1 ≤ n) (h2 : n ≤ 1073741824) : numberOf (nameOf n) = n := by
  have e : (nameOf n).drop 4 = Lib.decDigits n.toNat := by unfold nameOf; rw [if_pos ⟨h1, h2⟩]; rfl
  have hp := parse_dec n.toNat [] (by omega)
  rw [List.append_nil] at hp
  have en : ((n.toNat : Nat) : Int) = n := by omega
  rw [numberOf, e, hp]
  simp only [Lib.parseUint10]
  rw [en, if_pos ⟨rfl, name_ne n h1 h2⟩]
theorem isNum_eq {s : List UInt8} {n : Int} (h : IsNum s n) : n = numberOf s := by
  rcases h with ⟨h1, h2, rfl⟩ | ⟨rfl, h⟩
  · exact (number_name n h1 h2).symm
  · unfold numberOf
    split
    · rename_i u hu
      split
      · rename_i g
        by_cases h1 : 1 ≤ (u : Int) ∧ (u : Int) ≤ 1073741824
        · exact absurd g.1 (h u h1.1 h1.2)
        · exfalso
          have := g.1
          unfold nameOf at this
          rw [if_neg h1] at this
          exact g.2 this.symm
      · rfl
    · rfl
theorem name_inj {n m : Int} (h1 : 1 ≤ n) (h2 : n ≤ 1073741824) (h3 : 1 ≤ m) (h4 : m ≤ 1073741824) (h : nameOf n = nameOf m) : n = m := by
  rw [← number_name n h1 h2, h, number_name m h3 h4]
theorem trim_name (m : Int) (h1 : 1 ≤ m) (h2 : m ≤ 1073741824) : (nameOf m).drop 4 = Lib.decDigits m.toNat ∧ (nameOf m).take 4 = [115, 101, 103, 45] := by
  unfold nameOf; rw [if_pos ⟨h1, h2⟩]; exact ⟨rfl, rfl⟩
end Go.Proofs.YthmblkckpdpjkaaGreatDoor.Seg
