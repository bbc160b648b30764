/-
  Plain Lean, no program in sight: check sums by nibbles, and bit by bit (layer 3).
-/
import Derived.Lib.RuneBytes
namespace Go.Proofs.YthmblkckpdpjkaaGreatDoor.Crc

def poly : Nat := 0xEDB88320
/-- One bit. -/
def step (r : Nat) : Nat := if r % 2 = 1 then (r / 2) ^^^ 0xEDB88320 else r / 2
def step4 (r : Nat) : Nat := step (step (step (step r)))
/-- A nibble of c, by the table. -/
def nib (r c : Nat) : Nat := step4 ((r ^^^ c) % 16) ^^^ (r / 16)
def byte (r c : Nat) : Nat := nib (nib r c) (c / 16)
/-- A byte, bit by bit. -/
def bits (r c : Nat) : Nat := step4 (step4 (r ^^^ c))

theorem xor_div2 (a b : Nat) : (a ^^^ b) / 2 = (a / 2) ^^^ (b / 2) := by
  apply Nat.eq_of_testBit_eq; intro i
  rw [Nat.testBit_div_two, Nat.testBit_xor, Nat.testBit_xor, Nat.testBit_div_two, Nat.testBit_div_two]
theorem xor_mod2 (a b : Nat) : (a ^^^ b) % 2 = (a % 2 + b % 2) % 2 := by
  have h := Nat.testBit_xor a b 0
  simp only [Nat.testBit_zero] at h
  rcases Nat.mod_two_eq_zero_or_one a with h1 | h1 <;> rcases Nat.mod_two_eq_zero_or_one b with h2 | h2 <;>
    rcases Nat.mod_two_eq_zero_or_one (a ^^^ b) with h3 | h3 <;> simp [h1, h2, h3] at h ⊢
theorem step_eq (r : Nat) : step r = (r / 2) ^^^ (if r % 2 = 1 then 0xEDB88320 else 0) := by
  unfold step; split <;> simp
theorem xor_swap (a b c d : Nat) : (a ^^^ b) ^^^ (c ^^^ d) = (a ^^^ c) ^^^ (b ^^^ d) := by
  apply Nat.eq_of_testBit_eq; intro i
  simp only [Nat.testBit_xor]
  cases a.testBit i <;> cases b.testBit i <;> cases c.testBit i <;> cases d.testBit i <;> rfl
theorem step_xor (a b : Nat) : step (a ^^^ b) = step a ^^^ step b := by
  have e : (if (a ^^^ b) % 2 = 1 then 0xEDB88320 else 0) = (if a % 2 = 1 then 0xEDB88320 else 0) ^^^ (if b % 2 = 1 then 0xEDB88320 else 0 : Nat) := by
    rw [xor_mod2]
    rcases Nat.mod_two_eq_zero_or_one a with h1 | h1 <;> rcases Nat.mod_two_eq_zero_or_one b with h2 | h2 <;> rw [h1, h2] <;> decide
  rw [step_eq, step_eq, step_eq, xor_div2, e, xor_swap]
theorem step4_xor (a b : Nat) : step4 (a ^^^ b) = step4 a ^^^ step4 b := by simp only [step4, step_xor]
theorem step_even (y : Nat) : step (2 * y) = y := by unfold step; rw [if_neg (by omega)]; omega
theorem step4_16 (y : Nat) : step4 (16 * y) = y := by
  unfold step4
  rw [show 16 * y = 2 * (2 * (2 * (2 * y))) by omega, step_even, step_even, step_even, step_even]
theorem split16 (x : Nat) : x = (16 * (x / 16)) ^^^ (x % 16) := by
  apply Nat.eq_of_testBit_eq; intro i
  rw [Nat.testBit_xor, show 16 = 2 ^ 4 from rfl, Nat.testBit_mod_two_pow, Nat.mul_comm, ← Nat.shiftLeft_eq, Nat.testBit_shiftLeft, Nat.testBit_div_two_pow]
  by_cases h : i < 4
  · simp [h, show ¬ 4 ≤ i by omega]
  · simp [h, show 4 ≤ i by omega, show i - 4 + 4 = i by omega]
theorem step4_eq (x : Nat) : step4 x = step4 (x % 16) ^^^ (x / 16) := by
  conv => lhs; rw [split16 x]
  rw [step4_xor, step4_16, Nat.xor_comm]
theorem xor_div16 (a b : Nat) : (a ^^^ b) / 16 = (a / 16) ^^^ (b / 16) := by
  apply Nat.eq_of_testBit_eq; intro i
  rw [show 16 = 2 ^ 4 from rfl]
  simp only [Nat.testBit_xor, Nat.testBit_div_two_pow]
theorem bits_byte (r c : Nat) (hc : c < 256) : bits r c = byte r c := by
  have h1 : step4 (r ^^^ c) = nib r c ^^^ (c / 16) := by
    rw [step4_eq, nib, xor_div16, Nat.xor_assoc]
  unfold bits byte
  rw [h1, step4_eq, xor_div16, show c / 16 / 16 = 0 by omega, Nat.xor_zero]
  rfl
/-- Going on with a sum, held turned. -/
def run (r : Nat) (l : List UInt8) : Nat := l.foldl (fun r c => byte r c.toNat) r
def upd (s : Nat) (l : List UInt8) : Nat := 4294967295 ^^^ run (4294967295 ^^^ s) l
def sum (l : List UInt8) : Nat := upd 0 l
theorem run_append (r : Nat) (a b : List UInt8) : run r (a ++ b) = run (run r a) b := by simp [run]
theorem not_not (r : Nat) : 4294967295 ^^^ (4294967295 ^^^ r) = r := by rw [← Nat.xor_assoc, Nat.xor_self, Nat.zero_xor]
theorem upd_append (s : Nat) (a b : List UInt8) : upd (upd s a) b = upd s (a ++ b) := by
  unfold upd; rw [not_not, run_append]
theorem xor_lt {a b : Nat} (ha : a < 4294967296) (hb : b < 4294967296) : a ^^^ b < 4294967296 := Nat.xor_lt_two_pow (n := 32) ha hb
theorem step_lt {r : Nat} (h : r < 4294967296) : step r < 4294967296 := by
  unfold step; split
  · exact xor_lt (by omega) (by omega)
  · omega
theorem step4_lt {r : Nat} (h : r < 4294967296) : step4 r < 4294967296 := step_lt (step_lt (step_lt (step_lt h)))
theorem nib_lt {r c : Nat} (h : r < 4294967296) : nib r c < 4294967296 := xor_lt (step4_lt (by omega)) (by omega)
theorem byte_lt {r c : Nat} (h : r < 4294967296) : byte r c < 4294967296 := nib_lt (nib_lt h)
theorem run_lt : ∀ (l : List UInt8) {r : Nat}, r < 4294967296 → run r l < 4294967296
  | [], _, h => h
  | c :: l, r, h => run_lt l (r := byte r c.toNat) (byte_lt h)
theorem upd_lt {s : Nat} (h : s < 4294967296) (l : List UInt8) : upd s l < 4294967296 := xor_lt (by omega) (run_lt l (xor_lt (by omega) h))
theorem sum_lt (l : List UInt8) : sum l < 4294967296 := upd_lt (by omega) l
end Go.Proofs.YthmblkckpdpjkaaGreatDoor.Crc
