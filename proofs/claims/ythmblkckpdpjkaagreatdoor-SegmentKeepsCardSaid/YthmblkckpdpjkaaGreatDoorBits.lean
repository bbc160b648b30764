/-
  Plain Lean, no program in sight: what the machine's bit operations are on the numbers that the bytes of numbers, texts and sums are made of.
-/
import Derived.Test.YthmblkckpdpjkaaGreatDoorOwn
import Derived.IntWalk
import Derived.Laws.BitsLemmas
import Derived.Lib.ConvBytes
import Derived.Test.YthmblkckpdpjkaaGreatDoorNumA
import Derived.Test.YthmblkckpdpjkaaGreatDoorCrcA
namespace Go.Proofs.YthmblkckpdpjkaaGreatDoor
open Go.RowKit

theorem wraps_i64 (n : Int) (h₀ : 0 ≤ n) (h₁ : n < 2 ^ 62) : IntKind.i64.wrap n = n := by rw [IntKind.wrap_i64]; omega
theorem wraps_u32 (n : Int) (h₀ : 0 ≤ n) (h₁ : n < 2 ^ 32) : IntKind.u32.wrap n = n := by rw [IntKind.wrap_u32]; omega
theorem xor_nat (k : IntKind) (j : Nat) (hj : j ≤ k.bits) (hk : ∀ n : Int, 0 ≤ n → n < 2 ^ j → k.wrap n = n) (a b : Nat) (ha : a < 2 ^ j) (hb : b < 2 ^ j) : bits .xor k a b = ((a ^^^ b : Nat) : Int) := by
  have hp : 2 ^ j ≤ 2 ^ k.bits := Nat.pow_le_pow_right (by decide) hj
  have ha' : a % 2 ^ k.bits = a := Nat.mod_eq_of_lt (Nat.lt_of_lt_of_le ha hp)
  have hb' : b % 2 ^ k.bits = b := Nat.mod_eq_of_lt (Nat.lt_of_lt_of_le hb hp)
  have cast : ∀ n : Nat, n < 2 ^ j → ((n : Nat) : Int) < 2 ^ j := fun n h => by exact_mod_cast h
  simp only [bits, BitVec.ofInt_natCast, BitVec.toNat_xor, BitVec.toNat_ofNat, ha', hb']
  exact hk _ (Int.natCast_nonneg _) (cast _ (Nat.xor_lt_two_pow ha hb))
theorem xor32 (a b : Nat) (ha : a < 4294967296) (hb : b < 4294967296) : bits .xor .u32 a b = ((a ^^^ b : Nat) : Int) := xor_nat .u32 32 (by decide) wraps_u32 a b ha hb
theorem xor8 (a b : Nat) (ha : a < 256) (hb : b < 256) : bits .xor .u8 a b = ((a ^^^ b : Nat) : Int) := xor_nat .u8 8 (by decide) wraps_u8 a b ha hb
theorem and8_127 (a : Nat) (ha : a < 256) : bits .and .u8 a 127 = ((a % 128 : Nat) : Int) := by
  have := bits_mask .u8 8 (by decide) wraps_u8 7 (by decide) (a : Int) (by omega) (by omega)
  exact_mod_cast this
theorem and8_15 (a : Nat) (ha : a < 256) : bits .and .u8 a 15 = ((a % 16 : Nat) : Int) := by
  have := bits_mask .u8 8 (by decide) wraps_u8 4 (by decide) (a : Int) (by omega) (by omega)
  exact_mod_cast this
theorem and32_1 (a : Nat) (ha : a < 4294967296) : bits .and .u32 a 1 = ((a % 2 : Nat) : Int) := by
  have := bits_mask .u32 32 (by decide) wraps_u32 1 (by decide) (a : Int) (by omega) (by omega)
  exact_mod_cast this
theorem and64_1 (a : Nat) (ha : a < 4611686018427387904) : bits .and .i64 a 1 = ((a % 2 : Nat) : Int) := by
  have := bits_mask .i64 62 (by decide) wraps_i64 1 (by decide) (a : Int) (by omega) (by omega)
  exact_mod_cast this
set_option maxRecDepth 100000 in
theorem and8_128 (a : Nat) (ha : a < 256) : (bits .and .u8 a 128 != 0) = decide (128 ≤ a) := by
  have : ∀ k : Fin 256, (bits .and .u8 (k.1 : Int) 128 != 0) = decide (128 ≤ k.1) := by decide
  exact this ⟨a, ha⟩
theorem or_low (k : IntKind) (j : Nat) (hj : j ≤ k.bits) (hk : ∀ n : Int, 0 ≤ n → n < 2 ^ j → k.wrap n = n) (n m i : Nat) (hn : n < 2 ^ i) (hi : m * 2 ^ i < 2 ^ j) (hij : i ≤ j) :
    bits .or k n ((m * 2 ^ i : Nat) : Int) = ((n + m * 2 ^ i : Nat) : Int) := by
  have h1 : n < 2 ^ j := Nat.lt_of_lt_of_le hn (Nat.pow_le_pow_right (by decide) hij)
  rw [(bits_nat k j hj hk n (m * 2 ^ i) h1 hi).2, Nat.or_comm, Nat.mul_comm m, ← Nat.two_pow_add_eq_or_of_lt hn m, Nat.add_comm]
theorem or_high (k : IntKind) (j : Nat) (hj : j ≤ k.bits) (hk : ∀ n : Int, 0 ≤ n → n < 2 ^ j → k.wrap n = n) (n m i : Nat) (hn : n < 2 ^ i) (hi : m * 2 ^ i < 2 ^ j) (hij : i ≤ j) :
    bits .or k ((m * 2 ^ i : Nat) : Int) n = ((m * 2 ^ i + n : Nat) : Int) := by
  have h1 : n < 2 ^ j := Nat.lt_of_lt_of_le hn (Nat.pow_le_pow_right (by decide) hij)
  rw [(bits_nat k j hj hk (m * 2 ^ i) n hi h1).2, Nat.mul_comm m, ← Nat.two_pow_add_eq_or_of_lt hn m]
theorem pow128 (i : Nat) : 128 ^ i = 2 ^ (7 * i) := by rw [Nat.pow_mul]
theorem pow128_le (i : Nat) (h : i < 6) : 128 ^ i ≤ 34359738368 := Nat.le_trans (Nat.pow_le_pow_right (by decide) (show i ≤ 5 by omega)) (by decide)
/-- A group of seven bits, laid above those below it. -/
theorem take_or (n c i : Nat) (hc : c < 256) (hi : i < 6) (hn : n < 128 ^ i) :
    bits .or .i64 n (wrap64 (wrap64 (bits .and .u8 c 127) * 2 ^ (7 * i))) = ((n + c % 128 * 128 ^ i : Nat) : Int) := by
  have hp := pow128_le i hi
  have h1 : c % 128 * 128 ^ i ≤ 127 * 34359738368 := Nat.mul_le_mul (by omega) hp
  have e1 : wrap64 (bits .and .u8 c 127) = ((c % 128 : Nat) : Int) := by rw [and8_127 c hc, IntWalk.wrap64_in]; omega
  have e2 : ((c % 128 : Nat) : Int) * 2 ^ (7 * i) = ((c % 128 * 2 ^ (7 * i) : Nat) : Int) := by simp
  rw [e1, e2, IntWalk.wrap64_in]
  · rw [pow128] at *
    exact or_low .i64 62 (by decide) wraps_i64 n _ (7 * i) hn (by omega) (by omega)
  · rw [← pow128]; omega
theorem take_next (n c i : Nat) (hn : n < 128 ^ i) : n + c % 128 * 128 ^ i < 128 ^ (i + 1) := by
  have h1 : c % 128 * 128 ^ i ≤ 127 * 128 ^ i := Nat.mul_le_mul_right _ (by omega)
  rw [Nat.pow_succ]; omega
theorem below_bytes (w : World) (e : TypeId) (s : ByteArray) : Below w.heap.size w (Lib.bytesWorld w e s) := by
  refine ⟨?_, ?_, ?_, ?_, ?_⟩
  · simp [Lib.bytesWorld, World.freeze, World.alloc, World.drew, -World.alloc_eq, -World.drew_eq]
  · simp [Lib.bytesWorld, World.freeze, World.alloc, World.drew, -World.alloc_eq, -World.drew_eq]
  · simp [Lib.bytesWorld, World.freeze, World.alloc, World.drew, -World.alloc_eq, -World.drew_eq]
  · rw [Lib.bytesWorld_size]; omega
  · intro k hk
    exact Lib.bytesWorld_at_old w e s k hk
theorem getD_at (s : ByteArray) (i : Nat) (h : i < s.size) : ∃ c : UInt8, s.data.toList.getD i 0 = c ∧ s.data.toList.drop i = c :: s.data.toList.drop (i + 1) := by
  have hl : i < s.data.toList.length := by rw [← Lib.size_eq]; exact h
  refine ⟨s.data.toList[i], ?_, ?_⟩
  · rw [List.getD_eq_getElem?_getD, List.getElem?_eq_getElem hl]; rfl
  · rw [List.drop_eq_getElem_cons hl]
theorem xor_ones (n : Int) (h1 : -9223372036854775808 ≤ n) (h2 : n ≤ 9223372036854775807) : bits .xor .i64 n (-1) = -n - 1 := by
  have e1 : BitVec.ofInt 64 (-1) = BitVec.allOnes 64 := by decide
  have e2 : bits .xor .i64 n (-1) = IntKind.i64.wrap ((~~~ (BitVec.ofInt 64 n)).toNat : Int) := by
    show IntKind.i64.wrap ((BitVec.ofInt 64 n ^^^ BitVec.ofInt 64 (-1)).toNat : Int) = _
    rw [e1, BitVec.xor_allOnes]
  rw [e2, BitVec.toNat_not, BitVec.toNat_ofInt, IntKind.wrap_i64]
  omega
theorem xor_zero (n : Int) (h1 : -9223372036854775808 ≤ n) (h2 : n ≤ 9223372036854775807) : bits .xor .i64 n 0 = n := by
  have e2 : bits .xor .i64 n 0 = IntKind.i64.wrap ((BitVec.ofInt 64 n).toNat : Int) := by
    show IntKind.i64.wrap ((BitVec.ofInt 64 n ^^^ BitVec.ofInt 64 0).toNat : Int) = _
    rw [show BitVec.ofInt 64 0 = 0#64 from rfl, BitVec.xor_zero]
  rw [e2, BitVec.toNat_ofInt, IntKind.wrap_i64]
  omega
end Go.Proofs.YthmblkckpdpjkaaGreatDoor
