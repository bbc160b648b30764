/-
  The walks of crc.table, Update, Sum.
-/
import Derived.Test.YthmblkckpdpjkaaGreatDoorNumText
namespace Go.Proofs.YthmblkckpdpjkaaGreatDoor
open Go.RowKit Go.Shelf

def stepN : Nat → Nat → Nat
  | 0, r => r
  | k + 1, r => Crc.step (stepN k r)
theorem stepN_lt {r : Nat} (h : r < 4294967296) : ∀ k, stepN k r < 4294967296
  | 0 => h
  | k + 1 => Crc.step_lt (stepN_lt h k)
theorem setCell_at {w : World} {b i : Nat} {c : Array Value} {e : TypeId} {fz : Nat × Nat} (h : w.heap[b]? = some (.cells c e fz)) (v : Value) : (w.setCell ⟨b, i, none⟩ v).heap[b]? = some (.cells (c.setIfInBounds i v) e fz) := by
  simp [World.setCell, Array.getElem?_modify, h]
/-- The table, as far as it is filled. -/
def tableTo (i : Nat) (arr : Array Value) : Prop := arr.size = 16 ∧ ∀ j, j < i → arr[j]? = some (.int .u32 (Crc.step4 j : Nat))
theorem tableTo_set {i : Nat} {arr : Array Value} (h : tableTo i arr) (hi : i < 16) : tableTo (i + 1) (arr.setIfInBounds i (.int .u32 (stepN 4 i : Nat))) := by
  refine ⟨by simpa using h.1, fun j hj => ?_⟩
  by_cases e : j = i
  · subst e
    rw [Array.getElem?_setIfInBounds_self, if_pos (by rw [h.1]; exact hi)]; rfl
  · rw [Array.getElem?_setIfInBounds_ne (by omega)]; exact h.2 j (by omega)

set_option maxHeartbeats 1000000 in
set_option maxRecDepth 100000 in
theorem table_any (w : World) : Calls Tryz.prog 144 #[] w fun e w' => ∃ b, e = .returned (.pointer (some ⟨b, 0, none⟩)) ∧ (∀ i, i < 16 → w'.cell? ⟨b, i, none⟩ = some (.int .u32 (Crc.step4 i : Nat))) ∧ Below w.heap.size w w' := by
  go_enter Tryz.func144, Tryz.ntmps144
  go_wp2
  go_loopw [4] (fun iv wr => ∃ (i : Nat) (arr : Array Value), iv = .int .i64 (i : Int) ∧ i ≤ 16 ∧ wr.heap[w.heap.size]? = some (.cells arr 209 (0, 0)) ∧ tableTo i arr ∧ Below w.heap.size w wr) (fun iv _ => 16 - (intOf iv).toNat)
  case atStart => exact ⟨0, _, rfl, by omega, heap_alloc_new w _, ⟨rfl, fun j hj => by omega⟩, (Below.refl _ _).alloc (Nat.le_refl _) _⟩
  case round =>
    obtain ⟨i, arr, rfl, hi, hbk, hta, hbw⟩ := hrel
    have HT := Lib.hid hta
    have HK := Lib.hid hbk
    have hsz := hta.1
    clear hta
    by_cases hp : i < 16
    · have hc : wr.cell? ⟨w.heap.size, i, none⟩ = some arr[i] := by rw [Lib.cell_of_heap hbk]; exact Array.getElem?_eq_getElem (by omega)
      have hf : wr.frozen? ⟨w.heap.size, i, none⟩ = false := Lib.frozen_of_heap hbk i
      clear hbk
      go_wp2
      go_loopw [3, 9] (fun rv kv W => ∃ (k r : Nat), kv = .int .i64 (k : Int) ∧ k ≤ 4 ∧ rv = .int .u32 (r : Int) ∧ r < 4294967296 ∧ r = stepN k i ∧ W = wr) (fun _ kv _ => 4 - (intOf kv).toNat)
      case atStart => exact ⟨0, i, rfl, by omega, rfl, by omega, rfl, rfl⟩
      case round =>
        obtain ⟨k, r, rfl, hk, rfl, hr, hrs, rfl⟩ := hrel
        have HR := Lib.hid hrs
        clear hrs
        by_cases hk4 : k < 4
        · by_cases hodd : r % 2 = 1
          · have hA : bits .and .u32 (r : Int) 1 = 1 := by rw [and32_1 r hr, hodd]; rfl
            have hX : bits .xor .u32 ((r : Int) / 2) 3988292384 = ((r / 2 ^^^ 3988292384 : Nat) : Int) := by rw [show (r : Int) / 2 = ((r / 2 : Nat) : Int) by omega]; exact xor32 (r / 2) 3988292384 (by omega) (by omega)
            have HS := Lib.hid (show r / 2 ^^^ 3988292384 = stepN (k + 1) i by rw [stepN, ← HR.out, Crc.step, if_pos hodd])
            have hl : r / 2 ^^^ 3988292384 < 4294967296 := Crc.xor_lt (by omega) (by omega)
            obtain ⟨q, hq⟩ : ∃ q, r / 2 ^^^ 3988292384 = q := ⟨_, rfl⟩
            rw [hq] at hX HS hl
            clear hq HR hodd
            go_wp2
            exact ⟨⟨k + 1, q, by go_num, by omega, rfl, hl, HS.out, trivial⟩, by simp [intOf]; omega⟩
          · have hA : bits .and .u32 (r : Int) 1 = 0 := by rw [and32_1 r hr, show r % 2 = 0 by omega]; rfl
            have HS := Lib.hid (show r / 2 = stepN (k + 1) i by rw [stepN, ← HR.out, Crc.step, if_neg hodd])
            clear HR hodd
            go_wp2
            exact ⟨⟨k + 1, r / 2, by go_num, by omega, by go_num, by omega, HS.out, trivial⟩, by simp [intOf]; omega⟩
        · obtain rfl : k = 4 := by omega
          have HN := Lib.hid (tableTo_set HT.out hp)
          rw [← HR.out] at HN
          clear HR HT
          go_wp2
          exact ⟨⟨i + 1, _, by go_num, by omega, setCell_at HK.out _, HN.out, hbw.setCell (p := ⟨w.heap.size, i, none⟩) (Nat.le_refl _) _⟩, by simp [intOf]; omega⟩
    · obtain rfl : i = 16 := by omega
      clear hbk
      go_wp2
      go_ret
      refine ⟨w.heap.size, rfl, fun j hj => ?_, hbw⟩
      rw [Lib.cell_of_heap HK.out]
      exact HT.out.2 j hj

theorem low_xor (r k : Nat) : ((r % 256) ^^^ k) % 16 = (r ^^^ k) % 16 := by
  have h := fun (a b : Nat) => Nat.xor_mod_two_pow (a := a) (b := b) (n := 4)
  rw [show (16 : Nat) = 2 ^ 4 from rfl, h, h]
  congr 1
  omega
/-- A nibble's step, as the machine reckons it. -/
theorem nib_step {W : World} {b r k : Nat} (HTB : Hid (∀ i, i < 16 → W.cell? ⟨b, i, none⟩ = some (.int .u32 (Crc.step4 i : Nat)))) (hr : r < 4294967296) (hk : k < 256) :
    ∃ n t q : Nat, n < 16 ∧ bits .and .u8 (bits .xor .u8 ((r : Int) % 256) (k : Int)) 15 = (n : Int) ∧ W.cell? ⟨b, n, none⟩ = some (.int .u32 (t : Int)) ∧ bits .xor .u32 (t : Int) ((r : Int) / 16) = (q : Int) ∧ q < 4294967296 ∧ Hid (q = Crc.nib r k) := by
  have hn : (r ^^^ k) % 16 < 16 := by omega
  refine ⟨(r ^^^ k) % 16, Crc.step4 ((r ^^^ k) % 16), Crc.nib r k, hn, ?_, HTB.out _ hn, ?_, Crc.nib_lt hr, rfl⟩
  · rw [show (r : Int) % 256 = ((r % 256 : Nat) : Int) by omega, xor8 _ _ (by omega) hk, and8_15 _ (Nat.xor_lt_two_pow (n := 8) (by omega) hk), low_xor]
  · rw [show (r : Int) / 16 = ((r / 16 : Nat) : Int) by omega, xor32 _ _ (Crc.step4_lt (by omega)) (by omega)]
    rfl

set_option maxHeartbeats 1000000 in
set_option maxRecDepth 100000 in
theorem update_any (sum : Nat) (s : ByteArray) (w : World) (hs : s.size ≤ 1000000000000) (hsum : sum < 4294967296) :
    Calls Tryz.prog 108 #[.int .u32 sum, .string s] w fun e w' => e = .returned (.int .u32 (Crc.upd sum s.data.toList : Nat)) ∧ Below w.heap.size w w' := by
  go_enter Tryz.func108, Tryz.ntmps108
  go_wp2_with fail
  refine (table_any w).mono ?_
  rintro e w1 ⟨b, rfl, htb, hb⟩
  have hcv := Lib.run_convert_string_bytes (P := Tryz.prog) w1 9 124 5 s (u := .string) Tryz.underlying9 Tryz.underlying124 Tryz.underlying5
  have hB : ∀ j, j < s.size → (Lib.bytesWorld w1 5 s).cell? ⟨w1.heap.size, j, none⟩ = some (.int .u8 (s.data.toList.getD j 0).toNat) := fun j hj => Lib.bytesWorld_cell w1 5 s j hj
  have hbw0 := below_bytes w1 5 s
  have HTB := Lib.hid (fun i hi => cell_kept hbw0 (Nat.le_refl _) (htb i hi))
  have hbw1 := Below.up hb (Nat.le_refl _) hbw0
  obtain ⟨W1, hW1⟩ : ∃ W1, W1 = Lib.bytesWorld w1 5 s := ⟨_, rfl⟩
  rw [← hW1] at hcv hB hbw1 HTB
  clear hW1 hbw0 htb
  have HB := Lib.hid hB
  clear hB
  have hX0 : bits .xor .u32 IntKind.u32.max (sum : Int) = ((4294967295 ^^^ sum : Nat) : Int) := xor32 4294967295 sum (by omega) hsum
  have hr0 : 4294967295 ^^^ sum < 4294967296 := Crc.xor_lt (by omega) hsum
  have HU := Lib.hid (show 4294967295 ^^^ Crc.run (Crc.run (4294967295 ^^^ sum) []) (s.data.toList.drop 0) = Crc.upd sum s.data.toList from rfl)
  obtain ⟨r0, hr00⟩ : ∃ r0, 4294967295 ^^^ sum = r0 := ⟨_, rfl⟩
  rw [hr00] at hX0 hr0 HU
  clear hr00
  go_wp2
  go_loopw [6, 15] (fun rv iv wr => ∃ (i r : Nat), rv = .int .u32 (r : Int) ∧ iv = .int .i64 (i : Int) ∧ i ≤ s.size ∧ r < 4294967296 ∧ 4294967295 ^^^ Crc.run r (s.data.toList.drop i) = Crc.upd sum s.data.toList ∧ wr = W1) (fun _ iv _ => s.size - (intOf iv).toNat)
  case atStart => exact ⟨0, r0, rfl, rfl, by omega, hr0, HU.out, rfl⟩
  case round =>
    obtain ⟨i, r, rfl, rfl, hi, hr, hrun, rfl⟩ := hrel
    have HR := Lib.hid hrun
    clear hrun HU hX0
    by_cases hp : i < s.size
    · have hc := HB.out i hp
      obtain ⟨c, hcc, hdr⟩ := getD_at s i hp
      rw [hcc] at hc
      have hcl : c.toNat < 256 := c.toNat_lt
      have HF := Lib.hid (show 4294967295 ^^^ Crc.run (Crc.byte r c.toNat) (s.data.toList.drop (i + 1)) = Crc.upd sum s.data.toList by rw [← HR.out, hdr]; rfl)
      obtain ⟨k, hk⟩ : ∃ k, c.toNat = k := ⟨_, rfl⟩
      rw [hk] at hc hcl HF
      clear hdr hcc hk HR
      obtain ⟨n1, t1, r1, hn1, hA1, hc1, hX1, hr1, H1⟩ := nib_step HTB hr hcl
      obtain ⟨n2, t2, r2, hn2, hA2, hc2, hX2, hr2, H2⟩ := nib_step HTB hr1 (show k / 16 < 256 by omega)
      have HF2 := Lib.hid (show 4294967295 ^^^ Crc.run r2 (s.data.toList.drop (i + 1)) = Crc.upd sum s.data.toList by rw [← HF.out, H2.out, H1.out]; rfl)
      have hk16 : ((k / 16 : Nat) : Int) = (k : Int) / 16 := by omega
      rw [hk16] at hA2
      clear HF H1 H2 hk16 HTB HB
      go_wp2
      exact ⟨⟨i + 1, r2, rfl, by go_num, by omega, hr2, HF2.out, trivial⟩, by simp [intOf]; omega⟩
    · obtain rfl : i = s.size := by omega
      have hX1 : bits .xor .u32 IntKind.u32.max (r : Int) = ((4294967295 ^^^ r : Nat) : Int) := xor32 4294967295 r (by omega) hr
      have HF := Lib.hid (show 4294967295 ^^^ r = Crc.upd sum s.data.toList by rw [← HR.out, List.drop_of_length_le (by rw [← Lib.size_eq]; omega)]; rfl)
      obtain ⟨q, hq⟩ : ∃ q, 4294967295 ^^^ r = q := ⟨_, rfl⟩
      rw [hq] at hX1 HF
      clear hq HR
      go_wp2
      go_ret
      rw [← HF.out]
      exact ⟨rfl, hbw1⟩
theorem sum_any (s : ByteArray) (w : World) (hs : s.size ≤ 1000000000000) :
    Calls Tryz.prog 109 #[.string s] w fun e w' => e = .returned (.int .u32 (Crc.sum s.data.toList : Nat)) ∧ Below w.heap.size w w' := by
  go_enter Tryz.func109, Tryz.ntmps109
  go_wp2_with fail
  refine (update_any 0 s w hs (by omega)).mono ?_
  rintro e w1 ⟨rfl, hb⟩
  go_wp2
  go_ret
  exact ⟨rfl, hb⟩
end Go.Proofs.YthmblkckpdpjkaaGreatDoor
