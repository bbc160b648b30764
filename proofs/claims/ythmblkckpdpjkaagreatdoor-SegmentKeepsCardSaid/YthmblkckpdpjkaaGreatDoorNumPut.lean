/-
  The walk of num.Put: at every number.
-/
import Derived.Test.YthmblkckpdpjkaaGreatDoorOwn
import Derived.Test.YthmblkckpdpjkaaGreatDoorNumHold
namespace Go.Proofs.YthmblkckpdpjkaaGreatDoor
open Go.RowKit Go.Shelf

set_option maxRecDepth 100000 in
theorem or128 (x : Int) (h0 : 0 ≤ x) (h1 : x < 256) : bits .or .u8 x 128 = x % 128 + 128 := by
  obtain ⟨k, rfl⟩ := Int.eq_ofNat_of_zero_le h0
  have : ∀ k : Fin 256, bits .or .u8 (k.1 : Int) 128 = (k.1 : Int) % 128 + 128 := by decide
  exact this ⟨k, by omega⟩

set_option maxHeartbeats 1000000 in
set_option maxRecDepth 100000 in
theorem numPut_any (n : Int) (w : World) :
    Calls Tryz.prog 77 #[.int .i64 n] w fun e w' => e = .returned (.string ⟨(Num.put (Num.held n)).toArray⟩) ∧ Below w.heap.size w w' := by
  have hh := Num.held_le n
  have hl6 := Num.put_le6 _ hh
  have HC := Lib.hid (putHold_any n w)
  obtain ⟨h, hhe⟩ : ∃ h, Num.held n = h := ⟨_, rfl⟩
  rw [hhe] at hh hl6 HC ⊢
  go_enter Tryz.func77, Tryz.ntmps77
  go_wp2_with fail
  refine HC.out.mono ?_
  rintro e w1 ⟨rfl, rfl⟩
  clear hhe HC
  go_wp2
  go_loopw [0, 3] (fun nv bv wr => ∃ (m : Nat) (acc : List UInt8), nv = .int .i64 (m : Int) ∧ m ≤ 1099511627776 ∧ wr.ownsRow w.heap.size 5 1 bv acc.length (Lib.byteCells acc) ∧ Below w.heap.size w wr ∧ acc ++ Num.put m = Num.put h) (fun nv _ _ => (intOf nv).toNat)
  case atStart => exact ⟨h, [], rfl, hh, World.ownsRow_nil _ _ _ _, Below.refl _ _, rfl⟩
  case round =>
    obtain ⟨m, acc, rfl, hm, hown, hbw, hacc⟩ := hrel
    have HA := Lib.hid hacc
    have hal : acc.length ≤ 6 := by rw [← hacc, List.length_append] at hl6; omega
    have hbs := hbw.size
    clear hacc
    by_cases hp : (128 : Int) ≤ m
    · have hq : bits .or .u8 ((m : Int) % 256) 128 = (m : Int) % 128 + 128 := by
        rw [or128 _ (by omega) (by omega)]; omega
      go_wp2_with (at_builtin; refine wpList_append_new rfl _ _ _ rfl byteT rfl hown hbw hbs _ _ rfl rfl (by simp [Value.oneCell']) (by omega) ?_)
      intro v' w2 hown' _ hbw2 _
      rw [byteCells_snoc acc (m % 128 + 128).toUInt8 _ (by rw [Num.toU8_nat _ (by omega)]; omega)] at hown'
      have HF := Lib.hid (show (acc ++ [(m % 128 + 128).toUInt8]) ++ Num.put (m / 128) = Num.put h by rw [← HA.out, Num.put_large m (by omega)]; simp)
      clear hown HA hq
      go_wp2
      exact ⟨⟨m / 128, acc ++ [(m % 128 + 128).toUInt8], by go_num, by omega, by simpa using hown', hbw2, HF.out⟩, by simp [intOf]; omega⟩
    · go_wp2_with (at_builtin; refine wpList_append_new rfl _ _ _ rfl byteT rfl hown hbw hbs _ _ rfl rfl (by simp [Value.oneCell']) (by omega) ?_)
      intro v' w2 hown' _ hbw2 _
      rw [byteCells_snoc acc m.toUInt8 _ (by rw [Num.toU8_nat _ (by omega)])] at hown'
      have HF := Lib.hid (show acc ++ [m.toUInt8] = Num.put h by rw [← HA.out, Num.put_small m (by omega)])
      have hstr := run_string_owned (acc := acc ++ [m.toUInt8]) (by simpa using hown')
      clear hown HA
      go_wp2
      go_ret
      rw [HF.out]
      exact ⟨rfl, hbw2⟩
end Go.Proofs.YthmblkckpdpjkaaGreatDoor
