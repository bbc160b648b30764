/-
  The walk of num.hold: at whatever numbers.
-/
import Derived.Test.YthmblkckpdpjkaaGreatDoorProg
import Derived.Test.YthmblkckpdpjkaaGreatDoorNumA
import Derived.WalkKit
import Derived.WalkSpells
import Derived.WalkLawsBesides
import Derived.Lib.Hide
namespace Go.Proofs.YthmblkckpdpjkaaGreatDoor
open Go.RowKit

theorem ret_i64 {a b : Int} (h : a = b) : Ending.returned (.int .i64 a) = .returned (.int .i64 b) := by rw [h]
theorem hold_any (x least most : Int) (w : World) (r : Int) (hr : r = max least (min x most)) : Calls Tryz.prog 110 #[.int .i64 x, .int .i64 least, .int .i64 most] w fun e w' => e = .returned (.int .i64 r) ∧ w = w' := by
  go_enter Tryz.func110, Tryz.ntmps110
  go_wp2
  all_goals (go_ret; refine ⟨ret_i64 ?_, rfl⟩; omega)

theorem held_eq (n : Int) : ((Num.held n : Nat) : Int) = max 0 (min n 1099511627776) := by unfold Num.held; split <;> (try split) <;> omega
theorem putHold_any (n : Int) (w : World) : Calls Tryz.prog 110 #[.int .i64 n, .int .i64 0, .int .i64 1099511627776] w fun e w' => e = .returned (.int .i64 (Num.held n : Nat)) ∧ w = w' :=
  hold_any n 0 1099511627776 w _ (held_eq n)
theorem heldInt_eq (n : Int) : Num.heldInt n = max (-549755813888) (min n 549755813888) := by unfold Num.heldInt; split <;> (try split) <;> omega
theorem intHold_any (n : Int) (w : World) : Calls Tryz.prog 110 #[.int .i64 n, .int .i64 (-549755813888), .int .i64 549755813888] w fun e w' => e = .returned (.int .i64 (Num.heldInt n)) ∧ w = w' :=
  hold_any n _ _ w _ (heldInt_eq n)
end Go.Proofs.YthmblkckpdpjkaaGreatDoor
