/-
  The frame of a text law: what the listed variables give a walk; a world that lays them.
-/
import Derived.Test.YthnhnaaihhagaaaDoorEnv
import Derived.Test.YthnhnaaihhagaaaDoorRows
import Derived.Lib.LaidIn
import Derived.Lib.LaidU8
import Derived.Stop.LaidErr
import Derived.Deep.DeepHandedRow
import Derived.Deep.DeepWitnessRowRef
import Derived.ProofKit
import Derived.SizedLaws
namespace Go.Proofs.YthnhnaaihhagaaaDoor
open Go.RowKit Go.Shelf

theorem own : ownKnob Tryd.prog.godebug = none := by kernel_rfl
def laidAll : List (String × DataW Unit) := Rows.textRunesRow.laid
theorem accept_same : Rows.laid_unicode_utf8_acceptRanges (H := Unit) = Lib.acceptData := by kernel_rfl
theorem first_same : Rows.laid_unicode_utf8_first = Lib.firstData := by kernel_rfl
def ifaceName : DataW Unit → String
  | .iface n _ => n
  | _ => ""
theorem row_err (u : TypeId) (h : Tryd.prog.typeName? 3 u = some (ifaceName Rows.laid_strconv_ErrRange)) : u = 104 :=
  typeName_ptr_named (nm := "errors.errorString") (by kernel_rfl) (by kernel_rfl) (by decide) u (h.trans (by kernel_rfl))
theorem cells_err : Tryd.prog.cellsOf 106 = 1 := by kernel_rfl
theorem cells_str : Tryd.prog.cellsOf 9 = 1 := by kernel_rfl
theorem gRange : Tryd.prog.globalNamed "strconv.ErrRange" = some 4 := by kernel_rfl
theorem gSyntax : Tryd.prog.globalNamed "strconv.ErrSyntax" = some 3 := by kernel_rfl
theorem gRangeT : (Tryd.prog.globals[4]?).map (·.type) = some 47 := by kernel_rfl
theorem gSyntaxT : (Tryd.prog.globals[3]?).map (·.type) = some 47 := by kernel_rfl
theorem env_of_laid {W : World} (h : laidMet Tryd.prog laidAll W) : Env W := by
  have h3 := Lib.laidMet.reads h (show _ ∈ Rows.textRunesRow.laid from .tail _ (.tail _ (.tail _ (.tail _ (.tail _ (.tail _ (.head _)))))))
  have h4 := Lib.laidMet.reads h (show _ ∈ Rows.textRunesRow.laid from .tail _ (.tail _ (.tail _ (.head _))))
  rw [first_same] at h3
  rw [accept_same] at h4
  have h5 := h.tail.tail.tail.tail
  have h6 := h5.tail
  obtain ⟨a0, sa, hva, _, _, _⟩ := laid_sentinel h5 gRange gRangeT Tryd.underlying47 row_err Tryd.underlying104 Tryd.underlying106 rfl rfl Tryd.underlying9 cells_err cells_str
  obtain ⟨b0, sb, hvb, _, _, _⟩ := laid_sentinel h6 gSyntax gSyntaxT Tryd.underlying47 row_err Tryd.underlying104 Tryd.underlying106 rfl rfl Tryd.underlying9 cells_err cells_str
  exact ⟨utf8Tabs_of_reads Tryd.lays260 ⟨by kernel_rfl, by kernel_rfl, by kernel_rfl, by kernel_rfl, by kernel_rfl, by kernel_rfl, by kernel_rfl⟩ h3 h4,
    ⟨_, _, by simpa using World.var?_cell gSyntax hvb 0⟩, ⟨_, _, by simpa using World.var?_cell gRange hva 0⟩⟩

/-- A world that lays the seven variables: the settled one, two blocks more. -/
noncomputable def low : Nat := (World.holding Tryd.prog default ⟨#[], #[], []⟩).heap.size
def litInt : DataW Unit → Value
  | .lit (.int k n) => .int k n
  | _ => .bool false
def litInts : DataW Unit → Array Value
  | .agg l => (l.map litInt).toArray
  | _ => #[]
def errText : DataW Unit → Value
  | .iface _ (.ptr (.agg [.lit (.string l)])) => .string ⟨l.toArray⟩
  | _ => .bool false
noncomputable def laidWorld (os : Os) : World :=
  let w0 := World.holding Tryd.prog os ⟨#[.cells #[errText Rows.laid_strconv_ErrRange] 106, .cells #[errText Rows.laid_strconv_ErrSyntax] 106], #[], []⟩
  let put (h : Array Obj) (g : Nat) (cs : Array Value) : Array Obj := h.modify g fun
    | .cells _ t frozen => .cells cs t frozen
    | o => o
  let h1 := put w0.heap 0 (Lib.firstTab.map fun z => Value.int .u8 z).toArray
  let h2 := put h1 1 ((List.range 16).flatMap fun i => [Value.int .u8 (Lib.accLo i), Value.int .u8 (Lib.accHi i)]).toArray
  let h3 := put h2 6 (litInts Rows.laid_math_bits_deBruijn32tab)
  let h4 := put h3 7 (litInts Rows.laid_math_bits_deBruijn64tab)
  let h5 := put h4 5 (litInts Rows.laid_internal_strconv_uint64pow10)
  let h6 := put h5 4 #[.iface 104 (.pointer (some ⟨low, 0, none⟩))]
  let h7 := put h6 3 #[.iface 104 (.pointer (some ⟨low + 1, 0, none⟩))]
  { w0 with heap := h7 }
theorem laid_met (os : Os) (args : Array Value) : laidMet Tryd.prog laidAll ((laidWorld os).forCall (fun _ _ => 0) ⟨#[], args, []⟩).memory :=
  (LaidIn.of_run (l := laidAll) [6, 7, 5, 1, 4, low, 3, low + 1, 0] 8 (by kernel_rfl) (by kernel_rfl) (by kernel_rfl) (by kernel_rfl)).met
end Go.Proofs.YthnhnaaihhagaaaDoor
