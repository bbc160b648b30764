/-
  The frame of a text law: what the listed variables give a walk; a world that lays them.
-/
import Derived.Test.YtgddgipjpdjoaaaGreatDoorEnv
import Derived.Test.YtgddgipjpdjoaaaGreatDoorRows
import Derived.Test.YtgddgipjpdjoaaaGreatDoorShelfB
import Derived.Lib.LaidIn
import Derived.Lib.LaidU8
import Derived.Stop.LaidErr
import Derived.Deep.DeepHandedRow
import Derived.Deep.DeepWitnessRowRef
import Derived.ProofKit
import Derived.SizedLaws
import Derived.Lib.LaidTab
namespace Go.Proofs.YtgddgipjpdjoaaaGreatDoor
open Go.RowKit Go.Shelf
theorem own : ownKnob Tryz.prog.godebug = none := by kernel_rfl
def laidAll : List (String × DataW Unit) := Rows.replicaHandsRow.laid
theorem accept_same : Rows.laid_unicode_utf8_acceptRanges (H := Unit) = Lib.acceptData := by kernel_rfl
theorem first_same : Rows.laid_unicode_utf8_first = Lib.firstData := by kernel_rfl
def ifaceName : DataW Unit → String
 | .iface n _ => n
 | _ => ""
theorem row_err (u : TypeId) (h : Tryz.prog.typeName? 3 u = some (ifaceName Rows.laid_strconv_ErrRange)) : u = 401 :=
 typeName_ptr_named (nm := "errors.errorString") (by kernel_rfl) (by kernel_rfl) (by decide) u (h.trans (by kernel_rfl))
theorem cells_err : Tryz.prog.cellsOf 403 = 1 := by kernel_rfl
theorem cells_str : Tryz.prog.cellsOf 9 = 1 := by kernel_rfl
theorem gRange : Tryz.prog.globalNamed "strconv.ErrRange" = some 1 := by kernel_rfl
theorem gSyntax : Tryz.prog.globalNamed "strconv.ErrSyntax" = some 0 := by kernel_rfl
theorem gRangeT : (Tryz.prog.globals[1]?).map (·.type) = some 270 := by kernel_rfl
theorem gSyntaxT : (Tryz.prog.globals[0]?).map (·.type) = some 270 := by kernel_rfl
theorem pow_same : Rows.laid_internal_strconv_uint64pow10 (H := Unit) = Lib.tabData .u64 Lib.pow10Tab := by kernel_rfl
theorem gPow : Tryz.prog.globalNamed (Rows.replicaHandsRow.laid.map (·.1))[2]! = some 4 := by kernel_rfl
theorem gPowT : (Tryz.prog.globals[4]?).map (·.type) = some 410 := by kernel_rfl
theorem block_of_tab {nm : String} {w : World} (hg : Tryz.prog.globalNamed nm = some 4) (h : Lib.TabIs Tryz.prog w nm .u64 Lib.pow10Tab) : ∃ t fr, w.heap[4]? = some (.cells (Lib.pow10Tab.map fun z => Value.int .u64 z).toArray t fr) := by
 unfold Lib.TabIs World.var? at h
 rw [hg] at h
 simp only [Option.bind_some] at h
 split at h
 · rename_i cs t fr hb
   injection h with h
   subst h
   exact ⟨t, fr, hb⟩
 · cases h
theorem tab_of_laid {W : World} {rest : List (String × DataW Unit)} (h : laidMet Tryz.prog (((Rows.replicaHandsRow.laid.map (·.1))[2]!, Rows.laid_internal_strconv_uint64pow10) :: rest) W) : Lib.TabIs Tryz.prog W (Rows.replicaHandsRow.laid.map (·.1))[2]! .u64 Lib.pow10Tab := by
 rw [pow_same] at h
 exact Lib.tabIs_of_head gPow gPowT Tryz.underlying410 Tryz.underlying324 (by kernel_rfl) (by kernel_rfl) h
theorem env_of_laid {W : World} (h : laidMet Tryz.prog laidAll W) : Env W := by
 have h3 := Lib.laidMet.reads h (show _ ∈ Rows.replicaHandsRow.laid from .tail _ (.tail _ (.tail _ (.tail _ (.tail _ (.tail _ (.head _)))))))
 have h4 := Lib.laidMet.reads h (show _ ∈ Rows.replicaHandsRow.laid from .tail _ (.tail _ (.tail _ (.head _))))
 rw [first_same] at h3
 rw [accept_same] at h4
 have hp := h.tail.tail
 have hpow := block_of_tab gPow (tab_of_laid hp)
 have h5 := h.tail.tail.tail.tail
 have h6 := h5.tail
 obtain ⟨a0, sa, hva, _, _, _⟩ := laid_sentinel h5 gRange gRangeT Tryz.underlying270 row_err Tryz.underlying401 Tryz.underlying403 rfl rfl Tryz.underlying9 cells_err cells_str
 obtain ⟨b0, sb, hvb, _, _, _⟩ := laid_sentinel h6 gSyntax gSyntaxT Tryz.underlying270 row_err Tryz.underlying401 Tryz.underlying403 rfl rfl Tryz.underlying9 cells_err cells_str
 exact ⟨utf8Tabs_of_reads Tryz.lays260 ⟨by kernel_rfl, by kernel_rfl, by kernel_rfl, by kernel_rfl, by kernel_rfl, by kernel_rfl, by kernel_rfl⟩ h3 h4,
   ⟨_, _, by simpa using World.var?_cell gSyntax hvb 0⟩, ⟨_, _, by simpa using World.var?_cell gRange hva 0⟩, hpow⟩
noncomputable def low : Nat := (World.holding Tryz.prog default ⟨#[], #[], []⟩).heap.size
def litInt : DataW Unit → Value
 | .lit (.int k n) => .int k n
 | _ => .bool false
def litInts : DataW Unit → Array Value
 | .agg l => (l.map litInt).toArray
 | _ => #[]
def errText : DataW Unit → Value
 | .iface _ (.ptr (.agg [.lit (.string l)])) => .string ⟨l.toArray⟩
 | _ => .bool false
noncomputable def laidWorld (os : Os) : World :=
 let w0 := World.holding Tryz.prog os ⟨#[.cells #[errText Rows.laid_strconv_ErrRange] 403, .cells #[errText Rows.laid_strconv_ErrSyntax] 403], #[], []⟩
 let put (h : Array Obj) (g : Nat) (cs : Array Value) : Array Obj := h.modify g fun
   | .cells _ t frozen => .cells cs t frozen
   | o => o
 let h1 := put w0.heap 2 (Lib.firstTab.map fun z => Value.int .u8 z).toArray
 let h2 := put h1 3 ((List.range 16).flatMap fun i => [Value.int .u8 (Lib.accLo i), Value.int .u8 (Lib.accHi i)]).toArray
 let h3 := put h2 5 (litInts Rows.laid_math_bits_deBruijn32tab)
 let h4 := put h3 6 (litInts Rows.laid_math_bits_deBruijn64tab)
 let h5 := put h4 4 (litInts Rows.laid_internal_strconv_uint64pow10)
 let h6 := put h5 1 #[.iface 401 (.pointer (some ⟨low, 0, none⟩))]
 let h7 := put h6 0 #[.iface 401 (.pointer (some ⟨low + 1, 0, none⟩))]
 { w0 with heap := h7 }
theorem laid_met (os : Os) (args : Array Value) : laidMet Tryz.prog laidAll ((laidWorld os).forCall (fun _ _ => 0) ⟨#[], args, []⟩).memory :=
 (LaidIn.of_run (l := laidAll) [5, 6, 4, 3, 1, low, 0, low + 1, 2] 8 (by kernel_rfl) (by kernel_rfl) (by kernel_rfl) (by kernel_rfl)).met
end Go.Proofs.YtgddgipjpdjoaaaGreatDoor
