/-
  PROVED: a node that has a view of an epoch takes nothing that is of another one, nor a view that is not newer: nothing is written, committed, or told
  Conditions: none but the row's own (the listed variables read as the program's text lays them: tied).
-/
import Derived.Test.YtmgmknmaepjnoaaGreatDoorNodFeS
import Derived.Test.YtmgmknmaepjnoaaGreatDoorNodFeG
namespace Go.Proofs.YtmgmknmaepjnoaaGreatDoor
open Proofs.Tryz
open Go.Shelf Go.ChangeShapes Go.WideShapes Go.ChangeAt Go.RowKit Go.Lib
open Go.ChangeMaps (open_string shut_string)
theorem nodeFenced_card:Rows.NodeFencedCardSaid :=
 Claim7.holds_tied_plain_at .later [] [.data,.data,.data,.data,.sentinel,.sentinel,.pinned] true (true,"048f9cd363eb9c4ba9e24b8bbafb735724629a1757b45eaab4a46aae51d29ec0") true
  uo (fun _ h=>by cases h) (by kernel_rfl) (fun _ h=>by cases h) nodeFenced_row_tie rfl ⟨rfl,rfl⟩ (by kernel_rfl) rfl
  (fun f fn hf hfn=>by
   obtain rfl:f=5:=Option.some.inj ((show prog.funcNamed Rows.nodeFencedRow.func=some 5 by kernel_rfl).symm.trans hf) |>.symm;obtain rfl:fn=Tryz.f5:=(Option.some.inj (func5.symm.trans hfn)).symm;exact⟨by kernel_rfl,fun j t ht=>by
    rw[Tryz.params5]at ht;have h9:t=22\/t=3\/t=67:=by
     rcases j with _|_|_|_|j
     ·exact(.inl (by simpa using ht.symm))
     ·exact(.inr (.inl (by simpa using ht.symm)))
     ·exact(.inr (.inr (by simpa using ht.symm)))
     ·exact(.inr (.inl (by simpa using ht.symm)))
     ·simp at ht
    rcases h9 with rfl|rfl|rfl
    ·exact(show prog.wantsStandIn 22=false by kernel_rfl)
    ·exact(show prog.wantsStandIn 3=false by kernel_rfl)
    ·exact(show prog.wantsStandIn 67=false by kernel_rfl)⟩)
  uq
end Go.Proofs.YtmgmknmaepjnoaaGreatDoor
