/-
  PROVED: without a lease nobody is told what a state has: a read is refused as soon as the lease is over, and from a new view on
  Conditions: none but the row's own (the listed variables read as the program's text lays them: tied).
-/
import Derived.Test.YtmgmknmaepjnoaaGreatDoorNodLeS
import Derived.Test.YtmgmknmaepjnoaaGreatDoorNodLeG
namespace Go.Proofs.YtmgmknmaepjnoaaGreatDoor
open Proofs.Tryz
open Go.Shelf Go.ChangeShapes Go.WideShapes Go.ChangeAt Go.RowKit Go.Lib
open Go.ChangeMaps (open_string shut_string)
theorem nodeLeases_card:Rows.NodeLeasesCardSaid :=
 Claim7.holds_tied_plain_at .later [] [.data,.data,.data,.data,.sentinel,.sentinel,.pinned] true (true,"048f9cd363eb9c4ba9e24b8bbafb735724629a1757b45eaab4a46aae51d29ec0") true
  tD (fun _ h=>by cases h) (by kernel_rfl) (fun _ h=>by cases h) nodeLeases_row_tie rfl ⟨rfl,rfl⟩ (by kernel_rfl) rfl
  (fun f fn hf hfn=>by
   obtain rfl:f=3:=Option.some.inj ((show prog.funcNamed Rows.nodeLeasesRow.func=some 3 by kernel_rfl).symm.trans hf) |>.symm
   obtain rfl:fn=Tryz.f3:=(Option.some.inj (func3.symm.trans hfn)).symm
   exact⟨by kernel_rfl,fun j t ht=>by
    rw[Tryz.params3]at ht
    have h9:t=22∨t=3∨t=4:=by
     rcases j with _|_|_|_|j
     ·exact(.inl (by simpa using ht.symm))
     ·exact(.inr (.inl (by simpa using ht.symm)))
     ·exact(.inr (.inl (by simpa using ht.symm)))
     ·exact(.inr (.inr (by simpa using ht.symm)))
     ·simp at ht
    rcases h9 with rfl|rfl|rfl
    ·exact(show prog.wantsStandIn 22=false by kernel_rfl)
    ·exact(show prog.wantsStandIn 3=false by kernel_rfl)
    ·exact(show prog.wantsStandIn 4=false by kernel_rfl)⟩)
  tE
end Go.Proofs.YtmgmknmaepjnoaaGreatDoor
