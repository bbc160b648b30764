/-
  The law ReplicaMeets, lifted: a replica that takes what another one has, from where they part on, has the other's log, and commits the same
-/
import Derived.Test.YtgddgipjpdjoaaaGreatDoorFrame
import Derived.Test.YtgddgipjpdjoaaaGreatDoorMeP5
import Derived.Test.YtgddgipjpdjoaaaGreatDoorCards
import Derived.Test.YtgddgipjpdjoaaaGreatDoorTie
import Derived.SevenTiedAt
import Derived.Test.YtgddgipjpdjoaaaGreatDoorOpn2
import Derived.Carry
namespace Go.Proofs.YtgddgipjpdjoaaaGreatDoor
open Go.Shelf Go.ChangeShapes Go.WideShapes Go.ChangeAt Go.RowKit Go.Lib
open Go.ChangeMaps (open_string shut_string)
theorem laidOut : laidOutB Tryz.prog = true := by kernel_rfl
theorem acts_arg {H : Type} {enc : TypeId × Value → H} {W : World} {a0 : Option Addr} {len cap : Nat} {d : DataW H} {p : List MemPlace}
   (h : DataW.Trod enc Tryz.prog W 0 (fun _ => true) true 22 (.slice a0 len cap) d p) : ∃ l, Acts17R W (.slice a0 len cap) l := by
 obtain ⟨fuel, hf⟩ := h
 exact open_acts17 hf
theorem witness_replicaMeets (os : Os) {H : Type} (enc : TypeId × Value → H) :
   (OpenSpec.ofChange Rows.replicaMeetsSpec).preRow enc Tryz.prog Tryz.f5 Rows.replicaMeetsRow.domain false Rows.replicaMeetsRow.laid ((laidWorld os).forCall (fun _ _ => 0) ⟨#[], #[.slice none 0 0, .slice none 0 0], []⟩).memory #[.slice none 0 0, .slice none 0 0] := by
 have hw : (DataW.whole enc Tryz.prog ((laidWorld os).forCall (fun _ _ => 0) ⟨#[], #[.slice none 0 0, .slice none 0 0], []⟩).memory Tryz.f5.params.toList (OpenSpec.ofChange Rows.replicaMeetsSpec).vars false #[Value.slice none 0 0, Value.slice none 0 0].toList 8).map (fun x => (x.1, x.2.1)) =
     some ([.nil, .nil], []) := by kernel_rfl
 obtain ⟨⟨x1, x2, x3⟩, hx, hx1⟩ := Option.map_eq_some_iff.1 hw
 simp only [Prod.mk.injEq] at hx1
 obtain ⟨rfl, rfl⟩ := hx1
 exact OpenSpec.preRow_of_cond 8 hx (by kernel_rfl) (fun k hk => by cases hk) (by kernel_rfl) (laid_met os _)
set_option maxRecDepth 100000 in
set_option maxHeartbeats 2000000 in
theorem replicaMeets_lifted (os : Os) (started : os.Started) (H : Type) (enc : TypeId × Value → H) (F : Stop.Interp) :
   ReturnsInHanded {} Tryz.checked os 5 .any ((OpenSpec.ofChange Rows.replicaMeetsSpec).preRow enc Tryz.prog Tryz.f5 Rows.replicaMeetsRow.domain false Rows.replicaMeetsRow.laid) (((OpenSpec.ofChange Rows.replicaMeetsSpec).at F).post enc Tryz.prog Tryz.f5 false true false false) := by
 refine returnsInHanded_of_row (C := Tryz.checked) (s := OpenSpec.ofChange Rows.replicaMeetsSpec) own started (by kernel_rfl) Tryz.func5
   (witness_row_atRef (enc := enc) (C := Tryz.checked) false (laidWorld os) #[.slice none 0 0, .slice none 0 0] rfl (by kernel_rfl) (by kernel_rfl) (by kernel_rfl) (witness_replicaMeets os enc)) ?_
 intro W base args ds gs before hval0 hW _ _ _ hL _ _
 have hval : ∀ (j : Nat) t v, Tryz.f5.params[j]? = some t → args[j]? = some v → Value.okWide Tryz.prog W .any base t v := hval0
 have hW' := hW
 obtain ⟨p, q, hA0, hV0, rfl, _, _⟩ := hW
 have hA : DataW.TrodAll enc Tryz.prog W 0 (fun _ => true) true Tryz.f5.params.toList args.toList ds p := hA0
 rw [Tryz.params5] at hA hval
 obtain ⟨v0, v1, d0, d1, p0, p1, rfl, rfl, rfl, h0, h1⟩ := trodAll_two hA
 obtain ⟨rfl, rfl⟩ := trodVars_none hV0
 have h0k := h0
 obtain ⟨a0, len0, cap0, rfl⟩ := okWide_slice Tryz.underlying22 (hval 0 22 v0 rfl rfl)
 have hlt0 : ∀ x ∈ p0, x.block < W.heap.size := fun x hx => hW'.lt x (by simp [hx])
 obtain ⟨es0, hc0⟩ := acts_arg h0
 have h1k := h1
 obtain ⟨a1, len1, cap1, rfl⟩ := okWide_slice Tryz.underlying22 (hval 1 22 v1 rfl rfl)
 have hlt1 : ∀ x ∈ p1, x.block < W.heap.size := fun x hx => hW'.lt x (by simp [hx])
 obtain ⟨es1, hc1⟩ := acts_arg h1
 clear hA0 hV0 hval0
 have hE : Env W := env_of_laid hL
 refine (replicaMeets_any (.slice a0 len0 cap0) es0 (.slice a1 len1 cap1) es1 W hE hc0 hc1).mono ?_
 rintro e W' ⟨rfl, bel⟩
 have e1 : ((OpenSpec.ofChange Rows.replicaMeetsSpec).at F).fn H ([d0, d1] ++ []) = { results := [.lit (.bool true)], args := [d0, d1] } := rfl
 refine ⟨_, rfl, _, _, _, [], p0 ++ p1, [], hW', ?_, ?_, ?_, bel.frame _, fun h => by cases h⟩
 · rw [e1]; exact trodAll_mk1 (shut_bool Tryz.underlying4 _)
 · rw [e1]; exact trodAll_mk2 (Below.trod laidOut (by kernel_rfl) (of_decide_eq_true (by kernel_rfl)) h0k bel hlt0) (Below.trod laidOut (by kernel_rfl) (of_decide_eq_true (by kernel_rfl)) h1k bel hlt1)
 · rw [e1]; rfl
end Go.Proofs.YtgddgipjpdjoaaaGreatDoor
