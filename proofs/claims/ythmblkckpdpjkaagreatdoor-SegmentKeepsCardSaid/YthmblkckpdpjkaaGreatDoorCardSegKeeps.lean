/-
  PROVED: the law SegmentKeeps answers true for every two slices of entries and every number, and they read behind the call as they read before.
  Conditions: none but the row's own (the listed variables read as the program's text lays them: tied).
-/
import Derived.Test.YthmblkckpdpjkaaGreatDoorFrame
import Derived.Test.YthmblkckpdpjkaaGreatDoorLawKeeps
import Derived.Test.YthmblkckpdpjkaaGreatDoorCards
import Derived.Test.YthmblkckpdpjkaaGreatDoorTie
import Derived.SevenTiedAt
import Derived.Test.YthmblkckpdpjkaaGreatDoorOpenE
import Derived.Carry
namespace Go.Proofs.YthmblkckpdpjkaaGreatDoor
open Go.Shelf Go.ChangeShapes Go.WideShapes Go.ChangeAt Go.RowKit Go.Lib
open Go.ChangeMaps (open_string shut_string)

theorem laidOut : laidOutB Tryz.prog = true := by kernel_rfl
theorem entries_arg {H : Type} {enc : TypeId × Value → H} {W : World} {a0 : Option Addr} {len cap : Nat} {d : DataW H} {p : List MemPlace}
    (h : DataW.Trod enc Tryz.prog W 0 (fun _ => true) true 26 (.slice a0 len cap) d p) : ∃ ps : List (Evt.Entry × Value), EntsR W (.slice a0 len cap) ps ∧ Roomed (.slice a0 len cap) := by
  obtain ⟨fuel, hf⟩ := h
  exact open_entries hf
theorem witness_segmentKeeps (os : Os) {H : Type} (enc : TypeId × Value → H) :
    (OpenSpec.ofChange Rows.segmentKeepsSpec).preRow enc Tryz.prog Tryz.f6 Rows.segmentKeepsRow.domain false Rows.segmentKeepsRow.laid ((laidWorld os).forCall (fun _ _ => 0) ⟨#[], #[.slice none 0 0, .slice none 0 0, .int .i64 0], []⟩).memory #[.slice none 0 0, .slice none 0 0, .int .i64 0] := by
  have hw : (DataW.whole enc Tryz.prog ((laidWorld os).forCall (fun _ _ => 0) ⟨#[], #[.slice none 0 0, .slice none 0 0, .int .i64 0], []⟩).memory Tryz.f6.params.toList (OpenSpec.ofChange Rows.segmentKeepsSpec).vars false #[Value.slice none 0 0, Value.slice none 0 0, Value.int .i64 0].toList 8).map (fun x => (x.1, x.2.1)) =
      some ([.nil, .nil, .lit (.int .i64 0)], []) := by kernel_rfl
  obtain ⟨⟨x1, x2, x3⟩, hx, hx1⟩ := Option.map_eq_some_iff.1 hw
  simp only [Prod.mk.injEq] at hx1
  obtain ⟨rfl, rfl⟩ := hx1
  exact OpenSpec.preRow_of_cond 8 hx (by kernel_rfl) (fun k hk => by cases hk) (by kernel_rfl) (laid_met os _)

set_option maxRecDepth 100000 in
set_option maxHeartbeats 2000000 in
theorem segmentKeeps_lifted (os : Os) (started : os.Started) (H : Type) (enc : TypeId × Value → H) (F : Stop.Interp) :
    ReturnsInHanded {} Tryz.checked os 6 .any ((OpenSpec.ofChange Rows.segmentKeepsSpec).preRow enc Tryz.prog Tryz.f6 Rows.segmentKeepsRow.domain false Rows.segmentKeepsRow.laid) (((OpenSpec.ofChange Rows.segmentKeepsSpec).at F).post enc Tryz.prog Tryz.f6 false true false false) := by
  refine returnsInHanded_of_row (C := Tryz.checked) (s := OpenSpec.ofChange Rows.segmentKeepsSpec) own started (by kernel_rfl) Tryz.func6
    (witness_row_atRef (enc := enc) (C := Tryz.checked) false (laidWorld os) #[.slice none 0 0, .slice none 0 0, .int .i64 0] rfl (by kernel_rfl) (by kernel_rfl) (by kernel_rfl) (witness_segmentKeeps os enc)) ?_
  intro W base args ds gs before hval0 hW _ _ _ hL _ _
  have hval : ∀ (j : Nat) t v, Tryz.f6.params[j]? = some t → args[j]? = some v → Value.okWide Tryz.prog W .any base t v := hval0
  have hW' := hW
  obtain ⟨p, q, hA0, hV0, rfl, _, _⟩ := hW
  have hA : DataW.TrodAll enc Tryz.prog W 0 (fun _ => true) true Tryz.f6.params.toList args.toList ds p := hA0
  rw [Tryz.params6] at hA hval
  obtain ⟨v0, v1, v2, d0, d1, d2, p0, p1, p2, rfl, rfl, rfl, h0, h1, h2⟩ := trodAll_three hA
  obtain ⟨rfl, rfl⟩ := trodVars_none hV0
  have h0k := h0
  obtain ⟨a0, len0, cap0, rfl⟩ := okWide_slice Tryz.underlying26 (hval 0 26 v0 rfl rfl)
  have hlt0 : ∀ x ∈ p0, x.block < W.heap.size := fun x hx => hW'.lt x (by simp [hx])
  obtain ⟨es0, hc0, hcap0⟩ := entries_arg h0
  have h1k := h1
  obtain ⟨a1, len1, cap1, rfl⟩ := okWide_slice Tryz.underlying26 (hval 1 26 v1 rfl rfl)
  have hlt1 : ∀ x ∈ p1, x.block < W.heap.size := fun x hx => hW'.lt x (by simp [hx])
  obtain ⟨es1, hc1, hcap1⟩ := entries_arg h1
  obtain ⟨n2, rfl, rfl, rfl, ws2⟩ := open_int Tryz.underlying3 (hval 2 3 v2 rfl rfl) h2
  have wn2 : -9223372036854775808 ≤ n2 ∧ n2 ≤ 9223372036854775807 := by
    have h2 : (decide (IntKind.i64.min ≤ n2) && decide (n2 ≤ IntKind.i64.max)) = true := ws2
    rw [Bool.and_eq_true, decide_eq_true_eq, decide_eq_true_eq] at h2
    have e1 : IntKind.i64.min = -9223372036854775808 := by decide
    have e2 : IntKind.i64.max = 9223372036854775807 := by decide
    rw [e1, e2] at h2
    exact h2
  clear hA0 hV0 hval0
  have hE : Env W := env_of_laid hL
  refine (segmentKeeps_any (.slice a0 len0 cap0) es0 (.slice a1 len1 cap1) es1 n2 W hE hc0 hcap0 hc1 hcap1 wn2.1 wn2.2).mono ?_
  rintro e W' ⟨rfl, bel⟩
  have e1 : ((OpenSpec.ofChange Rows.segmentKeepsSpec).at F).fn H ([d0, d1, .lit (.int .i64 n2)] ++ []) = { results := [.lit (.bool true)], args := [d0, d1, .lit (.int .i64 n2)] } := rfl
  refine ⟨_, rfl, _, _, _, [], p0 ++ (p1 ++ []), [], hW', ?_, ?_, ?_, bel.frame _, fun h => by cases h⟩
  · rw [e1]; exact trodAll_mk1 (shut_bool Tryz.underlying4 _)
  · rw [e1]; exact trodAll_mk3 (Below.trod laidOut (by kernel_rfl) (of_decide_eq_true (by kernel_rfl)) h0k bel hlt0) (Below.trod laidOut (by kernel_rfl) (of_decide_eq_true (by kernel_rfl)) h1k bel hlt1) (shut_int Tryz.underlying3 ws2)
  · rw [e1]; rfl

theorem segmentKeeps_said : Rows.SegmentKeepsSaid :=
  OpenClaim.holds_of_cond 6 Tryz.f6 rfl rfl rfl rfl rfl rfl rfl ⟨rfl, rfl, rfl, rfl, rfl⟩ rfl rfl rfl rfl rfl (by kernel_rfl) Tryz.func6 (by kernel_rfl)
    (of_decide_eq_true (by kernel_rfl)) (by unfold Func.isWrapper; rw [if_neg (of_decide_eq_false (by kernel_rfl))]; exact ⟨rfl, rfl⟩)
    (fun os started H enc _ F0 => by rw [OpenClaim.pre_eq_preRow]; exact segmentKeeps_lifted os started H enc F0)

theorem segmentKeeps_card : Rows.SegmentKeepsCardSaid :=
  Claim7.holds_tied_plain_at .later [] [.data, .data, .data, .data, .sentinel, .sentinel, .pinned] true (true, "87fe640204f1797d1b81762245b53c4c7f9feb73559b7fea7621a7ae75d1c939") true
    segmentKeeps_said (fun _ h => by cases h) (by kernel_rfl) (fun _ h => by cases h) segmentKeeps_row_tie rfl ⟨rfl, rfl⟩ (by kernel_rfl) rfl
    (fun f fn hf hfn => by
      obtain rfl : f = 6 := Option.some.inj ((show Tryz.prog.funcNamed Rows.segmentKeepsRow.func = some 6 by kernel_rfl).symm.trans hf) |>.symm
      obtain rfl : fn = Tryz.f6 := (Option.some.inj (Tryz.func6.symm.trans hfn)).symm
      exact ⟨by kernel_rfl, fun j t ht => by
        rw [Tryz.params6] at ht
        have h9 : t = 26 ∨ t = 3 := by
          rcases j with _ | _ | _ | j
          · exact (.inl (by simpa using ht.symm))
          · exact (.inl (by simpa using ht.symm))
          · exact (.inr (by simpa using ht.symm))
          · simp at ht
        rcases h9 with rfl | rfl
        · exact (show Tryz.prog.wantsStandIn 26 = false by kernel_rfl)
        · exact (show Tryz.prog.wantsStandIn 3 = false by kernel_rfl)⟩)
    (by kernel_rfl)
end Go.Proofs.YthmblkckpdpjkaaGreatDoor
