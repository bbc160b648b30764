/-
  PROVED: whatever step of an append a crash falls into, all that was appended before is there, and of what was being added a beginning.
  Conditions: none but the row's own (the listed variables read as the program's text lays them: tied).
-/
import Derived.Test.YtbknlffebcbjfaaGreatDoorFrame
import Derived.Test.YtbknlffebcbjfaaGreatDoorLawLTe
import Derived.Test.YtbknlffebcbjfaaGreatDoorCards
import Derived.Test.YtbknlffebcbjfaaGreatDoorTie
import Derived.SevenTiedAt
import Derived.Test.YtbknlffebcbjfaaGreatDoorOpenI
import Derived.Carry
namespace Go.Proofs.YtbknlffebcbjfaaGreatDoor
open Go.Shelf Go.ChangeShapes Go.WideShapes Go.ChangeAt Go.RowKit Go.Lib
open Go.ChangeMaps (open_string shut_string)

theorem laidOut : laidOutB Tryz.prog = true := by kernel_rfl
theorem ints_arg {H : Type} {enc : TypeId × Value → H} {W : World} {a0 : Option Addr} {len cap : Nat} {d : DataW H} {p : List MemPlace}
    (h : DataW.Trod enc Tryz.prog W 0 (fun _ => true) true 34 (.slice a0 len cap) d p) : ∃ l : List Int, Cells W (.slice a0 len cap) 1 l.length (intCells l) ∧ ∀ n ∈ l, -9223372036854775808 ≤ n ∧ n ≤ 9223372036854775807 := by
  obtain ⟨fuel, hf⟩ := h
  exact open_introw hf
theorem witness_logTears (os : Os) {H : Type} (enc : TypeId × Value → H) :
    (OpenSpec.ofChange Rows.logTearsSpec).preRow enc Tryz.prog Tryz.f8 Rows.logTearsRow.domain false Rows.logTearsRow.laid ((laidWorld os).forCall (fun _ _ => 0) ⟨#[], #[.int .i64 0, .int .i64 0, .slice none 0 0], []⟩).memory #[.int .i64 0, .int .i64 0, .slice none 0 0] := by
  have hw : (DataW.whole enc Tryz.prog ((laidWorld os).forCall (fun _ _ => 0) ⟨#[], #[.int .i64 0, .int .i64 0, .slice none 0 0], []⟩).memory Tryz.f8.params.toList (OpenSpec.ofChange Rows.logTearsSpec).vars false #[Value.int .i64 0, Value.int .i64 0, Value.slice none 0 0].toList 8).map (fun x => (x.1, x.2.1)) =
      some ([.lit (.int .i64 0), .lit (.int .i64 0), .nil], []) := by kernel_rfl
  obtain ⟨⟨x1, x2, x3⟩, hx, hx1⟩ := Option.map_eq_some_iff.1 hw
  simp only [Prod.mk.injEq] at hx1
  obtain ⟨rfl, rfl⟩ := hx1
  exact OpenSpec.preRow_of_cond 8 hx (by kernel_rfl) (fun k hk => by cases hk) (by kernel_rfl) (laid_met os _)

set_option maxRecDepth 100000 in
set_option maxHeartbeats 2000000 in
theorem logTears_lifted (os : Os) (started : os.Started) (H : Type) (enc : TypeId × Value → H) (F : Stop.Interp) :
    ReturnsInHanded {} Tryz.checked os 8 .any ((OpenSpec.ofChange Rows.logTearsSpec).preRow enc Tryz.prog Tryz.f8 Rows.logTearsRow.domain false Rows.logTearsRow.laid) (((OpenSpec.ofChange Rows.logTearsSpec).at F).post enc Tryz.prog Tryz.f8 false true false false) := by
  refine returnsInHanded_of_row (C := Tryz.checked) (s := OpenSpec.ofChange Rows.logTearsSpec) own started (by kernel_rfl) Tryz.func8
    (witness_row_atRef (enc := enc) (C := Tryz.checked) false (laidWorld os) #[.int .i64 0, .int .i64 0, .slice none 0 0] rfl (by kernel_rfl) (by kernel_rfl) (by kernel_rfl) (witness_logTears os enc)) ?_
  intro W base args ds gs before hval0 hW _ _ _ hL _ _
  have hval : ∀ (j : Nat) t v, Tryz.f8.params[j]? = some t → args[j]? = some v → Value.okWide Tryz.prog W .any base t v := hval0
  have hW' := hW
  obtain ⟨p, q, hA0, hV0, rfl, _, _⟩ := hW
  have hA : DataW.TrodAll enc Tryz.prog W 0 (fun _ => true) true Tryz.f8.params.toList args.toList ds p := hA0
  rw [Tryz.params8] at hA hval
  obtain ⟨v0, v1, v2, d0, d1, d2, p0, p1, p2, rfl, rfl, rfl, h0, h1, h2⟩ := trodAll_three hA
  obtain ⟨rfl, rfl⟩ := trodVars_none hV0
  obtain ⟨n0, rfl, rfl, rfl, ws0⟩ := open_int Tryz.underlying3 (hval 0 3 v0 rfl rfl) h0
  have wn0 : -9223372036854775808 ≤ n0 ∧ n0 ≤ 9223372036854775807 := by
    have h2 : (decide (IntKind.i64.min ≤ n0) && decide (n0 ≤ IntKind.i64.max)) = true := ws0
    rw [Bool.and_eq_true, decide_eq_true_eq, decide_eq_true_eq] at h2
    have e1 : IntKind.i64.min = -9223372036854775808 := by decide
    have e2 : IntKind.i64.max = 9223372036854775807 := by decide
    rw [e1, e2] at h2
    exact h2
  obtain ⟨n1, rfl, rfl, rfl, ws1⟩ := open_int Tryz.underlying3 (hval 1 3 v1 rfl rfl) h1
  have wn1 : -9223372036854775808 ≤ n1 ∧ n1 ≤ 9223372036854775807 := by
    have h2 : (decide (IntKind.i64.min ≤ n1) && decide (n1 ≤ IntKind.i64.max)) = true := ws1
    rw [Bool.and_eq_true, decide_eq_true_eq, decide_eq_true_eq] at h2
    have e1 : IntKind.i64.min = -9223372036854775808 := by decide
    have e2 : IntKind.i64.max = 9223372036854775807 := by decide
    rw [e1, e2] at h2
    exact h2
  have h2k := h2
  obtain ⟨a2, len2, cap2, rfl⟩ := okWide_slice Tryz.underlying34 (hval 2 34 v2 rfl rfl)
  have hlt2 : ∀ x ∈ p2, x.block < W.heap.size := fun x hx => hW'.lt x (by simp [hx])
  obtain ⟨es2, hc2, hcap2⟩ := ints_arg h2
  clear hA0 hV0 hval0
  have hE : Env W := env_of_laid hL
  refine (logTears_any n0 n1 (.slice a2 len2 cap2) es2 W hE wn0 wn1 hc2 hcap2).mono ?_
  rintro e W' ⟨rfl, bel⟩
  have e1 : ((OpenSpec.ofChange Rows.logTearsSpec).at F).fn H ([.lit (.int .i64 n0), .lit (.int .i64 n1), d2] ++ []) = { results := [.lit (.bool true)], args := [.lit (.int .i64 n0), .lit (.int .i64 n1), d2] } := rfl
  refine ⟨_, rfl, _, _, _, [], [] ++ ([] ++ p2), [], hW', ?_, ?_, ?_, bel.frame _, fun h => by cases h⟩
  · rw [e1]; exact trodAll_mk1 (shut_bool Tryz.underlying4 _)
  · rw [e1]; exact trodAll_mk3 (shut_int Tryz.underlying3 ws0) (shut_int Tryz.underlying3 ws1) (Below.trod laidOut (by kernel_rfl) (of_decide_eq_true (by kernel_rfl)) h2k bel hlt2)
  · rw [e1]; rfl

theorem logTears_said : Rows.LogTearsSaid :=
  OpenClaim.holds_of_cond 8 Tryz.f8 rfl rfl rfl rfl rfl rfl rfl ⟨rfl, rfl, rfl, rfl, rfl⟩ rfl rfl rfl rfl rfl (by kernel_rfl) Tryz.func8 (by kernel_rfl)
    (of_decide_eq_true (by kernel_rfl)) (by unfold Func.isWrapper; rw [if_neg (of_decide_eq_false (by kernel_rfl))]; exact ⟨rfl, rfl⟩)
    (fun os started H enc _ F0 => by rw [OpenClaim.pre_eq_preRow]; exact logTears_lifted os started H enc F0)

theorem logTears_card : Rows.LogTearsCardSaid :=
  Claim7.holds_tied_plain_at .later [] [.data, .data, .data, .data, .sentinel, .sentinel, .pinned] true (true, "a18f35b31243a0d84ef4706eae1f13d479979986f4339d71a54d714de783b2ce") true
    logTears_said (fun _ h => by cases h) (by kernel_rfl) (fun _ h => by cases h) logTears_row_tie rfl ⟨rfl, rfl⟩ (by kernel_rfl) rfl
    (fun f fn hf hfn => by
      obtain rfl : f = 8 := Option.some.inj ((show Tryz.prog.funcNamed Rows.logTearsRow.func = some 8 by kernel_rfl).symm.trans hf) |>.symm
      obtain rfl : fn = Tryz.f8 := (Option.some.inj (Tryz.func8.symm.trans hfn)).symm
      exact ⟨by kernel_rfl, fun j t ht => by
        rw [Tryz.params8] at ht
        have h9 : t = 3 ∨ t = 34 := by
          rcases j with _ | _ | _ | j
          · exact (.inl (by simpa using ht.symm))
          · exact (.inl (by simpa using ht.symm))
          · exact (.inr (by simpa using ht.symm))
          · simp at ht
        rcases h9 with rfl | rfl
        · exact (show Tryz.prog.wantsStandIn 3 = false by kernel_rfl)
        · exact (show Tryz.prog.wantsStandIn 34 = false by kernel_rfl)⟩)
    (by kernel_rfl)
end Go.Proofs.YtbknlffebcbjfaaGreatDoor
