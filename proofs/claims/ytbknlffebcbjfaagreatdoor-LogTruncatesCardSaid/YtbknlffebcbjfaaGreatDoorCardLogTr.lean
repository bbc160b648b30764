/-
  PROVED: the law LogTruncates: for all numbers it answers true: a log that was cut at a place goes on from there, and is what it would be if what was cut had never been.
  Conditions: none but the row's own (the listed variables read as the program's text lays them: tied).
-/
import Derived.Test.YtbknlffebcbjfaaGreatDoorFrame
import Derived.Test.YtbknlffebcbjfaaGreatDoorLawLTr
import Derived.Test.YtbknlffebcbjfaaGreatDoorCards
import Derived.Test.YtbknlffebcbjfaaGreatDoorTie
import Derived.SevenTiedAt
namespace Go.Proofs.YtbknlffebcbjfaaGreatDoor
open Go.Shelf Go.ChangeShapes Go.WideShapes Go.ChangeAt Go.RowKit Go.Lib
open Go.ChangeMaps (open_string shut_string)

theorem witness_logTruncates (os : Os) {H : Type} (enc : TypeId × Value → H) :
    (OpenSpec.ofChange Rows.logTruncatesSpec).preRow enc Tryz.prog Tryz.f6 Rows.logTruncatesRow.domain false Rows.logTruncatesRow.laid ((laidWorld os).forCall (fun _ _ => 0) ⟨#[], #[.int .i64 0, .int .i64 0, .int .i64 0], []⟩).memory #[.int .i64 0, .int .i64 0, .int .i64 0] := by
  have hw : (DataW.whole enc Tryz.prog ((laidWorld os).forCall (fun _ _ => 0) ⟨#[], #[.int .i64 0, .int .i64 0, .int .i64 0], []⟩).memory Tryz.f6.params.toList (OpenSpec.ofChange Rows.logTruncatesSpec).vars false #[Value.int .i64 0, Value.int .i64 0, Value.int .i64 0].toList 8).map (fun x => (x.1, x.2.1)) =
      some ([.lit (.int .i64 0), .lit (.int .i64 0), .lit (.int .i64 0)], []) := by kernel_rfl
  obtain ⟨⟨x1, x2, x3⟩, hx, hx1⟩ := Option.map_eq_some_iff.1 hw
  simp only [Prod.mk.injEq] at hx1
  obtain ⟨rfl, rfl⟩ := hx1
  exact OpenSpec.preRow_of_cond 8 hx (by kernel_rfl) (fun k hk => by cases hk) (by kernel_rfl) (laid_met os _)

set_option maxRecDepth 100000 in
set_option maxHeartbeats 2000000 in
theorem logTruncates_lifted (os : Os) (started : os.Started) (H : Type) (enc : TypeId × Value → H) (F : Stop.Interp) :
    ReturnsInHanded {} Tryz.checked os 6 .any ((OpenSpec.ofChange Rows.logTruncatesSpec).preRow enc Tryz.prog Tryz.f6 Rows.logTruncatesRow.domain false Rows.logTruncatesRow.laid) (((OpenSpec.ofChange Rows.logTruncatesSpec).at F).post enc Tryz.prog Tryz.f6 false true false false) := by
  refine returnsInHanded_of_row (C := Tryz.checked) (s := OpenSpec.ofChange Rows.logTruncatesSpec) own started (by kernel_rfl) Tryz.func6
    (witness_row_atRef (enc := enc) (C := Tryz.checked) false (laidWorld os) #[.int .i64 0, .int .i64 0, .int .i64 0] rfl (by kernel_rfl) (by kernel_rfl) (by kernel_rfl) (witness_logTruncates os enc)) ?_
  intro W base args ds gs before hval0 hW _ _ _ hL _ _
  have hval : ∀ (j : Nat) t v, Tryz.f6.params[j]? = some t → args[j]? = some v → Value.okWide Tryz.prog W .any base t v := hval0
  have hW' := hW
  obtain ⟨p, q, hA0, hV0, rfl, _, _⟩ := hW
  have hA : DataW.TrodAll enc Tryz.prog W 0 (fun _ => true) true Tryz.f6.params.toList args.toList ds p := hA0
  rw [Tryz.params6] at hA hval
  obtain ⟨v0, v1, v2, d0, d1, d2, p0, p1, p2, rfl, rfl, rfl, h0, h1, h2⟩ := trodAll_three hA
  obtain ⟨rfl, rfl⟩ := trodVars_none hV0
  obtain ⟨n0, rfl, rfl, rfl, ws0⟩ := open_int Tryz.underlying3 (hval 0 3 v0 rfl rfl) h0
  have wn0 : -9223372036854775808 ≤ n0 ∧ n0 ≤ 9223372036854775807 := by
    have h2 : (decide (IntKind.i64.min ≤ n0) && decide (n0 ≤ IntKind.i64.max)) = true := ws0
    rw [Bool.and_eq_true, decide_eq_true_eq, decide_eq_true_eq] at h2
    have e1 : IntKind.i64.min = -9223372036854775808 := by decide
    have e2 : IntKind.i64.max = 9223372036854775807 := by decide
    rw [e1, e2] at h2
    exact h2
  obtain ⟨n1, rfl, rfl, rfl, ws1⟩ := open_int Tryz.underlying3 (hval 1 3 v1 rfl rfl) h1
  have wn1 : -9223372036854775808 ≤ n1 ∧ n1 ≤ 9223372036854775807 := by
    have h2 : (decide (IntKind.i64.min ≤ n1) && decide (n1 ≤ IntKind.i64.max)) = true := ws1
    rw [Bool.and_eq_true, decide_eq_true_eq, decide_eq_true_eq] at h2
    have e1 : IntKind.i64.min = -9223372036854775808 := by decide
    have e2 : IntKind.i64.max = 9223372036854775807 := by decide
    rw [e1, e2] at h2
    exact h2
  obtain ⟨n2, rfl, rfl, rfl, ws2⟩ := open_int Tryz.underlying3 (hval 2 3 v2 rfl rfl) h2
  have wn2 : -9223372036854775808 ≤ n2 ∧ n2 ≤ 9223372036854775807 := by
    have h2 : (decide (IntKind.i64.min ≤ n2) && decide (n2 ≤ IntKind.i64.max)) = true := ws2
    rw [Bool.and_eq_true, decide_eq_true_eq, decide_eq_true_eq] at h2
    have e1 : IntKind.i64.min = -9223372036854775808 := by decide
    have e2 : IntKind.i64.max = 9223372036854775807 := by decide
    rw [e1, e2] at h2
    exact h2
  clear hA0 hV0 hval0
  have hE : Env W := env_of_laid hL
  refine (logTruncates_any n0 n1 n2 W hE wn0 wn1 wn2).mono ?_
  rintro e W' ⟨rfl, bel⟩
  have e1 : ((OpenSpec.ofChange Rows.logTruncatesSpec).at F).fn H ([.lit (.int .i64 n0), .lit (.int .i64 n1), .lit (.int .i64 n2)] ++ []) = { results := [.lit (.bool true)], args := [.lit (.int .i64 n0), .lit (.int .i64 n1), .lit (.int .i64 n2)] } := rfl
  refine ⟨_, rfl, _, _, _, [], [], [], hW', ?_, ?_, ?_, bel.frame _, fun h => by cases h⟩
  · rw [e1]; exact trodAll_mk1 (shut_bool Tryz.underlying4 _)
  · rw [e1]; exact trodAll_mk3 (shut_int Tryz.underlying3 ws0) (shut_int Tryz.underlying3 ws1) (shut_int Tryz.underlying3 ws2)
  · rw [e1]; rfl

theorem logTruncates_said : Rows.LogTruncatesSaid :=
  OpenClaim.holds_of_cond 6 Tryz.f6 rfl rfl rfl rfl rfl rfl rfl ⟨rfl, rfl, rfl, rfl, rfl⟩ rfl rfl rfl rfl rfl (by kernel_rfl) Tryz.func6 (by kernel_rfl)
    (of_decide_eq_true (by kernel_rfl)) (by unfold Func.isWrapper; rw [if_neg (of_decide_eq_false (by kernel_rfl))]; exact ⟨rfl, rfl⟩)
    (fun os started H enc _ F0 => by rw [OpenClaim.pre_eq_preRow]; exact logTruncates_lifted os started H enc F0)

theorem logTruncates_card : Rows.LogTruncatesCardSaid :=
  Claim7.holds_tied_plain_at .later [] [.data, .data, .data, .data, .sentinel, .sentinel, .pinned] true (true, "a18f35b31243a0d84ef4706eae1f13d479979986f4339d71a54d714de783b2ce") true
    logTruncates_said (fun _ h => by cases h) (by kernel_rfl) (fun _ h => by cases h) logTruncates_row_tie rfl ⟨rfl, rfl⟩ (by kernel_rfl) rfl
    (fun f fn hf hfn => by
      obtain rfl : f = 6 := Option.some.inj ((show Tryz.prog.funcNamed Rows.logTruncatesRow.func = some 6 by kernel_rfl).symm.trans hf) |>.symm
      obtain rfl : fn = Tryz.f6 := (Option.some.inj (Tryz.func6.symm.trans hfn)).symm
      exact ⟨by kernel_rfl, fun j t ht => by
        rw [Tryz.params6] at ht
        have h9 : t = 3 := by
          rcases j with _ | _ | _ | j
          · exact (by simpa using ht.symm)
          · exact (by simpa using ht.symm)
          · exact (by simpa using ht.symm)
          · simp at ht
        subst h9
        · exact (show Tryz.prog.wantsStandIn 3 = false by kernel_rfl)⟩)
    (by kernel_rfl)
end Go.Proofs.YtbknlffebcbjfaaGreatDoor
