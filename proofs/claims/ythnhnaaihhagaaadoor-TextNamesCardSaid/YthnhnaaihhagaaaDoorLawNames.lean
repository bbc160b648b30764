/-
  The walk of the law TextNames.
-/
import Derived.Test.YthnhnaaihhagaaaDoorLawParts
import Derived.Deep.DeepCutAuto
namespace Go.Proofs.YthnhnaaihhagaaaDoor
open Go.RowKit Go.Shelf

def letterB (k : Nat) : Bool := decide (k < 128) && Txt.named k
theorem owns_byte (w : World) (c : UInt8) : (w.alloc (.cells #[.int .u8 (c.toNat : Int)] 5)).ownsRow w.heap.size 5 1 (.slice (some ⟨w.heap.size, 0, none⟩) 1 1) 1 (Lib.byteCells [c]) :=
  ⟨rfl, .inr ⟨w.heap.size, 1, #[.int .u8 (c.toNat : Int)], rfl, Nat.le_refl _, Array.getElem?_push_size, Nat.le_refl _, by unfold maxLen; omega, rfl, rfl⟩⟩
theorem conv_byte (w : World) (c : UInt8) (T : ByteArray) (h : T.data.toList = [c]) :
    (convert 39 9 (.slice (some ⟨w.heap.size, 0, none⟩) 1 1)).run Tryd.prog (w.alloc (.cells #[.int .u8 (c.toNat : Int)] 5)) = .ok (.string T) (w.alloc (.cells #[.int .u8 (c.toNat : Int)] 5)) := by
  rw [run_string_owned (owns_byte w c)]
  rw [show (⟨[c].toArray⟩ : ByteArray) = T from eq_of_list h.symm]

set_option maxHeartbeats 4000000 in
set_option maxRecDepth 100000 in
theorem textNames_any (s : ByteArray) (c : UInt8) (w : World) (hE : Env w) :
    Calls Tryd.prog 9 #[.string s, .int .u8 (c.toNat : Int)] w fun e w' => e = .returned (.bool true) ∧ Below w.heap.size w w' := by
  go_enter Tryd.func9, Tryd.ntmps9
  go_wp2_with fail
  refine (shown_any w hE).mono ?_
  rintro e w1 ⟨rfl, b1⟩
  have hE1 := hE.next b1
  by_cases h6 : s.size ≤ 200
  · go_upto_region 4 with fail
    go_cut [6] (fun l wx => l = .bool (letterB c.toNat) ∧ wx = w1)
    case first =>
      have hc := c.toNat_lt
      go_wp2
      all_goals
        first
        | (have h9 : (c.toNat : Int) = 95 := by assumption
           rw [← h9])
        | (have h9 : (c.toNat : Int) = 45 := by assumption
           rw [← h9])
        | (have h9 : (c.toNat : Int) = 46 := by assumption
           rw [← h9])
        | skip
        go_meet
        refine ⟨congrArg Value.bool ?_, rfl⟩
        first | rfl | (refine beq_of ?_; simp only [letterB, Txt.named, Bool.and_eq_true, Bool.or_eq_true, decide_eq_true_eq, beq_iff_eq, true_iff]; omega)
    case rest =>
      obtain ⟨rfl, rfl⟩ := hcut
      obtain ⟨T, hT⟩ : ∃ T : ByteArray, T.data.toList = [c] := ⟨⟨[c].toArray⟩, rfl⟩
      obtain ⟨ST, hST⟩ : ∃ ST : ByteArray, ST.data.toList = s.data.toList ++ [c] := ⟨⟨(s.data.toList ++ [c]).toArray⟩, rfl⟩
      obtain ⟨TS, hTS⟩ : ∃ TS : ByteArray, TS.data.toList = c :: s.data.toList := ⟨⟨(c :: s.data.toList).toArray⟩, rfl⟩
      have hconv := conv_byte wc c T hT
      have ht1 : T.size = 1 := by rw [Lib.size_eq, hT]; rfl
      have hs1 : ST.size ≤ 201 := by rw [Lib.size_eq, hST, List.length_append, ← Lib.size_eq]; simp; omega
      have hs2 : TS.size ≤ 201 := by rw [Lib.size_eq, hTS, List.length_cons, ← Lib.size_eq]; omega
      have hadd1 : ∀ w, (Op.stringOp .add s T).run Tryd.prog w = .ok (.string ST) w := fun w => add_lists w s T ST (by omega) (by rw [hT, hST])
      have hadd2 : ∀ w, (Op.stringOp .add T s).run Tryd.prog w = .ok (.string TS) w := fun w => add_lists w T s TS (by omega) (by rw [hT, hTS]; rfl)
      have H1 := Lib.hid (fun w hE => runes_any s w hE (by omega))
      have H2 := Lib.hid (fun w hE => name_any T w hE (by omega))
      have H3 := Lib.hid (fun w hE => name_any s w hE (by omega))
      have H4 := Lib.hid (fun w hE => name_any ST w hE (by omega))
      have H5 := Lib.hid (fun w hE => name_any TS w hE (by omega))
      rw [hT, name_one] at H2
      rw [hST] at H4
      rw [hTS] at H5
      have hm := runes_len s.data.toList
      have hn1 := fun h => name_short s.data.toList h
      have hn2 := fun h h2 => name_more s.data.toList c h h2
      rw [← hm] at hn1 hn2
      clear hT hST hTS hm ht1 hs1 hs2
      rw [show (decide (c.toNat < 128) && Txt.named c.toNat) = letterB c.toNat from rfl] at H2
      have HLB := Lib.hid (show c.toNat < 128 → Txt.named c.toNat = letterB c.toNat from fun h => by simp [letterB, h])
      have HN2 := Lib.hid (show Txt.name s.data.toList = true → c.toNat < 128 → Txt.name (s.data.toList ++ [c]) = (letterB c.toNat && decide ((Txt.runes s.data.toList).length < 32)) ∧ Txt.name (c :: s.data.toList) = (letterB c.toNat && decide ((Txt.runes s.data.toList).length < 32)) from fun h h2 => by
        rw [← HLB.out h2]; exact hn2 h h2)
      have HN1 := Lib.hid hn1
      clear hn1 hn2 HLB
      have hml : (Txt.runes s.data.toList).length ≤ 200 := by
        have := toks_le s.data.toList
        rw [← runes_len, ← Lib.size_eq] at this
        omega
      generalize letterB c.toNat = L at *
      generalize Txt.runes s.data.toList = rs at *
      generalize Txt.name s.data.toList = nm at *
      generalize Txt.name (s.data.toList ++ [c]) = nA at *
      generalize Txt.name (c :: s.data.toList) = nB at *
      have c0 : Below wc.heap.size wc (wc.alloc (.cells #[.int .u8 (c.toNat : Int)] 5)) := (Below.refl _ _).alloc (Nat.le_refl _) _
      have hE2 := hE1.next c0
      have bb2 := Below.up b1 (Nat.le_refl _) c0
      clear c0 b1
      go_wp2_with fail
      refine (H1.out _ hE2).mono ?_
      rintro e w3 ⟨x, rfl, hx, b3⟩
      obtain ⟨oa, ca, rfl, _⟩ := cells_slice (cells_of_owns hx)
      have hE3 := hE2.next b3
      have bb3 := Below.up bb2 (Nat.le_refl _) b3
      clear hx b3 bb2 H1 hE1 hE2
      go_wp2_with fail
      refine (H2.out _ hE3).mono ?_
      rintro e w4 ⟨rfl, b4⟩
      have hE4 := hE3.next b4
      have bb4 := Below.up bb3 (Nat.le_refl _) b4
      clear b4 bb3 hE3
      go_wp2_with fail
      refine (H3.out _ hE4).mono ?_
      rintro e w5 ⟨rfl, b5⟩
      have hE5 := hE4.next b5
      have bb5 := Below.up bb4 (Nat.le_refl _) b5
      clear b5 bb4 hE4
      cases nm with
      | false =>
        go_wp2_with fail
        refine (H3.out _ hE5).mono ?_
        rintro e w6 ⟨rfl, b6⟩
        have bb6 := Below.up bb5 (Nat.le_refl _) b6
        go_wp2
        go_ret
        exact ⟨rfl, bb6⟩
      | true =>
        have hm32 := HN1.out (by trivial)
        go_wp2_with fail
        refine (H3.out _ hE5).mono ?_
        rintro e w6 ⟨rfl, b6⟩
        have hE6 := hE5.next b6
        have bb6 := Below.up bb5 (Nat.le_refl _) b6
        clear b6 bb5 hE5
        by_cases hk : c.toNat < 128
        · obtain ⟨e1, e2⟩ := HN2.out (by trivial) hk
          by_cases h32 : rs.length < 32
          · rw [decide_eq_true h32, Bool.and_true] at e1 e2
            rw [e1] at H4
            rw [e2] at H5
            clear e1 e2 HN2 HN1
            go_wp2_with fail
            refine (H4.out _ hE6).mono ?_
            rintro e w7 ⟨rfl, b7⟩
            have hE7 := hE6.next b7
            have bb7 := Below.up bb6 (Nat.le_refl _) b7
            cases L
            all_goals
              go_wp2_with fail
              refine (H5.out _ hE7).mono ?_
              rintro e w8 ⟨rfl, b8⟩
              have bb8 := Below.up bb7 (Nat.le_refl _) b8
              go_wp2
              go_ret
              exact ⟨rfl, bb8⟩
          · rw [decide_eq_false h32, Bool.and_false] at e1 e2
            rw [e1] at H4
            rw [e2] at H5
            clear e1 e2 HN2 HN1
            go_wp2_with fail
            refine (H4.out _ hE6).mono ?_
            rintro e w7 ⟨rfl, b7⟩
            have hE7 := hE6.next b7
            have bb7 := Below.up bb6 (Nat.le_refl _) b7
            cases L
            all_goals
              go_wp2_with fail
              refine (H5.out _ hE7).mono ?_
              rintro e w8 ⟨rfl, b8⟩
              have bb8 := Below.up bb7 (Nat.le_refl _) b8
              go_wp2
              go_ret
              first
              | exact ⟨rfl, bb8⟩
              | (refine ⟨ret_bool ?_, bb8⟩
                 simp
                 omega)
        · go_wp2
          go_ret
          exact ⟨rfl, bb6⟩
  · have h7 : 200 < s.size := by omega
    clear h6
    go_wp2
    go_ret
    exact ⟨rfl, b1⟩
end Go.Proofs.YthnhnaaihhagaaaDoor
