/-
  The walks of the document's answer to layer 1 (bucketlineref1): Runes, Name.
-/
import Derived.Test.YtiaddfghojdgkaaGreatDoorRSiz
namespace Go.Proofs.YtiaddfghojdgkaaGreatDoor
open Go.RowKit Go.Shelf

theorem int_info : (Tryz.prog.info? 3).map (fun i => (i.zero, i.size, i.bytes)) = some (some (.int .i64 0), 1, 8) := by kernel_rfl
def nums (ts : List (Int × List UInt8)) : List Int := ts.map (·.1)
theorem nums_cons (t : Int × List UInt8) (ts : List (Int × List UInt8)) : nums (t :: ts) = t.1 :: nums ts := rfl
theorem nums_len (ts : List (Int × List UInt8)) : (nums ts).length = ts.length := by simp [nums]
theorem intCells_snoc (l : List Int) (r : Int) : intCells (l ++ [r]) = intCells l ++ [.int .i64 r] := by simp [intCells]

theorem extract_drop (s : ByteArray) (pos : Nat) : (s.extract pos s.size).data.toList = s.data.toList.drop pos := Lib.extract_to_end s pos
theorem extract_size (s : ByteArray) (pos : Nat) (_h : pos ≤ s.size) : (s.extract pos s.size).size = s.size - pos := by simp [ByteArray.size_extract]
theorem toks_at (s : ByteArray) (pos : Nat) (h : pos < s.size) : ∃ (r : Int) (n : Nat), Txt.tok (s.data.toList.drop pos) = (r, n) ∧ Txt.toks (s.data.toList.drop pos) = (r, (s.data.toList.drop pos).take n) :: Txt.toks (s.data.toList.drop (pos + n)) ∧
    1 ≤ n ∧ pos + n ≤ s.size ∧ Txt.Shape (r, (s.data.toList.drop pos).take n) := by
  obtain ⟨b, t, e⟩ := drop_cons s pos h
  have hw := Txt.tok_width b t
  have hs := Txt.tok_shape b t
  have hl : (b :: t).length = s.size - pos := by rw [← e, List.length_drop, Array.length_toList]; rfl
  have hc := Txt.toks_cons b t
  rw [← e] at hw hs hc hl
  generalize Txt.tok (s.data.toList.drop pos) = d at *
  obtain ⟨r, n⟩ := d
  simp only at hw
  refine ⟨r, n, rfl, ?_, hw.1, by omega, hs⟩
  rw [hc, List.drop_drop]

set_option maxHeartbeats 1000000 in
set_option maxRecDepth 100000 in
theorem refRunes_any (s : ByteArray) (w : World) (hs : s.size ≤ 1000000000000) :
    Calls Tryz.prog 238 #[.string s] w fun e w' => ∃ v, e = .returned v ∧ w'.ownsRow w.heap.size 3 1 v (Txt.runes s.data.toList).length (intCells (Txt.runes s.data.toList)) ∧ Below w.heap.size w w' := by
  obtain ⟨i0, hi, hz0, hz1, hz2⟩ := info_parts int_info
  have HN := Lib.hid (show Txt.runes s.data.toList = nums (Txt.toks (s.data.toList.drop 0)) from rfl)
  go_enter Tryz.func238, Tryz.ntmps238
  go_wp2
  go_loopw [3, 4] (fun v i wr => ∃ (pos : Nat) (acc : List Int), i = .int .i64 pos ∧ wr.ownsRow w.heap.size 3 1 v acc.length (intCells acc) ∧ Below w.heap.size w wr ∧ acc ++ nums (Txt.toks (s.data.toList.drop pos)) = Txt.runes s.data.toList ∧ acc.length ≤ pos ∧ pos ≤ s.size) (fun _ i _ => s.size - (intOf i).toNat)
  case atStart =>
    exact ⟨0, [], rfl, World.ownsRow_nil _ _ _ _, Below.refl _ _, HN.out.symm, by simp, by omega⟩
  case round =>
    obtain ⟨pos, acc, rfl, hown, hbw, hacc, hal, hps⟩ := hrel
    have HA := Lib.hid hacc; clear hacc HN
    by_cases hp : pos < s.size
    · obtain ⟨r, n, ht, htk, hn1, hn2, hsh⟩ := toks_at s pos hp
      have HT := Lib.hid htk; have HK := Lib.hid ht
      clear htk ht hsh
      go_wp2_with fail
      refine (size_any (s.extract pos s.size) _ (by rw [extract_size s pos hps]; omega) (by rw [extract_size s pos hps]; omega)).mono ?_
      rintro e W1 ⟨rfl, rfl⟩
      rw [extract_drop, HK.out]
      have hbs := hbw.size
      go_wp2_with (at_builtin; refine wpList_append_own _ rfl _ _ 34 rfl w.heap.size 3 i0 (.int .i64 0) 1 8 Tryz.underlying34 hi hz0 hz1 hz2 rfl (by decide) _ _ _ rfl (hown.alloc _) ⟨wr.heap.size, 0, none⟩ 1 1 [.int .i64 r] rfl rfl ?c1 ?c2 ?c3 ?c4 ?c5 ?_)
      case c1 => exact cell_one_new _ _ _
      case c2 => intro u hu; simp at hu; subst hu; rfl
      case c3 => unfold maxLen; omega
      case c4 => omega
      case c5 => simp; omega
      intro v' w2 hown' hgrow _
      have q1 : Below w.heap.size w w2 := (hbw.alloc hbs _).grown hgrow (by simp; omega) (fun k hk => (hown.lt k hk).1)
      have QF := Lib.hid (show w2.ownsRow w.heap.size 3 1 v' (acc ++ [r]).length (intCells (acc ++ [r])) ∧ (acc ++ [r]) ++ nums (Txt.toks (s.data.toList.drop (pos + n))) = Txt.runes s.data.toList by
        refine ⟨?_, ?_⟩
        · rw [intCells_snoc]; simpa using hown'
        · rw [← HA.out, HT.out, nums_cons]; simp)
      clear hown' hgrow
      go_wp2
      go_roundw
      case rel => exact ⟨pos + n, acc ++ [r], by go_num, QF.out.1, q1, QF.out.2, by simp; omega, hn2⟩
      case measure => simp [intOf]; omega
    · have hq := HA.out
      rw [toks_end s pos hp] at hq
      have HQ := Lib.hid hq; clear hq
      go_wp2
      go_ret
      refine ⟨_, rfl, ?_, hbw⟩
      rw [← HQ.out]; simpa [nums] using hown
end Go.Proofs.YtiaddfghojdgkaaGreatDoor
namespace Go.Proofs.YtiaddfghojdgkaaGreatDoor
open Go.RowKit Go.Shelf

theorem runes_len (l : List UInt8) : (Txt.runes l).length = (Txt.toks l).length := by simp [Txt.runes]
theorem runes_all (l : List UInt8) (p : Int → Bool) : ((Txt.toks l).all fun t => p t.1) = (Txt.runes l).all p := by simp [Txt.runes, List.all_map]; rfl
theorem toks_le (l : List UInt8) : (Txt.toks l).length ≤ l.length := by
  have h : ∀ (n : Nat) (l : List UInt8), l.length ≤ n → (Txt.toks l).length ≤ l.length := by
    intro n
    induction n with
    | zero => intro l hl; obtain rfl : l = [] := List.eq_nil_of_length_eq_zero (by omega); simp [Txt.toks_nil]
    | succ n ih =>
      intro l hl
      cases l with
      | nil => simp [Txt.toks_nil]
      | cons b t =>
        have hw := Txt.tok_width b t
        rw [Txt.toks_cons]
        have := ih ((b :: t).drop (Txt.tok (b :: t)).2) (by simp only [List.length_drop, List.length_cons] at *; omega)
        simp only [List.length_drop, List.length_cons] at *; omega
  exact h _ l (Nat.le_refl _)
/-- A cell of a row of numbers. -/
theorem int_at {w : World} {v : Value} {rs : List Int} (h : Cells w v 1 rs.length (intCells rs)) (i : Nat) (hi : i < rs.length) :
    ∃ b o c, v = .slice (some ⟨b, o, none⟩) rs.length c ∧ w.cell? ⟨b, o + i, none⟩ = some (.int .i64 rs[i]) := by
  rcases h.2 with ⟨h0, _⟩ | ⟨b, o, c, h1, h2⟩
  · omega
  · exact ⟨b, o, c, h1, h2 i _ (by simp [intCells, List.getElem?_eq_getElem hi])⟩
theorem named_no {r : Int} (h : ¬ ((97 ≤ r ∧ r ≤ 122) ∨ (65 ≤ r ∧ r ≤ 90) ∨ (48 ≤ r ∧ r ≤ 57) ∨ r = 45 ∨ r = 95 ∨ r = 46 ∨ 160 ≤ r)) : Txt.named r = false := by
  rw [Bool.eq_false_iff]; simp only [Txt.named, ne_eq, Bool.or_eq_true, decide_eq_true_eq, beq_iff_eq]; omega
theorem named_yes {r : Int} (h : (97 ≤ r ∧ r ≤ 122) ∨ (65 ≤ r ∧ r ≤ 90) ∨ (48 ≤ r ∧ r ≤ 57) ∨ r = 45 ∨ r = 95 ∨ r = 46 ∨ 160 ≤ r) : Txt.named r = true := by
  simp only [Txt.named, Bool.or_eq_true, decide_eq_true_eq, beq_iff_eq]; omega
theorem named_cases {r : Int} (h : Txt.named r = true) : (97 ≤ r ∧ r ≤ 122) ∨ (¬ 97 ≤ r ∧ 65 ≤ r ∧ r ≤ 90) ∨ (¬ 97 ≤ r ∧ ¬ 65 ≤ r ∧ 48 ≤ r ∧ r ≤ 57) ∨ r = 45 ∨ r = 95 ∨ r = 46 ∨
    (97 ≤ r ∧ ¬ r ≤ 122 ∧ 65 ≤ r ∧ ¬ r ≤ 90 ∧ 48 ≤ r ∧ ¬ r ≤ 57 ∧ ¬ r < 160 ∧ (r != 45) = true ∧ (r != 95) = true ∧ (r != 46) = true) := by
  simp only [Txt.named, Bool.or_eq_true, decide_eq_true_eq, beq_iff_eq] at h
  simp only [bne_iff_ne, ne_eq]
  omega
theorem named_gaps {r : Int} (h : Txt.named r = false) : (r != 45) = true ∧ (r != 95) = true ∧ (r != 46) = true ∧ r < 160 ∧
    ((¬ 97 ≤ r ∧ ¬ 65 ≤ r ∧ ¬ 48 ≤ r) ∨ (¬ 97 ≤ r ∧ ¬ 65 ≤ r ∧ 48 ≤ r ∧ ¬ r ≤ 57) ∨ (¬ 97 ≤ r ∧ 65 ≤ r ∧ ¬ r ≤ 90 ∧ 48 ≤ r ∧ ¬ r ≤ 57) ∨ (97 ≤ r ∧ ¬ r ≤ 122 ∧ 65 ≤ r ∧ ¬ r ≤ 90 ∧ 48 ≤ r ∧ ¬ r ≤ 57)) := by
  rw [Bool.eq_false_iff] at h
  simp only [Txt.named, ne_eq, Bool.or_eq_true, decide_eq_true_eq, beq_iff_eq] at h
  simp only [bne_iff_ne, ne_eq]
  omega
theorem plain_no {r : Int} (h : r < 33 ∨ r = 34 ∨ r = 127) : Txt.plainTok r = false := by
  simp [Txt.plainTok]; omega
theorem plain_yes {r : Int} (h : ¬ (r < 33 ∨ r = 34 ∨ r = 127)) : Txt.plainTok r = true := by
  simp [Txt.plainTok]; omega
theorem all_drop_step (p : Int → Bool) (rs : List Int) (i : Nat) (hi : i < rs.length) : (rs.drop i).all p = (p rs[i] && (rs.drop (i + 1)).all p) := by
  rw [List.drop_eq_getElem_cons hi, List.all_cons]

set_option maxHeartbeats 2000000 in
set_option maxRecDepth 100000 in
theorem refName_any (s : ByteArray) (w : World) (hs : s.size ≤ 1000000000000) :
    Calls Tryz.prog 149 #[.string s] w fun e w' => e = .returned (.bool (Txt.name s.data.toList)) ∧ Below w.heap.size w w' := by
  have hl := toks_le s.data.toList
  rw [← runes_len, ← Lib.size_eq] at hl
  have hN : Txt.name s.data.toList = (decide (1 ≤ (Txt.runes s.data.toList).length) && decide ((Txt.runes s.data.toList).length ≤ 32) && (Txt.runes s.data.toList).all Txt.named) := by
    rw [Txt.name, runes_all, ← runes_len]
  have HR := Lib.hid (refRunes_any s w hs)
  generalize Txt.runes s.data.toList = rs at *
  have HN := Lib.hid hN; clear hN
  go_enter Tryz.func149, Tryz.ntmps149
  go_wp2_with fail
  refine HR.out.mono ?_
  rintro e w1 ⟨v, rfl, hown, hb⟩
  have hcl := cells_of_owns hown
  clear hown HR
  by_cases h1 : 1 ≤ rs.length
  · obtain ⟨b, o, c, rfl, _⟩ := int_at hcl 0 (by omega)
    by_cases h32 : rs.length ≤ 32
    · have HF := Lib.hid (show Txt.name s.data.toList = (rs.drop 0).all Txt.named by rw [HN.out]; simp [h1, h32])
      clear HN
      go_wp2
      go_loop [4] (fun lv => ∃ i : Nat, lv = .int .i64 i ∧ i ≤ rs.length ∧ Txt.name s.data.toList = (rs.drop i).all Txt.named) (fun lv => rs.length - (intOf lv).toNat)
      case atStart => exact ⟨0, rfl, by omega, HF.out⟩
      case round =>
        obtain ⟨i, rfl, hi, hh⟩ := hrel
        have HA := Lib.hid hh; clear hh HF
        by_cases hp : i < rs.length
        · obtain ⟨b', o', c', hv, hcell⟩ := int_at hcl i hp
          cases hv
          obtain ⟨r, hr⟩ : ∃ r, rs[i] = r := ⟨_, rfl⟩
          rw [hr] at hcell
          have HS := Lib.hid (show Txt.name s.data.toList = (Txt.named r && (rs.drop (i + 1)).all Txt.named) by rw [HA.out, all_drop_step _ _ _ hp, hr])
          clear hr HA
          by_cases hnm : Txt.named r = true
          · have QF := Lib.hid (show Txt.name s.data.toList = (rs.drop (i + 1)).all Txt.named by rw [HS.out, hnm, Bool.true_and])
            have h7 := named_cases hnm
            clear hnm HS
            rcases h7 with ⟨h1, h2⟩ | ⟨h0, h1, h2⟩ | ⟨h0, h00, h1, h2⟩ | rfl | rfl | rfl | ⟨h1, h2, h3, h4, h5, h6, h7, h8, h9, h10⟩
            all_goals
              go_wp2
              exact ⟨⟨i + 1, by go_num, by omega, QF.out⟩, by simp [intOf]; omega⟩
          · have hpf : Txt.named r = false := by simpa using hnm
            have QF := Lib.hid (show Txt.name s.data.toList = false by rw [HS.out, hpf]; simp)
            have h4 := named_gaps hpf
            clear hnm hpf HS
            obtain ⟨h7, h8, h9, h10, h4⟩ := h4
            rcases h4 with ⟨h1, h2, h3⟩ | ⟨h1, h2, h3, h4⟩ | ⟨h1, h2, h3, h4, h5⟩ | ⟨h1, h2, h3, h4, h5, h6⟩
            all_goals
              go_wp2
              go_ret
              exact ⟨ret_bool QF.out.symm, hb⟩
        · go_wp2
          go_ret
          refine ⟨ret_bool ?_, hb⟩
          rw [HA.out, List.drop_eq_nil_of_le (by omega)]; rfl
    · have HF := Lib.hid (show Txt.name s.data.toList = false by rw [HN.out]; simp [h32])
      clear HN
      go_wp2
      go_ret
      exact ⟨ret_bool HF.out.symm, hb⟩
  · have h0 : rs = [] := List.eq_nil_of_length_eq_zero (by omega)
    subst h0
    have hv : (∃ a c, v = .slice a 0 c) ∨ ∃ b o c, v = .slice (some ⟨b, o, none⟩) 0 c := by
      rcases hcl.2 with ⟨_, h⟩ | ⟨b, o, c, h, _⟩
      · exact .inl h
      · exact .inr ⟨b, o, c, h⟩
    have HF := Lib.hid (show Txt.name s.data.toList = false by rw [HN.out]; rfl)
    clear HN hcl
    rcases hv with ⟨a, c, rfl⟩ | ⟨b, o, c, rfl⟩
    all_goals
      go_wp2
      go_ret
      exact ⟨ret_bool HF.out.symm, hb⟩

end Go.Proofs.YtiaddfghojdgkaaGreatDoor
