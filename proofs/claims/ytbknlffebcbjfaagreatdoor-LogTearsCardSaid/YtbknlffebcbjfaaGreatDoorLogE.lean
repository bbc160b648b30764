/-
  Plain Lean, no program in sight: what the law LogTears says of a log that was torn.
-/
import Derived.Test.YtbknlffebcbjfaaGreatDoorLawLTr
namespace Go.Proofs.YtbknlffebcbjfaaGreatDoor.Lg

theorem segF_room {i : Nat} {n : Int} {L M : List Evt.Entry} (h1 : 8 * i ≤ L.length) (h2 : L.length ≤ 8 * (i + 1)) : segF i n (L ++ M) = segF i n (L ++ M.take (8 * (i + 1) - L.length)) := by
  have a := chunk_more (M := M) h1 h2
  have b := chunk_more (M := M.take (8 * (i + 1) - L.length)) h1 h2
  rw [List.take_take, Nat.min_self] at b
  simp only [segF, a, b]
theorem prefix_take {L M : List Evt.Entry} {t q : Nat} (h : q ≤ (L ++ M.take t).length) : (L ++ M.take t).take q = (L ++ M).take q := by
  have e : L ++ M.take t = (L ++ M).take (L.length + t) := by rw [List.take_length_add_append]
  rw [e] at h ⊢
  rw [List.length_take] at h
  rw [List.take_take, Nat.min_eq_left (by omega)]
/-- A log that goes on, torn: what is read behind a crash. -/
theorem torn_any {f1 f2 : List Dk.File} {n1 n2 : Int} {nums1 nums2 : List Int} {L M : List Evt.Entry} (h1 : Holds f1 n1 nums1 L) (h2 : Holds f2 n2 nums2 (L ++ M)) (hg : Grown n1 nums1 n2 nums2) (hne : nums1 ≠ []) (hl : nums1.length ≤ 30) (hb : (Seg.bytesB (L ++ M)).length ≤ 8000) (keep : List Int) :
    ∃ (n : Nat) (f3 : List Dk.File), L.length ≤ n ∧ n ≤ (L ++ M).length ∧ Holds f3 n1 nums1 ((L ++ M).take n) ∧ Man.load (Dk.crash keep (tearsF 50000 f2 (f2.map (·.name)) f1)) = ((n1, nums1), 0) ∧ Reads 50000 nums1 ⟨n1, [], []⟩ (Dk.crash keep (tearsF 50000 f2 (f2.map (·.name)) f1)) (stateOf n1 nums1 ((L ++ M).take n)) f3 := by
  obtain ⟨more, rfl⟩ : ∃ more, nums2 = nums1 ++ more := by obtain ⟨k, _, e⟩ := hg; exact ⟨_, e⟩
  have hpos := List.length_pos_iff.2 hne
  obtain ⟨n, hn⟩ : ∃ n, nums1[nums1.length - 1]? = some n := ⟨_, List.getElem?_eq_getElem (by omega)⟩
  have htot := h1.tot
  have hlow := h1.low
  have hhigh := h1.high
  have hml := h1.man_le
  have hbl : (Seg.bytesB L).length ≤ (Seg.bytesB (L ++ M)).length := bytesB_mono L M
  have ht := h1.tear h2 hn (room := 50000) (by omega)
  have e : 8 * (nums1.length - 1 + 1) = 8 * nums1.length := by omega
  have hs := segF_room (i := nums1.length - 1) (n := n) (L := L) (M := M) (by omega) (by omega)
  rw [e] at hs
  rw [ht, hs]
  have hfo : Evt.follows (L ++ M.take (8 * nums1.length - L.length)) 0 0 = true := by
    have hf := h2.fol
    rw [← List.take_append_drop (8 * nums1.length - L.length) M, ← List.append_assoc] at hf
    exact ((Seg.follows_append _ _ _ _).1 hf).1
  have hbm : (Seg.bytesB (L ++ M.take (8 * nums1.length - L.length))).length ≤ (Seg.bytesB (L ++ M)).length := by
    have := bytesB_mono (L ++ M.take (8 * nums1.length - L.length)) (M.drop (8 * nums1.length - L.length))
    rwa [List.append_assoc, List.take_append_drop] at this
  obtain ⟨q, f3, g1, g2, g3, g4, g5⟩ := h1.torn (keep := keep) (room := 50000) (m := M.take (8 * nums1.length - L.length)) hn (by rw [List.length_append, List.length_take]; omega) hfo (by omega)
  rw [prefix_take g2] at g3 g5
  refine ⟨q, f3, g1, ?_, g3, g4, g5⟩
  rw [List.length_append, List.length_take] at g2
  rw [List.length_append]; omega
theorem tears_facts {k j : Nat} (hk : k < 40) (hj : j < 20) : ∃ f1 n1 nums1 f2 n2 nums2,
    appendF 50000 ((rowL 0 1 (k + j)).take k) (stateOf 1 [] []) [] = ((f1, stateOf n1 nums1 ((rowL 0 1 (k + j)).take k)), 0) ∧ Holds f1 n1 nums1 ((rowL 0 1 (k + j)).take k) ∧
    appendF 50000 ((rowL 0 1 (k + j)).drop k) (stateOf n1 nums1 ((rowL 0 1 (k + j)).take k)) f1 = ((f2, stateOf n2 nums2 (rowL 0 1 (k + j))), 0) ∧ Holds f2 n2 nums2 (rowL 0 1 (k + j)) ∧
    ∀ keep, ∃ (n : Nat) (f3 : List Dk.File), k ≤ n ∧ n ≤ k + j ∧ Holds f3 n1 nums1 ((rowL 0 1 (k + j)).take n) ∧ Man.load (Dk.crash keep (tearsF 50000 f2 (f2.map (·.name)) f1)) = ((n1, nums1), 0) ∧
      Reads 50000 nums1 ⟨n1, [], []⟩ (Dk.crash keep (tearsF 50000 f2 (f2.map (·.name)) f1)) (stateOf n1 nums1 ((rowL 0 1 (k + j)).take n)) f3 ∧
      ∃ f4 n4 nums4, appendF 50000 ((rowL 0 1 (k + j)).drop n) (stateOf n1 nums1 ((rowL 0 1 (k + j)).take n)) f3 = ((f4, stateOf n4 nums4 (rowL 0 1 (k + j))), 0) := by
  have hlen := rowL_len 0 1 (k + j)
  have hby := (rowL_plains 0 1 (k + j)).bytes
  have hfo := row_on (L := []) (ep := 1) (n := k + j) rfl (fun e he => by cases he) (by omega) (by omega) (by simp; omega)
  rw [List.nil_append] at hfo
  have hfo : Evt.follows (rowL 0 1 (k + j)) 0 0 = true := hfo
  obtain ⟨A, hA⟩ : ∃ A, rowL 0 1 (k + j) = A := ⟨_, rfl⟩
  rw [hA] at hlen hby hfo ⊢
  have hsplit : A.take k ++ A.drop k = A := List.take_append_drop _ _
  have hlk : (A.take k).length = k := by rw [List.length_take]; omega
  have hbk : (Seg.bytesB (A.take k)).length ≤ (Seg.bytesB A).length := by
    have := bytesB_mono (A.take k) (A.drop k)
    rwa [hsplit] at this
  have hfk : Evt.follows (A.take k) 0 0 = true := by
    have h := hfo
    rw [← hsplit] at h
    exact ((Seg.follows_append _ _ _ _).1 h).1
  obtain ⟨f1, n1, nums1, q1, q2, q3, q4⟩ := held_nil.append (room := 50000) (A.take k) (by rw [List.nil_append]; exact hfk) (by rw [List.nil_append]; omega) (by omega) (by rw [List.nil_append]; omega)
  rw [List.nil_append] at q1 q2 q4
  simp only [List.length_nil] at q4
  obtain ⟨f2, n2, nums2, r1, r2, r3, r4⟩ := q2.append (room := 50000) (A.drop k) (by rw [hsplit]; exact hfo) (by rw [hsplit]; omega) (by rw [List.length_drop]; omega) (by rw [hsplit]; omega)
  rw [hsplit] at r1 r2 r4
  refine ⟨f1, n1, nums1, f2, n2, nums2, q1, q2, r1, r2, fun keep => ?_⟩
  have rest : ∀ (n : Nat) (f3 : List Dk.File), n ≤ k + j → Holds f3 n1 nums1 (A.take n) → ∃ f4 n4 nums4, appendF 50000 (A.drop n) (stateOf n1 nums1 (A.take n)) f3 = ((f4, stateOf n4 nums4 A), 0) := by
    intro n f3 hn h3
    have hs : A.take n ++ A.drop n = A := List.take_append_drop _ _
    obtain ⟨f4, n4, nums4, s1, _⟩ := h3.append (room := 50000) (A.drop n) (by rw [hs]; exact hfo) (by rw [hs]; omega) (by rw [List.length_drop]; omega) (by rw [hs]; omega)
    rw [hs] at s1
    exact ⟨f4, n4, nums4, s1⟩
  by_cases hk0 : k = 0
  · subst hk0
    have e : A.take 0 = [] := List.take_zero
    rw [e] at q1 q2
    have q1' : appendF 50000 [] (stateOf 1 [] []) [] = (([], stateOf 1 [] []), 0) := rfl
    rw [q1'] at q1
    simp only [Prod.mk.injEq] at q1
    obtain ⟨⟨e1, e2⟩, _⟩ := q1
    have en : n1 = 1 := (congrArg S.next e2).symm
    have em : nums1 = [] := by
      have := congrArg (fun s => s.parts.map (·.1)) e2
      simp only [show (stateOf 1 [] []).parts.map (·.1) = [] from parts_nums [], show (stateOf n1 nums1 []).parts.map (·.1) = nums1 from parts_nums nums1] at this
      exact this.symm
    subst en em
    subst e1
    have ht : tearsF 50000 f2 (f2.map (·.name)) [] = [] := tearsF_keep _ (fun k _ => tearF_none rfl)
    rw [ht]
    refine ⟨0, [], Nat.le_refl _, Nat.zero_le _, by rw [e]; exact held_nil, held_nil.man_load, by rw [e]; exact held_nil.reads 50000, rest 0 [] (Nat.zero_le _) (by rw [e]; exact held_nil)⟩
  · have hne : nums1 ≠ [] := fun e => by have := q2.lo e; rw [this] at hlk; simp at hlk; omega
    obtain ⟨n, f3, g1, g2, g3, g4, g5⟩ := torn_any q2 (by rw [hsplit]; exact r2) (appendF_grown r1) hne (by omega) (by rw [hsplit]; omega) keep
    rw [hsplit] at g2 g3 g5
    exact ⟨n, f3, by omega, by omega, g3, g4, g5, rest n f3 (by omega) g3⟩
end Go.Proofs.YtbknlffebcbjfaaGreatDoor.Lg
