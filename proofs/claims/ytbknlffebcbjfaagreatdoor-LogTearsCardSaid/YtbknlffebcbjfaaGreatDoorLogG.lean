/-
  Plain Lean, no program in sight: the numbers of a log's parts go on; a disk that holds a log is told by it; what Open reads.
-/
import Derived.Test.YtbknlffebcbjfaaGreatDoorLogF
namespace Go.Proofs.YtbknlffebcbjfaaGreatDoor.Lg

/-- Parts were made: their numbers follow one another. -/
def Grown (next : Int) (nums : List Int) (next2 : Int) (nums2 : List Int) : Prop := ∃ k : Nat, next2 = next + (k : Int) ∧ nums2 = nums ++ (List.range k).map fun (i : Nat) => next + (i : Int)
theorem Grown.refl (n : Int) (l : List Int) : Grown n l n l := ⟨0, by simp, by simp⟩
theorem Grown.one (n : Int) (l : List Int) : Grown n l (n + 1) (l ++ [n]) := ⟨1, by simp, by simp⟩
theorem Grown.trans {n n1 n2 : Int} {l l1 l2 : List Int} (h1 : Grown n l n1 l1) (h2 : Grown n1 l1 n2 l2) : Grown n l n2 l2 := by
  obtain ⟨k, rfl, rfl⟩ := h1
  obtain ⟨j, rfl, rfl⟩ := h2
  refine ⟨k + j, by omega, ?_⟩
  rw [List.range_add, List.map_append, List.append_assoc, List.map_map]
  congr 2
  apply List.map_congr_left
  intro i _
  simp only [Function.comp]
  omega
theorem Grown.len {n n1 n2 : Int} {l l1 l2 : List Int} (h1 : Grown n l n1 l1) (h2 : Grown n l n2 l2) (h : l1.length = l2.length) : n1 = n2 ∧ l1 = l2 := by
  obtain ⟨k, rfl, rfl⟩ := h1
  obtain ⟨j, rfl, rfl⟩ := h2
  simp only [List.length_append, List.length_map, List.length_range] at h
  have : k = j := by omega
  subst this
  exact ⟨rfl, rfl⟩
theorem newF_grown (room : Int) (s : S) (fs : List Dk.File) : Grown s.next s.nums (newF room s fs).1.2.next (newF room s fs).1.2.nums := by
  unfold newF
  split
  · exact Grown.refl _ _
  split
  · exact Grown.refl _ _
  split
  · exact Grown.refl _ _
  · have : S.nums ⟨s.next + 1, s.parts ++ [(s.next, (s.es.length : Int) + 1)], s.es⟩ = s.nums ++ [s.next] := by simp [S.nums]
    rw [this]
    exact Grown.one _ _
theorem roomF_grown (room : Int) (s : S) (fs : List Dk.File) : Grown s.next s.nums (roomF room s fs).1.2.next (roomF room s fs).1.2.nums := by
  unfold roomF
  split
  · exact newF_grown room s fs
  split
  · exact Grown.refl _ _
  · exact newF_grown room s fs
theorem appF_grown (room : Int) : ∀ (k : Nat) (e : List Evt.Entry) (s : S) (fs : List Dk.File), Grown s.next s.nums (appF room k e s fs).1.2.next (appF room k e s fs).1.2.nums
  | 0, _, _, _ => Grown.refl _ _
  | k + 1, e, s, fs => by
    rw [appF]
    have h1 := roomF_grown room s fs
    split
    · exact Grown.refl _ _
    split
    · exact h1
    split
    · exact h1
    · exact h1.trans (appF_grown room k _ ((roomF room s fs).1.2.plus _) _)
theorem appendF_grown {room : Int} {e : List Evt.Entry} {next next2 : Int} {nums nums2 : List Int} {L L2 : List Evt.Entry} {fs f2 : List Dk.File} {c : Nat} (h : appendF room e (stateOf next nums L) fs = ((f2, stateOf next2 nums2 L2), c)) : Grown next nums next2 nums2 := by
  have e1 : (stateOf next nums L).nums = nums := parts_nums nums
  have e2 : (stateOf next2 nums2 L2).nums = nums2 := parts_nums nums2
  have : Grown (stateOf next nums L).next (stateOf next nums L).nums (appendF room e (stateOf next nums L) fs).1.2.next (appendF room e (stateOf next nums L) fs).1.2.nums := by
    unfold appendF
    split
    · exact appF_grown room _ _ _ _
    · exact Grown.refl _ _
  rw [h, e1, e2] at this
  exact this
theorem Holds.man_some {fs : List Dk.File} {next : Int} {nums : List Int} {L : List Evt.Entry} (h : Holds fs next nums L) (hn : nums ≠ []) : Dk.look fs Man.file = some (manF next nums) := by
  rcases h.man with ⟨e, _⟩ | e
  · exact absurd e hn
  · exact e
/-- A disk that holds a log is told by what it holds. -/
theorem Holds.same {fs fs' : List Dk.File} {next : Int} {nums : List Int} {L : List Evt.Entry} (h : Holds fs next nums L) (h' : Holds fs' next nums L) (hn : nums ≠ []) : fs = fs' := by
  refine Dk.sorted_ext _ _ h.sorted h'.sorted (fun k => ?_)
  by_cases hf : k = Man.file
  · rw [hf, h.man_some hn, h'.man_some hn]
  · by_cases hk : ∀ n ∈ nums, k ≠ Seg.nameOf n
    · rw [h.oth k hf hk, h'.oth k hf hk]
    · have : ∃ n ∈ nums, k = Seg.nameOf n := Classical.byContradiction fun hx => hk (fun n hm e => hx ⟨n, hm, e⟩)
      obtain ⟨n, hm, rfl⟩ := this
      obtain ⟨i, hi⟩ := List.mem_iff_getElem?.1 hm
      rw [h.seg i n hi, h'.seg i n hi]
theorem Holds.len_eq {fs : List Dk.File} {next : Int} {nums : List Int} {L : List Evt.Entry} (h : Holds fs next nums L) (hn : nums.length ≤ (L.length + 7) / 8) : nums.length = (L.length + 7) / 8 := by
  have := h.high; omega
/-- What Open reads: each segment goes on. -/
def Reads (room : Int) : List Int → S → List Dk.File → S → List Dk.File → Prop
  | [], s, fs, s', fs' => s' = s ∧ fs' = fs
  | n :: l, s, fs, s', fs' => ∃ s1 f1, readF room n s fs = ((f1, s1), true, 0) ∧ Reads room l s1 f1 s' fs'
theorem reads_from {fs : List Dk.File} {next room : Int} {nums : List Int} {L : List Evt.Entry} (h : Holds fs next nums L) : ∀ (k i : Nat), i + k = nums.length →
    Reads room (nums.drop i) ⟨next, partsOf (nums.take i), L.take (8 * i)⟩ fs (stateOf next nums L) fs
  | 0, i, hk => by
    have e : i = nums.length := by omega
    subst e
    rw [List.drop_length, List.take_length, h.take_all]
    exact ⟨rfl, rfl⟩
  | k + 1, i, hk => by
    have hlt : i < nums.length := by omega
    rw [List.drop_eq_getElem_cons hlt]
    exact ⟨_, _, read_part (room := room) h (List.getElem?_eq_getElem hlt), reads_from h k (i + 1) (by omega)⟩
theorem Holds.reads {fs : List Dk.File} {next : Int} {nums : List Int} {L : List Evt.Entry} (room : Int) (h : Holds fs next nums L) : Reads room nums ⟨next, [], []⟩ fs (stateOf next nums L) fs := by
  have := reads_from (room := room) h nums.length 0 (by omega)
  simpa [partsOf] using this
theorem Holds.gone {fs : List Dk.File} {next : Int} {nums : List Int} {L : List Evt.Entry} (h : Holds fs next nums L) : ∀ x ∈ fs, goneN nums x.name = false := by
  intro x hx
  obtain ⟨q1, q2⟩ := h.names x hx
  unfold goneN
  rw [beq_eq_false_iff_ne.2 q1, Bool.false_or]
  rcases q2 with q2 | q2
  · rw [q2]; rfl
  · rw [show nums.contains (Seg.numberOf x.name) = true by simpa using q2]; simp
end Go.Proofs.YtbknlffebcbjfaaGreatDoor.Lg
