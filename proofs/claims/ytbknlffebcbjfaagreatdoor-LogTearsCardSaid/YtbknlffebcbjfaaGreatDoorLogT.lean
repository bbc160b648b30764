/-
  Plain Lean, no program in sight: a log on a disk to which bytes were added that were not synced, behind a crash.
-/
import Derived.Test.YtbknlffebcbjfaaGreatDoorLogG
import Derived.Test.YtbknlffebcbjfaaGreatDoorAt
namespace Go.Proofs.YtbknlffebcbjfaaGreatDoor

theorem Dk.crash_sorted : ∀ (ks : List Int) (fs : List Dk.File), Dk.Sorted fs → Dk.Sorted (Dk.crash ks fs)
  | _, [], _ => List.Pairwise.nil
  | ks, x :: fs, h => by
    have h' := List.pairwise_cons.1 h
    refine List.pairwise_cons.2 ⟨fun y hy => ?_, Dk.crash_sorted ks.tail fs h'.2⟩
    obtain ⟨i, hi⟩ := List.mem_iff_getElem?.1 hy
    rw [Dk.crash_at] at hi
    cases e : fs[i]? with
    | none => rw [e] at hi; cases hi
    | some z =>
      rw [e] at hi
      simp only [Option.map_some, Option.some.injEq] at hi
      subst hi
      exact h'.1 z (List.mem_of_getElem? e)
theorem Dk.crash_look : ∀ (ks : List Int) (fs : List Dk.File) (k : List UInt8), ∃ n, Dk.look (Dk.crash ks fs) k = (Dk.look fs k).map (Dk.crashed n)
  | _, [], _ => ⟨0, rfl⟩
  | ks, x :: fs, k => by
    by_cases e : x.name = k
    · exact ⟨ks.headD 0, by rw [Dk.crash, Dk.look, Dk.look, if_pos e, if_pos (show (Dk.crashed (ks.headD 0) x).name = k from e)]; rfl⟩
    · obtain ⟨n, hn⟩ := Dk.crash_look ks.tail fs k
      exact ⟨n, by rw [Dk.crash, Dk.look, Dk.look, if_neg e, if_neg (show ¬ (Dk.crashed (ks.headD 0) x).name = k from e)]; exact hn⟩
namespace Lg
theorem cat_front (A M : ByteArray) : (A ++ M).extract 0 A.size = A := by
  apply ByteArray.ext
  apply Array.toList_inj.1
  rw [Lib.extract_data, ByteArray.data_append, Array.toList_append, Lib.size_eq A, List.drop_zero, Nat.sub_zero, List.take_left]
theorem cat_back (A M : ByteArray) : (A ++ M).extract A.size (A ++ M).size = M := by
  apply ByteArray.ext
  apply Array.toList_inj.1
  rw [Lib.extract_data, ByteArray.data_append, Array.toList_append, ByteArray.size_append, Lib.size_eq A, Lib.size_eq M, List.drop_left, Nat.add_sub_cancel_left, List.take_length]
/-- A file's bytes that another disk has more of are added. -/
def tearF (room : Int) (f2 : List Dk.File) (k : List UInt8) (fs : List Dk.File) : List Dk.File :=
  if (Dk.read k fs).2 = 0 ∧ (Dk.read k fs).1.size ≤ (Dk.read k f2).1.size ∧ (Dk.read k f2).1.extract 0 (Dk.read k fs).1.size = (Dk.read k fs).1 ∧ k ≠ Man.file then (Dk.append room k ((Dk.read k f2).1.extract (Dk.read k fs).1.size (Dk.read k f2).1.size) fs).1 else fs
def tearsF (room : Int) (f2 : List Dk.File) : List (List UInt8) → List Dk.File → List Dk.File
  | [], fs => fs
  | k :: ks, fs => tearsF room f2 ks (tearF room f2 k fs)
theorem tearsF_append (room : Int) (f2 : List Dk.File) : ∀ (a b : List (List UInt8)) (fs : List Dk.File), tearsF room f2 (a ++ b) fs = tearsF room f2 b (tearsF room f2 a fs)
  | [], _, _ => rfl
  | k :: a, b, fs => by rw [List.cons_append, tearsF, tearsF, tearsF_append room f2 a b]
theorem tearF_none {room : Int} {f2 fs : List Dk.File} {k : List UInt8} (h : Dk.look fs k = none) : tearF room f2 k fs = fs := by
  unfold tearF
  rw [if_neg]
  intro hc
  simp [Dk.read, h] at hc
theorem tearF_man {room : Int} {f2 fs : List Dk.File} : tearF room f2 Man.file fs = fs := by
  unfold tearF
  rw [if_neg (fun hc => hc.2.2.2 rfl)]
theorem put_same {fs : List Dk.File} {x : Dk.File} (hs : Dk.Sorted fs) (h : Dk.look fs x.name = some x) : Dk.put x fs = fs := by
  refine Dk.sorted_ext _ _ (Dk.sorted_put _ _ hs) hs (fun j => ?_)
  by_cases e : j = x.name
  · rw [e, Dk.look_put_same, h]
  · rw [Dk.look_put_other x e]
theorem tearF_more {room : Int} {f2 fs : List Dk.File} {k : List UInt8} {A B : ByteArray} {sy s2 : Nat} (hk : Txt.name k = true) (hm : k ≠ Man.file) (h1 : Dk.look fs k = some ⟨k, A, sy⟩) (h2 : Dk.look f2 k = some ⟨k, A ++ B, s2⟩) (hr : (Dk.total fs : Int) + B.size ≤ room) :
    tearF room f2 k fs = Dk.put ⟨k, A ++ B, sy⟩ fs := by
  have e1 : Dk.read k fs = (A, 0) := by rw [Dk.read, h1]
  have e2 : Dk.read k f2 = (A ++ B, 0) := by rw [Dk.read, h2]
  unfold tearF
  rw [e1, e2]
  simp only
  rw [if_pos ⟨trivial, by rw [ByteArray.size_append]; omega, cat_front A B, hm⟩, cat_back]
  unfold Dk.append
  rw [if_neg (by rw [hk]; simp), if_neg (by rw [h1]; simp), if_neg (by omega), h1]
  rfl
theorem empty_cat (A : ByteArray) : A ++ (⟨#[]⟩ : ByteArray) = A := by
  apply ByteArray.ext
  simp
theorem tearF_same {room : Int} {f2 fs : List Dk.File} {k : List UInt8} {A : ByteArray} {sy s2 : Nat} (hs : Dk.Sorted fs) (hk : Txt.name k = true) (hm : k ≠ Man.file) (h1 : Dk.look fs k = some ⟨k, A, sy⟩) (h2 : Dk.look f2 k = some ⟨k, A, s2⟩) (hr : (Dk.total fs : Int) ≤ room) :
    tearF room f2 k fs = fs := by
  have := tearF_more (B := ⟨#[]⟩) (f2 := f2) (s2 := s2) hk hm h1 (by rw [empty_cat]; exact h2) (by have e : (((⟨#[]⟩ : ByteArray).size : Nat) : Int) = 0 := rfl; rw [e, Int.add_zero]; exact hr)
  rw [this, empty_cat]
  exact put_same hs h1
theorem in_names {f2 : List Dk.File} {k : List UInt8} {x : Dk.File} (h : Dk.look f2 k = some x) : k ∈ f2.map (·.name) := by
  obtain ⟨h1, h2⟩ := Dk.look_name h
  exact List.mem_map.2 ⟨x, h2, h1⟩
theorem names_apart {f2 : List Dk.File} (hs : Dk.Sorted f2) {A B : List (List UInt8)} {k : List UInt8} (h : f2.map (·.name) = A ++ k :: B) : (∀ j ∈ A, j ≠ k) ∧ ∀ j ∈ B, j ≠ k := by
  have hp : (f2.map (·.name)).Pairwise (· < ·) := List.pairwise_map.2 hs
  rw [h, List.pairwise_append, List.pairwise_cons] at hp
  exact ⟨fun j hj e => by have := hp.2.2 j hj k (by simp); rw [e] at this; exact Std.lt_irrefl this, fun j hj e => by have := hp.2.1.1 j hj; rw [e] at this; exact Std.lt_irrefl this⟩
theorem tearsF_keep {room : Int} {f2 fs : List Dk.File} : ∀ (ks : List (List UInt8)), (∀ k ∈ ks, tearF room f2 k fs = fs) → tearsF room f2 ks fs = fs
  | [], _ => rfl
  | k :: ks, h => by rw [tearsF, h k (by simp)]; exact tearsF_keep ks (fun j hj => h j (by simp [hj]))
theorem chunk_more {i : Nat} {L M : List Evt.Entry} (h1 : 8 * i ≤ L.length) (h2 : L.length ≤ 8 * (i + 1)) : chunk i (L ++ M) = chunk i L ++ M.take (8 * (i + 1) - L.length) := by
  unfold chunk
  rw [List.drop_append_of_le_length h1, List.take_append, List.length_drop]
  congr 2
  omega
theorem chunk_same {j : Nat} {L M : List Evt.Entry} (h : 8 * (j + 1) ≤ L.length) : chunk j (L ++ M) = chunk j L := by
  unfold chunk
  rw [List.drop_append_of_le_length (by omega), List.take_append_of_le_length (by rw [List.length_drop]; omega)]
/-- Bytes of a log that goes on are added to its last part. -/
theorem Holds.tear {fs f2 : List Dk.File} {next next2 room : Int} {nums more : List Int} {L M : List Evt.Entry} {n : Int} (h : Holds fs next nums L) (g : Holds f2 next2 (nums ++ more) (L ++ M)) (hn : nums[nums.length - 1]? = some n) (hr : (Dk.total fs : Int) + (Seg.bytesB (L ++ M)).length ≤ room) :
    tearsF room f2 (f2.map (·.name)) fs = Dk.put ⟨Seg.nameOf n, (segF (nums.length - 1) n (L ++ M)).bytes, (segF (nums.length - 1) n L).bytes.size⟩ fs := by
  obtain ⟨r1, r2, r3, r4⟩ := Man.right_mem g.right
  have hlt : nums.length - 1 < nums.length := (List.getElem?_eq_some_iff.1 hn).1
  have hlow := h.low
  have hhigh := h.high
  obtain ⟨i, hi⟩ : ∃ i, nums.length - 1 = i := ⟨_, rfl⟩
  rw [hi] at hn hlt ⊢
  have hnl : nums.length = i + 1 := by omega
  have hn2 : (nums ++ more)[i]? = some n := by rw [List.getElem?_append_left hlt]; exact hn
  have hnm := r4 n (List.mem_of_getElem? hn2)
  have hname := Seg.name_named n (by omega) (by omega)
  have l1 := h.seg i n hn
  have l2 := g.seg i n hn2
  have hcm := chunk_more (i := i) (L := L) (M := M) (by omega) (by omega)
  have hB : (segF i n (L ++ M)).bytes = (segF i n L).bytes ++ ⟨(Seg.bytesB (M.take (8 * (i + 1) - L.length))).toArray⟩ := by
    simp only [segF, hcm, Seg.whole_append]
  have hbs : (⟨(Seg.bytesB (M.take (8 * (i + 1) - L.length))).toArray⟩ : ByteArray).size ≤ (Seg.bytesB (L ++ M)).length := by
    rw [Lib.size_eq, Seg.bytesB_append, List.length_append]
    have := bytesB_mono (M.take (8 * (i + 1) - L.length)) (M.drop (8 * (i + 1) - L.length))
    rw [List.take_append_drop] at this
    simp only
    omega
  -- another file of either disk
  have other : ∀ (q : List Dk.File), Dk.Sorted q → (Dk.total q : Int) ≤ room → (∀ k, k ≠ Seg.nameOf n → Dk.look q k = Dk.look fs k) → ∀ k ∈ f2.map (·.name), k ≠ Seg.nameOf n → tearF room f2 k q = q := by
    intro q hq htq hlq k hk hkn
    by_cases hf : k = Man.file
    · subst hf; exact tearF_man
    · obtain ⟨x, hx, rfl⟩ := List.mem_map.1 hk
      have hlx := look_mem g.sorted hx
      have : ∃ n' ∈ nums ++ more, x.name = Seg.nameOf n' := Classical.byContradiction fun hh => by
        rw [g.oth x.name hf (fun n' hm e => hh ⟨n', hm, e⟩)] at hlx; cases hlx
      obtain ⟨n', hm', e'⟩ := this
      rw [e'] at hkn ⊢
      obtain ⟨j, hj⟩ := List.mem_iff_getElem?.1 hm'
      have hnm' := r4 n' hm'
      by_cases hjn : j < nums.length
      · have hj1 : nums[j]? = some n' := by rw [List.getElem?_append_left hjn] at hj; exact hj
        have hji : j ≠ i := fun e => by subst e; rw [hn] at hj1; cases hj1; exact hkn rfl
        have a1 := h.seg j n' hj1
        have a2 := g.seg j n' hj
        have hcs := chunk_same (j := j) (L := L) (M := M) (by omega)
        have e3 : (segF j n' (L ++ M)) = segF j n' L := by simp only [segF, hcs]
        rw [e3] at a2
        exact tearF_same hq (Seg.name_named n' (by omega) (by omega)) (Man.file_ne_seg n') ((hlq _ hkn).trans a1) a2 htq
      · refine tearF_none ((hlq _ hkn).trans (h.oth _ (Man.file_ne_seg n') (fun m hmm e => ?_)))
        have e2 := name_of g.right hm' (List.mem_append_left _ hmm) e
        subst e2
        obtain ⟨j', hj'⟩ := List.mem_iff_getElem?.1 hmm
        have hlt' := (List.getElem?_eq_some_iff.1 hj').1
        have := right_inj g.right hj (show (nums ++ more)[j']? = some n' by rw [List.getElem?_append_left hlt']; exact hj')
        omega
  obtain ⟨A, B, hAB⟩ := List.append_of_mem (in_names l2)
  obtain ⟨na, nb⟩ := names_apart g.sorted hAB
  have hsub : ∀ k, k ∈ A ∨ k ∈ B → k ∈ f2.map (·.name) := fun k hk => by rw [hAB]; rcases hk with hk | hk <;> simp [hk]
  have hmid : tearF room f2 (Seg.nameOf n) fs = Dk.put ⟨Seg.nameOf n, (segF i n (L ++ M)).bytes, (segF i n L).bytes.size⟩ fs := by
    rw [hB]
    refine tearF_more (s2 := (segF i n (L ++ M)).synced) hname (Man.file_ne_seg n) l1 ?_ (by omega)
    rw [l2, ← hB]; rfl
  have htp := Dk.put_total ⟨Seg.nameOf n, (segF i n (L ++ M)).bytes, (segF i n L).bytes.size⟩ fs h.sorted
  simp only [l1] at htp
  have hsz : (segF i n (L ++ M)).bytes.size ≤ (segF i n L).bytes.size + (Seg.bytesB (L ++ M)).length := by rw [hB, ByteArray.size_append]; omega
  rw [hAB, tearsF_append, tearsF_keep A (fun k hk => other fs h.sorted (by omega) (fun _ _ => rfl) k (hsub k (.inl hk)) (na k hk)), tearsF, hmid]
  refine tearsF_keep B (fun k hk => other _ (Dk.sorted_put _ _ h.sorted) (by omega) (fun k hk => ?_) k (hsub k (.inr hk)) (nb k hk))
  exact Dk.look_put_other ⟨Seg.nameOf n, (segF i n (L ++ M)).bytes, (segF i n L).bytes.size⟩ hk fs
end Lg
end Go.Proofs.YtbknlffebcbjfaaGreatDoor
