/-
  Plain Lean, no program in sight: what a log's functions do on a disk that holds a log, whatever room it has: they do it, or say that there is none.
  Plain Lean, no program in sight: the numbers of a log's parts go on; a disk that holds a log is told by it; what Open reads.
  Plain Lean, no program in sight: a log's disk with the mark of epochs beside it: Raise.
-/
import Derived.Test.YtgddgipjpdjoaaaGreatDoorLogPl
import Derived.Test.YtgddgipjpdjoaaaGreatDoorManP
namespace Go.Proofs.YtgddgipjpdjoaaaGreatDoor.Lg

theorem append_or (room R : Int) (k : List UInt8) (s : ByteArray) (fs : List Dk.File) (h : room ≤ R) : Dk.append room k s fs = Dk.append R k s fs ∨ Dk.append room k s fs = (fs, 8) := by
  unfold Dk.append
  split
  · exact .inl rfl
  split
  · exact .inl rfl
  split
  · exact .inr rfl
  · rw [if_neg (by omega)]; exact .inl rfl
theorem delete_none {k : List UInt8} {fs : List Dk.File} (h : Dk.look fs k = none) : (Dk.delete k fs).1 = fs := by rw [Dk.delete_fst, Dk.del_none _ _ h]
theorem writeD_or (room R : Int) (k : List UInt8) (s : ByteArray) (fs : List Dk.File) (h : room ≤ R) (h0 : Dk.look fs k = none) : Seg.writeD room k s fs = Seg.writeD R k s fs ∨ Seg.writeD room k s fs = (fs, 8) := by
  unfold Seg.writeD
  rcases append_or room R k s fs h with e | e
  · rw [e]; exact .inl rfl
  · rw [e, if_neg (by simp)]; exact .inr (by rw [delete_none h0])
theorem create_or (room R n first : Int) (fs : List Dk.File) (h : room ≤ R) : Seg.create room n first fs = Seg.create R n first fs ∨ Seg.create room n first fs = (fs, 8) := by
  unfold Seg.create
  split
  · exact .inl rfl
  split
  · exact .inl rfl
  · rename_i hn
    have h0 : Dk.look fs (Seg.nameOf n) = none := by
      cases e : Dk.look fs (Seg.nameOf n) with
      | none => rfl
      | some x => exact absurd (by simp [Dk.read, e]) hn
    exact writeD_or room R _ _ fs h h0
theorem writeM_or (room R : Int) (k : List UInt8) (s : ByteArray) (fs : List Dk.File) (h : room ≤ R) (h0 : Dk.look fs Seg.temp = none) : Man.writeM room k s fs = Man.writeM R k s fs ∨ Man.writeM room k s fs = (fs, 8) := by
  unfold Man.writeM
  rw [delete_none h0]
  rcases append_or room R Seg.temp s fs h with e | e
  · rw [e]; exact .inl rfl
  · rw [e, if_neg (by simp)]; exact .inr (by rw [delete_none h0])
theorem save_or (room R next : Int) (segs : List Int) (fs : List Dk.File) (h : room ≤ R) (h0 : Dk.look fs Seg.temp = none) : Man.save room next segs fs = Man.save R next segs fs ∨ Man.save room next segs fs = (fs, 8) := by
  unfold Man.save
  split
  · exact writeM_or room R _ _ fs h h0
  · exact .inl rfl
theorem addD_or (room R n : Int) (l : List Evt.Entry) (fs : List Dk.File) (h : room ≤ R) : Seg.addD room n l fs = Seg.addD R n l fs ∨ Seg.addD room n l fs = (fs, 8) := by
  obtain ⟨⟨g, c⟩, hg⟩ : ∃ p, Seg.loadD n fs = p := ⟨_, rfl⟩
  by_cases hc : c = 0
  · subst hc
    rw [Seg.add_look hg, Seg.add_look hg]
    split
    · exact .inl rfl
    split
    · exact .inl rfl
    split
    · exact .inl rfl
    · rcases append_or room R (Seg.nameOf n) ⟨(Seg.bytesB l).toArray⟩ fs h with e | e
      · rw [e]; exact .inl rfl
      · rw [e, if_neg (by simp)]; exact .inr rfl
  · refine .inl ?_
    unfold Seg.addD
    rw [hg, if_neg hc, if_neg hc]
theorem cutD_or (room R n last : Int) (fs : List Dk.File) (h : room ≤ R) (h0 : Dk.look fs Seg.temp = none) : Seg.cutD room n last fs = Seg.cutD R n last fs ∨ Seg.cutD room n last fs = (fs, 8) := by
  unfold Seg.cutD
  split
  · unfold Seg.cutG
    split
    · exact .inl rfl
    · rw [delete_none h0]
      rcases writeD_or room R Seg.temp ⟨(Seg.bytesH (Seg.loadD n fs).1.first ++ Seg.bytesB ((Seg.loadD n fs).1.entries.take (Seg.keepN last (Seg.loadD n fs).1.entries))).toArray⟩ fs h h0 with e | e
      · rw [e]; exact .inl rfl
      · rw [e, if_neg (by simp)]; exact .inr rfl
  · exact .inl rfl
theorem bigR (room x : Int) (t : Nat) : ∃ R : Int, room ≤ R ∧ x ≤ R - (t : Int) := ⟨max room (x + (t : Int)), Int.le_max_left _ _, by have := Int.le_max_right room (x + (t : Int)); omega⟩
theorem Holds.temp {ex fs : List Dk.File} {next : Int} {nums : List Int} {L : List Evt.Entry} (h : Holds ex fs next nums L) : Dk.look fs Seg.temp = none := (h.oth _ (fun e => Man.file_ne_temp e.symm) (fun n _ e => Seg.temp_ne n e.symm)).trans h.exs.temp
theorem del_put {fs : List Dk.File} {y : Dk.File} (hs : Dk.Sorted fs) (h0 : Dk.look fs y.name = none) : Dk.del y.name (Dk.put y fs) = fs := by
  have s1 := Dk.sorted_put y fs hs
  refine Dk.sorted_ext _ _ (Dk.sorted_del _ _ s1) hs (fun j => ?_)
  by_cases e : j = y.name
  · rw [e, Dk.look_del_same _ _ s1, h0]
  · rw [Dk.look_del_other _ e, Dk.look_put_other y e]
/-- A part more, or no room for it. -/
theorem Holds.newF_any {ex fs : List Dk.File} {next : Int} {nums : List Int} {L : List Evt.Entry} (room : Int) (h : Holds ex fs next nums L) (hf : L.length = 8 * nums.length) (hn : next < 1073741824) :
    (∃ f2, newF room (stateOf next nums L) fs = ((f2, stateOf (next + 1) (nums ++ [next]) L), 8, 0) ∧ Holds ex f2 (next + 1) (nums ++ [next]) L) ∨ ∃ c, newF room (stateOf next nums L) fs = ((fs, stateOf next nums L), 0, c) ∧ (c = 8 ∨ c = 4) := by
  have hp : (stateOf next nums L).parts.length = nums.length := parts_len nums
  have hnn : (stateOf next nums L).nums = nums := parts_nums nums
  have e1 : (stateOf next nums L).next = next := rfl
  have e2 : (stateOf next nums L).es = L := rfl
  have e3 : (stateOf next nums L).parts = partsOf nums := rfl
  unfold newF
  rw [hp, hnn, e1, e2, e3]
  by_cases h30 : 30 ≤ nums.length
  · rw [if_pos h30]; exact .inr ⟨4, rfl, .inr rfl⟩
  rw [if_neg h30]
  obtain ⟨R, hR1, hR2⟩ := bigR room (200 + 200 + 15 * (nums.length + 1) + (Seg.bytesB L).length : Int) (Dk.total ex)
  obtain ⟨f1, f2, g1, g2, g3⟩ := h.grow (room := R) hf (by omega) hn hR2
  rcases create_or room R next ((L.length : Int) + 1) fs hR1 with ec | ec
  · rw [ec, g1]
    simp only [ne_eq, not_true_eq_false, if_false]
    obtain ⟨r1, r2, r3, r4⟩ := Man.right_mem h.right
    have hnew : Dk.look fs (Seg.nameOf next) = none := by
      rw [h.oth _ (Man.file_ne_seg next) (fun n hm e => ?_), h.exs.seg next r1 (by omega)]
      have g := r4 n hm
      have := Seg.name_inj (n := next) (m := n) r1 r2 g.1 (by omega) e
      omega
    have hlen := h.len
    have htot := h.tot
    have hml := h.man_le
    have hc := Seg.create_look (room := R) (n := next) (first := (L.length : Int) + 1) (fs := fs) r1 r2 (by omega) (by omega) h.sorted hnew (by omega) (by omega)
    rw [g1] at hc
    have hf1 := (Prod.mk.inj hc).1
    have htemp1 : Dk.look f1 Seg.temp = none := by
      rw [hf1, Dk.look_put_other _ (show Seg.temp ≠ Seg.nameOf next from fun e => Seg.temp_ne next e.symm)]; exact h.temp
    rcases save_or room R (next + 1) (nums ++ [next]) f1 hR1 htemp1 with es | es
    · rw [es, g2]
      simp only [not_true_eq_false, if_false]
      refine .inl ⟨f2, ?_, g3⟩
      have hps := parts_snoc nums next
      rw [show ((8 * nums.length + 1 : Nat) : Int) = (L.length : Int) + 1 by omega] at hps
      rw [hps]; rfl
    · rw [es]
      simp only [if_pos (show ¬ (8 : Nat) = 0 by decide)]
      refine .inr ⟨8, ?_, .inl rfl⟩
      rw [Dk.delete_fst, hf1]
      have := del_put (y := ⟨Seg.nameOf next, ⟨(Seg.bytesH ((L.length : Int) + 1)).toArray⟩, (⟨(Seg.bytesH ((L.length : Int) + 1)).toArray⟩ : ByteArray).size⟩) h.sorted hnew
      simp only at this
      rw [this]
  · rw [ec]
    simp only [if_pos (show (8 : Nat) ≠ 0 by decide)]
    exact .inr ⟨8, rfl, .inl rfl⟩
theorem Holds.room_any {ex fs : List Dk.File} {next : Int} {nums : List Int} {L : List Evt.Entry} (room : Int) (h : Holds ex fs next nums L) (hn : next < 1073741824) :
    (∃ f2 next2 nums2 k, roomF room (stateOf next nums L) fs = ((f2, stateOf next2 nums2 L), ((k : Nat) : Int), 0) ∧ Holds ex f2 next2 nums2 L ∧ 1 ≤ k ∧ L.length + k = 8 * nums2.length ∧ next2 ≤ next + 1 ∧ nums2 ≠ []) ∨ ∃ c, roomF room (stateOf next nums L) fs = ((fs, stateOf next nums L), 0, c) ∧ (c = 8 ∨ c = 4) := by
  have hlow := h.low
  have hhigh := h.high
  have hnew : L.length = 8 * nums.length → (∃ f2 next2 nums2 k, newF room (stateOf next nums L) fs = ((f2, stateOf next2 nums2 L), ((k : Nat) : Int), 0) ∧ Holds ex f2 next2 nums2 L ∧ 1 ≤ k ∧ L.length + k = 8 * nums2.length ∧ next2 ≤ next + 1 ∧ nums2 ≠ []) ∨ ∃ c, newF room (stateOf next nums L) fs = ((fs, stateOf next nums L), 0, c) ∧ (c = 8 ∨ c = 4) := by
    intro he
    rcases h.newF_any room he hn with ⟨f2, q1, q2⟩ | q
    · exact .inl ⟨f2, next + 1, nums ++ [next], 8, q1, q2, by omega, by simp; omega, Int.le_refl _, by simp⟩
    · exact .inr q
  have e3 : (stateOf next nums L).parts = partsOf nums := rfl
  have e2 : (stateOf next nums L).es = L := rfl
  unfold roomF
  rw [e3, parts_last]
  cases hl : nums[nums.length - 1]? with
  | none =>
    have hz : nums = [] := by
      rw [List.getElem?_eq_none_iff] at hl
      exact List.eq_nil_of_length_eq_zero (by omega)
    simp only [Option.map_none]
    exact hnew (by rw [h.lo hz, hz]; rfl)
  | some n =>
    have hlt := (List.getElem?_eq_some_iff.1 hl).1
    simp only [Option.map_some, e2]
    by_cases hlt8 : (L.length : Int) + 1 - ((8 * (nums.length - 1) + 1 : Nat) : Int) < 8
    · rw [if_pos hlt8]
      refine .inl ⟨fs, next, nums, 8 * nums.length - L.length, ?_, h, by omega, by omega, by omega, fun e => by rw [e] at hlt; simp at hlt⟩
      congr 2
      omega
    · rw [if_neg hlt8]
      exact hnew (by omega)
theorem Holds.add_any {ex fs : List Dk.File} {next : Int} {nums : List Int} {L m : List Evt.Entry} {n : Int} (room : Int) (h : Holds ex fs next nums L) (hn : nums[nums.length - 1]? = some n) (hm : (L ++ m).length ≤ 8 * nums.length) (hfo : Evt.follows (L ++ m) 0 0 = true) :
    (∃ f, Seg.addD room n m fs = (f, 0) ∧ Holds ex f next nums (L ++ m)) ∨ Seg.addD room n m fs = (fs, 8) := by
  obtain ⟨R, hR1, hR2⟩ := bigR room (200 + 15 * nums.length + (Seg.bytesB (L ++ m)).length : Int) (Dk.total ex)
  rcases addD_or room R n m fs hR1 with e | e
  · rw [e]; exact .inl (h.add hn hm hfo hR2)
  · exact .inr e
/-- Append on a disk that holds a log, whatever room it has: what was added is a beginning. -/
theorem app_any {ex : List Dk.File} (room : Int) : ∀ (k : Nat) (e : List Evt.Entry) (fs : List Dk.File) (next : Int) (nums : List Int) (L : List Evt.Entry), e.length ≤ k → Holds ex fs next nums L → Evt.follows (L ++ e) 0 0 = true → next + e.length < 1073741824 →
    ∃ f2 next2 nums2 j c, appF room k e (stateOf next nums L) fs = ((f2, stateOf next2 nums2 (L ++ e.take j)), c) ∧ Holds ex f2 next2 nums2 (L ++ e.take j) ∧ j ≤ e.length ∧ (c = 0 ∧ j = e.length ∨ c = 8 ∨ c = 4) ∧ next2 ≤ next + e.length
  | 0, e, fs, next, nums, L, hk, h, hf, hn => by
    have : e = [] := List.eq_nil_of_length_eq_zero (by omega)
    subst this
    refine ⟨fs, next, nums, 0, 0, ?_, ?_, by simp, .inl ⟨rfl, rfl⟩, by simp⟩
    · rw [List.take_nil, List.append_nil]; rfl
    · rw [List.take_nil, List.append_nil]; exact h
  | k + 1, e, fs, next, nums, L, hk, h, hf, hn => by
    rw [appF]
    by_cases he : e = []
    · subst he
      rw [if_pos rfl]
      refine ⟨fs, next, nums, 0, 0, ?_, ?_, by simp, .inl ⟨rfl, rfl⟩, by simp⟩
      · rw [List.take_nil, List.append_nil]
      · rw [List.take_nil, List.append_nil]; exact h
    have hlen : 0 < e.length := List.length_pos_iff.2 he
    rw [if_neg he]
    rcases h.room_any room (by omega) with ⟨f1, next1, nums1, m, hrf, h1, hm1, hm2, hm3, hm5⟩ | ⟨c, hrf, hc⟩
    · rw [hrf]
      simp only [ne_eq, not_true_eq_false, if_false, Int.toNat_natCast]
      have hlt1 : nums1.length - 1 < nums1.length := by
        have := List.length_pos_iff.2 hm5; omega
      have hgl : nums1[nums1.length - 1]? = some nums1[nums1.length - 1] := List.getElem?_eq_getElem hlt1
      rw [lastN_of hgl]
      obtain ⟨c, hc⟩ : ∃ c, min m e.length = c := ⟨_, rfl⟩
      rw [hc]
      have eL : L ++ e = (L ++ e.take c) ++ e.drop c := by rw [List.append_assoc, List.take_append_drop]
      have htl : (e.take c).length = c := by rw [List.length_take]; omega
      have hdl : (e.drop c).length = e.length - c := List.length_drop
      have hfo : Evt.follows (L ++ e.take c) 0 0 = true := by
        rw [eL] at hf
        exact ((Seg.follows_append _ _ _ _).1 hf).1
      have hlc : (L ++ e.take c).length = L.length + c := by rw [List.length_append, htl]
      rcases h1.add_any room hgl (by omega) hfo with ⟨f2, ha, h2⟩ | ha
      · rw [ha]
        simp only [not_true_eq_false, if_false]
        have hst : (stateOf next1 nums1 L).plus (e.take c) = stateOf next1 nums1 (L ++ e.take c) := rfl
        rw [hst]
        obtain ⟨f3, next3, nums3, j, c', q1, q2, q3, q4, q5⟩ := app_any room k (e.drop c) f2 next1 nums1 (L ++ e.take c) (by omega) h2 (by rw [← eL]; exact hf) (by omega)
        have et : L ++ e.take c ++ (e.drop c).take j = L ++ e.take (c + j) := by rw [List.append_assoc, List.take_add]
        rw [et] at q1 q2
        exact ⟨f3, next3, nums3, c + j, c', q1, q2, by omega, by omega, by omega⟩
      · rw [ha]
        simp only [if_pos (show (8 : Nat) ≠ 0 by decide)]
        refine ⟨f1, next1, nums1, 0, 8, ?_, ?_, by omega, .inr (.inl rfl), by omega⟩
        · rw [List.take_zero, List.append_nil]
        · rw [List.take_zero, List.append_nil]; exact h1
    · rw [hrf]
      have hc0 : c ≠ 0 := by omega
      simp only [if_pos hc0]
      refine ⟨fs, next, nums, 0, c, ?_, ?_, by omega, .inr hc, by omega⟩
      · rw [List.take_zero, List.append_nil]
      · rw [List.take_zero, List.append_nil]; exact h
theorem Holds.append_any {ex fs : List Dk.File} {next : Int} {nums : List Int} {L : List Evt.Entry} (room : Int) (h : Holds ex fs next nums L) (e : List Evt.Entry) (hf : Evt.follows (L ++ e) 0 0 = true) (hn : next + e.length < 1073741824) :
    ∃ f2 next2 nums2 j c, appendF room e (stateOf next nums L) fs = ((f2, stateOf next2 nums2 (L ++ e.take j)), c) ∧ Holds ex f2 next2 nums2 (L ++ e.take j) ∧ j ≤ e.length ∧ (c = 0 ∧ j = e.length ∨ c = 8 ∨ c = 4) ∧ next2 ≤ next + e.length := by
  have e2 : (stateOf next nums L).es = L := rfl
  unfold appendF
  rw [e2, if_pos ((follows_on h.fol).1 hf)]
  exact app_any room e.length e fs next nums L (Nat.le_refl _) h hf hn
/-! Truncate. -/
theorem cutF_any {ex fs : List Dk.File} {next : Int} {nums : List Int} {L : List Evt.Entry} (room : Int) (h : Holds ex fs next nums L) (t : Nat) (hlo : 8 * (nums.length - 1) ≤ t) :
    (∃ f, cutF room (t : Int) (stateOf next nums L) fs = ((f, stateOf next nums (L.take t)), 0) ∧ Holds ex f next nums (L.take t)) ∨ cutF room (t : Int) (stateOf next nums L) fs = ((fs, stateOf next nums L), 8) := by
  obtain ⟨R, hR1, hR2⟩ := bigR room (300 + 15 * nums.length + 2 * (Seg.bytesB L).length + 15 : Int) (Dk.total ex)
  have e3 : (stateOf next nums L).parts = partsOf nums := rfl
  cases hl : nums[nums.length - 1]? with
  | none =>
    obtain ⟨f, q1, q2⟩ := cutF_holds (room := R) h t hlo hR2
    refine .inl ⟨f, ?_, q2⟩
    unfold cutF at q1 ⊢
    rw [e3, parts_last, hl] at q1 ⊢
    exact q1
  | some n =>
    rcases cutD_or room R n (t : Int) fs hR1 h.temp with e | e
    · obtain ⟨f, q1, q2⟩ := cutF_holds (room := R) h t hlo hR2
      refine .inl ⟨f, ?_, q2⟩
      unfold cutF at q1 ⊢
      rw [e3, parts_last, hl] at q1 ⊢
      simp only [Option.map_some] at q1 ⊢
      rw [e]; exact q1
    · refine .inr ?_
      unfold cutF
      rw [e3, parts_last, hl]
      simp only [Option.map_some]
      rw [e]; rfl
theorem Holds.trunc_any {ex fs : List Dk.File} {next : Int} {nums : List Int} {L : List Evt.Entry} (room : Int) (h : Holds ex fs next nums L) (t : Nat) :
    ∃ f nums2 t' c, truncF room (t : Int) (stateOf next nums L) fs = ((f, stateOf next nums2 (L.take t')), c) ∧ Holds ex f next nums2 (L.take t') ∧ (c = 0 ∧ t' = t ∨ c = 8) := by
  have e3 : (stateOf next nums L).parts = partsOf nums := rfl
  have e2 : (stateOf next nums L).es = L := rfl
  have e1 : (stateOf next nums L).next = next := rfl
  have hhigh := h.high
  have hlow := h.low
  have hLL : L.take L.length = L := List.take_length
  unfold truncF
  rw [if_neg (by omega), e2, e3, e1, keepP_of, parts_len]
  by_cases hall : (L.length : Int) ≤ (t : Int)
  · rw [if_pos hall]
    refine ⟨fs, nums, t, 0, ?_, ?_, .inl ⟨rfl, rfl⟩⟩
    · rw [List.take_of_length_le (by omega)]
    · rw [List.take_of_length_le (by omega)]; exact h
  rw [if_neg hall]
  obtain ⟨K, hK⟩ : ∃ K, min nums.length ((t + 7) / 8) = K := ⟨_, rfl⟩
  rw [hK]
  by_cases hk : K < nums.length
  · rw [if_pos hk]
    have hKt : (t + 7) / 8 = K := by omega
    obtain ⟨R, hR1, hR2⟩ := bigR room (600 + 15 * nums.length + (Seg.bytesB L).length : Int) (Dk.total ex)
    obtain ⟨f1, g1, g2, g3⟩ := h.drop (room := R) K hk hR2
    have en : ((partsOf nums).take K).map (·.1) = nums.take K := by rw [parts_take, parts_nums]
    have ed : ((partsOf nums).drop K).map (·.1) = nums.drop K := by rw [List.map_drop, parts_nums]
    rw [en, ed]
    rcases save_or room R next (nums.take K) fs hR1 h.temp with es | es
    · rw [es, g1]
      simp only [ne_eq, not_true_eq_false, if_false]
      have hfirst : firstOf (partsOf nums) K = ((8 * K + 1 : Nat) : Int) := by
        unfold firstOf
        rw [parts_at, List.getElem?_eq_getElem hk]; rfl
      have hst : (stateOf next nums L).upto K = stateOf next (nums.take K) (L.take (8 * K)) := by
        unfold S.upto
        rw [e3, e2, hfirst, parts_take]
        have : (((8 * K + 1 : Nat) : Int) - 1).toNat = 8 * K := by omega
        rw [this, Nat.min_eq_right (by omega)]; rfl
      rw [hst]
      have htl : (nums.take K).length = K := by rw [List.length_take]; omega
      have htt : (L.take (8 * K)).take t = L.take t := by rw [List.take_take, Nat.min_eq_left (by omega)]
      rcases cutF_any room g3 t (by rw [htl]; omega) with ⟨f2, q1, q2⟩ | q
      · rw [htt] at q1 q2
        exact ⟨f2, nums.take K, t, 0, q1, q2, .inl ⟨rfl, rfl⟩⟩
      · exact ⟨_, nums.take K, 8 * K, 8, q, g3, .inr rfl⟩
    · rw [es]
      simp only [if_pos (show (8 : Nat) ≠ 0 by decide)]
      exact ⟨fs, nums, L.length, 8, by rw [hLL], by rw [hLL]; exact h, .inr rfl⟩
  · rw [if_neg hk]
    rcases cutF_any room h t (by omega) with ⟨f2, q1, q2⟩ | q
    · exact ⟨f2, nums, t, 0, q1, q2, .inl ⟨rfl, rfl⟩⟩
    · exact ⟨fs, nums, L.length, 8, by rw [hLL]; exact q, by rw [hLL]; exact h, .inr rfl⟩
end Go.Proofs.YtgddgipjpdjoaaaGreatDoor.Lg
namespace Go.Proofs.YtgddgipjpdjoaaaGreatDoor.Lg

/-- Parts were made: their numbers follow one another. -/
def Grown (next : Int) (nums : List Int) (next2 : Int) (nums2 : List Int) : Prop := ∃ k : Nat, next2 = next + (k : Int) ∧ nums2 = nums ++ (List.range k).map fun (i : Nat) => next + (i : Int)
theorem Grown.refl (n : Int) (l : List Int) : Grown n l n l := ⟨0, by simp, by simp⟩
theorem Grown.one (n : Int) (l : List Int) : Grown n l (n + 1) (l ++ [n]) := ⟨1, by simp, by simp⟩
theorem Grown.trans {n n1 n2 : Int} {l l1 l2 : List Int} (h1 : Grown n l n1 l1) (h2 : Grown n1 l1 n2 l2) : Grown n l n2 l2 := by
  obtain ⟨k, rfl, rfl⟩ := h1
  obtain ⟨j, rfl, rfl⟩ := h2
  refine ⟨k + j, by omega, ?_⟩
  rw [List.range_add, List.map_append, List.append_assoc, List.map_map]
  congr 2
  apply List.map_congr_left
  intro i _
  simp only [Function.comp]
  omega
theorem Grown.len {n n1 n2 : Int} {l l1 l2 : List Int} (h1 : Grown n l n1 l1) (h2 : Grown n l n2 l2) (h : l1.length = l2.length) : n1 = n2 ∧ l1 = l2 := by
  obtain ⟨k, rfl, rfl⟩ := h1
  obtain ⟨j, rfl, rfl⟩ := h2
  simp only [List.length_append, List.length_map, List.length_range] at h
  have : k = j := by omega
  subst this
  exact ⟨rfl, rfl⟩
theorem newF_grown (room : Int) (s : S) (fs : List Dk.File) : Grown s.next s.nums (newF room s fs).1.2.next (newF room s fs).1.2.nums := by
  unfold newF
  split
  · exact Grown.refl _ _
  split
  · exact Grown.refl _ _
  split
  · exact Grown.refl _ _
  · have : S.nums ⟨s.next + 1, s.parts ++ [(s.next, (s.es.length : Int) + 1)], s.es⟩ = s.nums ++ [s.next] := by simp [S.nums]
    rw [this]
    exact Grown.one _ _
theorem roomF_grown (room : Int) (s : S) (fs : List Dk.File) : Grown s.next s.nums (roomF room s fs).1.2.next (roomF room s fs).1.2.nums := by
  unfold roomF
  split
  · exact newF_grown room s fs
  split
  · exact Grown.refl _ _
  · exact newF_grown room s fs
theorem appF_grown (room : Int) : ∀ (k : Nat) (e : List Evt.Entry) (s : S) (fs : List Dk.File), Grown s.next s.nums (appF room k e s fs).1.2.next (appF room k e s fs).1.2.nums
  | 0, _, _, _ => Grown.refl _ _
  | k + 1, e, s, fs => by
    rw [appF]
    have h1 := roomF_grown room s fs
    split
    · exact Grown.refl _ _
    split
    · exact h1
    split
    · exact h1
    · exact h1.trans (appF_grown room k _ ((roomF room s fs).1.2.plus _) _)
theorem appendF_grown {room : Int} {e : List Evt.Entry} {next next2 : Int} {nums nums2 : List Int} {L L2 : List Evt.Entry} {fs f2 : List Dk.File} {c : Nat} (h : appendF room e (stateOf next nums L) fs = ((f2, stateOf next2 nums2 L2), c)) : Grown next nums next2 nums2 := by
  have e1 : (stateOf next nums L).nums = nums := parts_nums nums
  have e2 : (stateOf next2 nums2 L2).nums = nums2 := parts_nums nums2
  have : Grown (stateOf next nums L).next (stateOf next nums L).nums (appendF room e (stateOf next nums L) fs).1.2.next (appendF room e (stateOf next nums L) fs).1.2.nums := by
    unfold appendF
    split
    · exact appF_grown room _ _ _ _
    · exact Grown.refl _ _
  rw [h, e1, e2] at this
  exact this
theorem Holds.man_some {ex fs : List Dk.File} {next : Int} {nums : List Int} {L : List Evt.Entry} (h : Holds ex fs next nums L) (hn : nums ≠ []) : Dk.look fs Man.file = some (manF next nums) := by
  rcases h.man with ⟨e, _⟩ | e
  · exact absurd e hn
  · exact e
/-- A disk that holds a log is told by what it holds. -/
theorem Holds.same {ex fs fs' : List Dk.File} {next : Int} {nums : List Int} {L : List Evt.Entry} (h : Holds ex fs next nums L) (h' : Holds ex fs' next nums L) (hn : nums ≠ []) : fs = fs' := by
  refine Dk.sorted_ext _ _ h.sorted h'.sorted (fun k => ?_)
  by_cases hf : k = Man.file
  · rw [hf, h.man_some hn, h'.man_some hn]
  · by_cases hk : ∀ n ∈ nums, k ≠ Seg.nameOf n
    · rw [h.oth k hf hk, h'.oth k hf hk]
    · have : ∃ n ∈ nums, k = Seg.nameOf n := Classical.byContradiction fun hx => hk (fun n hm e => hx ⟨n, hm, e⟩)
      obtain ⟨n, hm, rfl⟩ := this
      obtain ⟨i, hi⟩ := List.mem_iff_getElem?.1 hm
      rw [h.seg i n hi, h'.seg i n hi]
theorem Holds.len_eq {ex fs : List Dk.File} {next : Int} {nums : List Int} {L : List Evt.Entry} (h : Holds ex fs next nums L) (hn : nums.length ≤ (L.length + 7) / 8) : nums.length = (L.length + 7) / 8 := by
  have := h.high; omega
/-- What Open reads: each segment goes on. -/
def Reads (room : Int) : List Int → S → List Dk.File → S → List Dk.File → Prop
  | [], s, fs, s', fs' => s' = s ∧ fs' = fs
  | n :: l, s, fs, s', fs' => ∃ s1 f1, readF room n s fs = ((f1, s1), true, 0) ∧ Reads room l s1 f1 s' fs'
theorem reads_from {ex fs : List Dk.File} {next room : Int} {nums : List Int} {L : List Evt.Entry} (h : Holds ex fs next nums L) : ∀ (k i : Nat), i + k = nums.length →
    Reads room (nums.drop i) ⟨next, partsOf (nums.take i), L.take (8 * i)⟩ fs (stateOf next nums L) fs
  | 0, i, hk => by
    have e : i = nums.length := by omega
    subst e
    rw [List.drop_length, List.take_length, h.take_all]
    exact ⟨rfl, rfl⟩
  | k + 1, i, hk => by
    have hlt : i < nums.length := by omega
    rw [List.drop_eq_getElem_cons hlt]
    exact ⟨_, _, read_part (room := room) h (List.getElem?_eq_getElem hlt), reads_from h k (i + 1) (by omega)⟩
theorem Holds.reads {ex fs : List Dk.File} {next : Int} {nums : List Int} {L : List Evt.Entry} (room : Int) (h : Holds ex fs next nums L) : Reads room nums ⟨next, [], []⟩ fs (stateOf next nums L) fs := by
  have := reads_from (room := room) h nums.length 0 (by omega)
  simpa [partsOf] using this
theorem Holds.gone {ex fs : List Dk.File} {next : Int} {nums : List Int} {L : List Evt.Entry} (h : Holds ex fs next nums L) : ∀ x ∈ fs, goneN nums x.name = false := by
  intro x hx
  obtain ⟨q1, q2⟩ := h.names x hx
  unfold goneN
  rw [beq_eq_false_iff_ne.2 q1, Bool.false_or]
  rcases q2 with q2 | q2
  · rw [q2]; rfl
  · rw [show nums.contains (Seg.numberOf x.name) = true by simpa using q2]; simp
end Go.Proofs.YtgddgipjpdjoaaaGreatDoor.Lg
namespace Go.Proofs.YtgddgipjpdjoaaaGreatDoor.Lg
open Go.RowKit

/-- The mark, if an epoch was ever kept. -/
def exM (es : List Int) : List Dk.File := if es = [] then [] else [Man.markF es]
theorem exM_cons {es : List Int} (h : es ≠ []) : exM es = [Man.markF es] := if_neg h
theorem mark_number : Seg.numberOf Man.mark = 0 := by
  unfold Seg.numberOf Man.mark
  simp [Lib.parseUint10]
theorem mark_seg (n : Int) (h1 : 1 ≤ n) (h2 : n ≤ 1073741824) : Man.mark ≠ Seg.nameOf n := fun e => by
  have := mark_number
  rw [e, Seg.number_name n h1 h2] at this
  omega
theorem others_mark (es : List Int) : Others (exM es) := by
  unfold exM
  split
  · exact others_nil
  · refine ⟨by simp [Dk.Sorted], ?_, ?_, fun x hx => ?_, fun x hx => ?_, by simp⟩
    · simp [Dk.look, Man.markF, Man.mark_ne_file]
    · simp [Dk.look, Man.markF, Man.mark_ne_temp]
    · rw [List.mem_singleton.1 hx]; exact mark_number
    · rw [List.mem_singleton.1 hx]; rfl
theorem look_exM (es : List Int) : Dk.look (exM es) Man.mark = if es = [] then none else some (Man.markF es) := by
  unfold exM
  by_cases h : es = []
  · rw [if_pos h, if_pos h]; rfl
  · rw [if_neg h, if_neg h]; simp [Dk.look, Man.markF]
theorem look_exM_other (es : List Int) {k : List UInt8} (h : k ≠ Man.mark) : Dk.look (exM es) k = none := by
  unfold exM
  split
  · rfl
  · simp [Dk.look, Man.markF, Ne.symm h]
theorem total_exM {es : List Int} (h : Man.rises 0 es) : Dk.total (exM es) ≤ 14 * es.length := by
  unfold exM
  split
  · exact Nat.zero_le _
  · have := Man.markB_len h
    simp only [Dk.total, Man.markF]
    rw [Lib.size_eq]
    simpa using this
theorem Holds.mark {es : List Int} {fs : List Dk.File} {next : Int} {nums : List Int} {L : List Evt.Entry} (h : Holds (exM es) fs next nums L) : Dk.look fs Man.mark = if es = [] then none else some (Man.markF es) := by
  rw [← look_exM]
  have hr := Man.right_mem h.right
  exact h.oth _ Man.mark_ne_file (fun n hn => mark_seg n (by have := hr.2.2.2 n hn; omega) (by have := hr.2.2.2 n hn; omega))
theorem Holds.epochs {es : List Int} {fs : List Dk.File} {next : Int} {nums : List Int} {L : List Evt.Entry} (h : Holds (exM es) fs next nums L) (hm : Man.rises 0 es) : Man.epochsD fs = (Man.lastE 0 es, es.length, true) := by
  have hl := h.mark
  by_cases e : es = []
  · subst e
    rw [if_pos rfl] at hl
    exact Man.epochs_none hl
  · rw [if_neg e] at hl
    exact Man.epochs_at hm hl
/-- The mark is another one: all else is as it was. -/
theorem Holds.put_mark {es es2 : List Int} {fs : List Dk.File} {next : Int} {nums : List Int} {L : List Evt.Entry} (h : Holds (exM es) fs next nums L) (h2 : es2 ≠ []) : Holds (exM es2) (Dk.put (Man.markF es2) fs) next nums L := by
  have hr := Man.right_mem h.right
  have hseg : ∀ n ∈ nums, Seg.nameOf n ≠ Man.mark := fun n hn e => mark_seg n (by have := hr.2.2.2 n hn; omega) (by have := hr.2.2.2 n hn; omega) e.symm
  refine ⟨Dk.sorted_put _ _ h.sorted, h.right, ?_, fun i n hi => ?_, fun k hk hks => ?_, others_mark es2, h.lo, h.low, h.high, h.fol⟩
  · rw [Dk.look_put_other (Man.markF es2) (show Man.file ≠ (Man.markF es2).name from fun e => Man.mark_ne_file e.symm)]; exact h.man
  · rw [Dk.look_put_other (Man.markF es2) (show Seg.nameOf n ≠ (Man.markF es2).name from hseg n (List.mem_of_getElem? hi))]; exact h.seg i n hi
  · by_cases e : k = Man.mark
    · subst e
      rw [look_exM, if_neg h2]
      exact Dk.look_put_same (Man.markF es2) fs
    · rw [Dk.look_put_other (Man.markF es2) (show k ≠ (Man.markF es2).name from e), h.oth k hk hks, look_exM_other es e, look_exM_other es2 e]
theorem rowE_size {e : Int} (h1 : 0 ≤ e) (h2 : e ≤ 274877906944) : (Man.rowE e).size ≤ 14 := by
  have := Num.put_le6 (Num.held e) (Man.held_of h1 h2).2
  rw [Lib.size_eq]
  simp only [Man.rowE, Frm.framed_len]
  omega
theorem mark_more (es : List Int) (e : Int) : (⟨(Man.markB es).toArray⟩ : ByteArray) ++ Man.rowE e = ⟨(Man.markB (es ++ [e])).toArray⟩ := by
  apply ByteArray.ext
  apply Array.toList_inj.1
  rw [ByteArray.data_append, Array.toList_append, Man.markB_snoc]
  simp [Man.rowE]
theorem put_same2 {fs : List Dk.File} {x : Dk.File} {k : List UInt8} {b : ByteArray} {n : Nat} (hs : Dk.Sorted fs) (h : Dk.look fs k = some x) (hx : x = ⟨k, b, n⟩ := by rfl) : Dk.put ⟨k, b, n⟩ fs = fs := by
  subst hx
  refine Dk.sorted_ext _ _ (Dk.sorted_put _ _ hs) hs (fun j => ?_)
  by_cases e : j = k
  · subst e
    have := Dk.look_put_same ⟨j, b, n⟩ fs
    simp only at this
    rw [this, h]
  · rw [Dk.look_put_other ⟨k, b, n⟩ e]
theorem put_put {fs : List Dk.File} {x y : Dk.File} (hs : Dk.Sorted fs) (h : x.name = y.name) : Dk.put y (Dk.put x fs) = Dk.put y fs := by
  refine Dk.sorted_ext _ _ (Dk.sorted_put _ _ (Dk.sorted_put _ _ hs)) (Dk.sorted_put _ _ hs) (fun j => ?_)
  by_cases e : j = y.name
  · subst e
    rw [Dk.look_put_same y, Dk.look_put_same y]
  · rw [Dk.look_put_other y e, Dk.look_put_other y e, Dk.look_put_other x (by rw [h]; exact e)]
/-- A higher epoch is kept. -/
theorem Holds.raise {es : List Int} {fs : List Dk.File} {next room e : Int} {nums : List Int} {L : List Evt.Entry} (h : Holds (exM es) fs next nums L) (hm : Man.rises 0 es) (hn : es.length ≤ 21) (h1 : Man.lastE 0 es < e) (h2 : e ≤ 274877906944) (hr : (Dk.total fs : Int) + 14 ≤ room) :
    ∃ es2, Man.raiseF room e fs = (Dk.put (Man.markF es2) fs, 0) ∧ Holds (exM es2) (Dk.put (Man.markF es2) fs) next nums L ∧ Man.rises 0 es2 ∧ es2.length ≤ 21 ∧ Man.lastE 0 es2 = e ∧ es2 ≠ [] := by
  have h0 := (Man.lastE_le es 0 (Int.le_refl _) hm).1
  have hep := h.epochs hm
  have hmk := h.mark
  have hlen := h.len
  have hr30 := (Man.right_mem h.right).2.2.1
  have hrs := rowE_size (e := e) (by omega) h2
  have hsync : ∀ es2 : List Int, Dk.sync Man.mark (Dk.put (Man.markF es2) fs) = (Dk.put (Man.markF es2) fs, 0) := fun es2 => by
    have hl := Dk.look_put_same (Man.markF es2) fs
    have hl : Dk.look (Dk.put (Man.markF es2) fs) Man.mark = some (Man.markF es2) := hl
    unfold Dk.sync
    rw [hl]
    simp only [Prod.mk.injEq, and_true]
    exact put_same2 (Dk.sorted_put _ _ h.sorted) hl
  unfold Man.raiseF
  rw [if_neg (by omega), hep]
  simp only
  rw [if_neg (by omega), if_neg (by omega)]
  have hkp : Man.keepF room e fs = if es.length ≤ 20 then Dk.append room Man.mark (Man.rowE e) fs else Man.writeM room Man.mark (Man.rowE e) fs := by
    unfold Man.keepF
    rw [hep]
    by_cases h : es.length ≤ 20
    · rw [if_pos ⟨rfl, h⟩, if_pos h]
    · rw [if_neg (fun hx => h hx.2), if_neg h]
  rw [hkp]
  by_cases h20 : es.length ≤ 20
  · rw [if_pos h20]
    refine ⟨es ++ [e], ?_, h.put_mark (by simp), Man.rises_snoc es 0 e hm h1 h2, by simp; omega, Man.lastE_snoc es 0 e, by simp⟩
    have ha : ∃ y, Dk.append room Man.mark (Man.rowE e) fs = (y, 0) ∧ Dk.sync Man.mark y = (Dk.put (Man.markF (es ++ [e])) fs, 0) := by
      by_cases he : es = []
      · subst he
        rw [if_pos rfl] at hmk
        refine ⟨Dk.put ⟨Man.mark, Man.rowE e, 0⟩ fs, ?_, ?_⟩
        · unfold Dk.append
          rw [if_neg (by rw [Man.mark_named]; simp), if_neg (by omega), if_neg (by omega), hmk]; rfl
        · have hl := Dk.look_put_same ⟨Man.mark, Man.rowE e, 0⟩ fs
          have hl : Dk.look (Dk.put ⟨Man.mark, Man.rowE e, 0⟩ fs) Man.mark = some ⟨Man.mark, Man.rowE e, 0⟩ := hl
          unfold Dk.sync
          rw [hl]
          simp only [Prod.mk.injEq, and_true]
          have hx : (⟨Man.mark, Man.rowE e, (Man.rowE e).size⟩ : Dk.File) = Man.markF ([] ++ [e]) := by
            have : Man.rowE e = ⟨(Man.markB ([] ++ [e])).toArray⟩ := by rw [← mark_more]; apply ByteArray.ext; simp [Man.markB]
            unfold Man.markF
            rw [← this]
          rw [hx]
          exact put_put h.sorted rfl
      · rw [if_neg he] at hmk
        refine ⟨Dk.put ⟨Man.mark, (Man.markF es).bytes ++ Man.rowE e, (Man.markF es).synced⟩ fs, ?_, ?_⟩
        · unfold Dk.append
          rw [if_neg (by rw [Man.mark_named]; simp), hmk, if_neg (by simp), if_neg (by omega)]; rfl
        · have hl := Dk.look_put_same ⟨Man.mark, (Man.markF es).bytes ++ Man.rowE e, (Man.markF es).synced⟩ fs
          have hl : Dk.look (Dk.put ⟨Man.mark, (Man.markF es).bytes ++ Man.rowE e, (Man.markF es).synced⟩ fs) Man.mark = some ⟨Man.mark, (Man.markF es).bytes ++ Man.rowE e, (Man.markF es).synced⟩ := hl
          unfold Dk.sync
          rw [hl]
          simp only [Prod.mk.injEq, and_true]
          have hx : (⟨Man.mark, (Man.markF es).bytes ++ Man.rowE e, ((Man.markF es).bytes ++ Man.rowE e).size⟩ : Dk.File) = Man.markF (es ++ [e]) := by
            unfold Man.markF
            rw [← mark_more]
          rw [hx]
          exact put_put h.sorted rfl
    obtain ⟨y, q1, q2⟩ := ha
    rw [q1, if_pos rfl]
    exact q2
  · rw [if_neg h20]
    have htemp : Dk.look fs Seg.temp = none := h.temp
    have hw := Man.write_ok (room := room) (k := Man.mark) (s := Man.rowE e) h.sorted Man.mark_named Man.mark_ne_temp htemp (by omega) (by omega)
    have hx : (⟨Man.mark, Man.rowE e, (Man.rowE e).size⟩ : Dk.File) = Man.markF [e] := by
      have : Man.rowE e = ⟨(Man.markB [e]).toArray⟩ := by
        have := mark_more [] e
        rw [List.nil_append] at this
        rw [← this]; apply ByteArray.ext; simp [Man.markB]
      unfold Man.markF
      rw [← this]
    rw [hx] at hw
    rw [hw, if_pos rfl]
    exact ⟨[e], hsync [e], h.put_mark (by simp), ⟨by omega, h2⟩, by simp, rfl, by simp⟩
end Go.Proofs.YtgddgipjpdjoaaaGreatDoor.Lg
