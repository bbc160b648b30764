/-
  Plain Lean, no program in sight: what a log's functions do on a disk that holds a log, whatever room it has: they do it, or say that there is none.
-/
import Derived.Test.YtbknlffebcbjfaaGreatDoorLogM
namespace Go.Proofs.YtbknlffebcbjfaaGreatDoor.Lg

theorem append_or (room R : Int) (k : List UInt8) (s : ByteArray) (fs : List Dk.File) (h : room ≤ R) : Dk.append room k s fs = Dk.append R k s fs ∨ Dk.append room k s fs = (fs, 8) := by
  unfold Dk.append
  split
  · exact .inl rfl
  split
  · exact .inl rfl
  split
  · exact .inr rfl
  · rw [if_neg (by omega)]; exact .inl rfl
theorem delete_none {k : List UInt8} {fs : List Dk.File} (h : Dk.look fs k = none) : (Dk.delete k fs).1 = fs := by rw [Dk.delete_fst, Dk.del_none _ _ h]
theorem writeD_or (room R : Int) (k : List UInt8) (s : ByteArray) (fs : List Dk.File) (h : room ≤ R) (h0 : Dk.look fs k = none) : Seg.writeD room k s fs = Seg.writeD R k s fs ∨ Seg.writeD room k s fs = (fs, 8) := by
  unfold Seg.writeD
  rcases append_or room R k s fs h with e | e
  · rw [e]; exact .inl rfl
  · rw [e, if_neg (by simp)]; exact .inr (by rw [delete_none h0])
theorem create_or (room R n first : Int) (fs : List Dk.File) (h : room ≤ R) : Seg.create room n first fs = Seg.create R n first fs ∨ Seg.create room n first fs = (fs, 8) := by
  unfold Seg.create
  split
  · exact .inl rfl
  split
  · exact .inl rfl
  · rename_i hn
    have h0 : Dk.look fs (Seg.nameOf n) = none := by
      cases e : Dk.look fs (Seg.nameOf n) with
      | none => rfl
      | some x => exact absurd (by simp [Dk.read, e]) hn
    exact writeD_or room R _ _ fs h h0
theorem writeM_or (room R : Int) (k : List UInt8) (s : ByteArray) (fs : List Dk.File) (h : room ≤ R) (h0 : Dk.look fs Seg.temp = none) : Man.writeM room k s fs = Man.writeM R k s fs ∨ Man.writeM room k s fs = (fs, 8) := by
  unfold Man.writeM
  rw [delete_none h0]
  rcases append_or room R Seg.temp s fs h with e | e
  · rw [e]; exact .inl rfl
  · rw [e, if_neg (by simp)]; exact .inr (by rw [delete_none h0])
theorem save_or (room R next : Int) (segs : List Int) (fs : List Dk.File) (h : room ≤ R) (h0 : Dk.look fs Seg.temp = none) : Man.save room next segs fs = Man.save R next segs fs ∨ Man.save room next segs fs = (fs, 8) := by
  unfold Man.save
  split
  · exact writeM_or room R _ _ fs h h0
  · exact .inl rfl
theorem addD_or (room R n : Int) (l : List Evt.Entry) (fs : List Dk.File) (h : room ≤ R) : Seg.addD room n l fs = Seg.addD R n l fs ∨ Seg.addD room n l fs = (fs, 8) := by
  obtain ⟨⟨g, c⟩, hg⟩ : ∃ p, Seg.loadD n fs = p := ⟨_, rfl⟩
  by_cases hc : c = 0
  · subst hc
    rw [Seg.add_look hg, Seg.add_look hg]
    split
    · exact .inl rfl
    split
    · exact .inl rfl
    split
    · exact .inl rfl
    · rcases append_or room R (Seg.nameOf n) ⟨(Seg.bytesB l).toArray⟩ fs h with e | e
      · rw [e]; exact .inl rfl
      · rw [e, if_neg (by simp)]; exact .inr rfl
  · refine .inl ?_
    unfold Seg.addD
    rw [hg, if_neg hc, if_neg hc]
theorem cutD_or (room R n last : Int) (fs : List Dk.File) (h : room ≤ R) (h0 : Dk.look fs Seg.temp = none) : Seg.cutD room n last fs = Seg.cutD R n last fs ∨ Seg.cutD room n last fs = (fs, 8) := by
  unfold Seg.cutD
  split
  · unfold Seg.cutG
    split
    · exact .inl rfl
    · rw [delete_none h0]
      rcases writeD_or room R Seg.temp ⟨(Seg.bytesH (Seg.loadD n fs).1.first ++ Seg.bytesB ((Seg.loadD n fs).1.entries.take (Seg.keepN last (Seg.loadD n fs).1.entries))).toArray⟩ fs h h0 with e | e
      · rw [e]; exact .inl rfl
      · rw [e, if_neg (by simp)]; exact .inr rfl
  · exact .inl rfl
theorem Holds.temp {fs : List Dk.File} {next : Int} {nums : List Int} {L : List Evt.Entry} (h : Holds fs next nums L) : Dk.look fs Seg.temp = none := h.oth _ (fun e => Man.file_ne_temp e.symm) (fun n _ e => Seg.temp_ne n e.symm)
theorem del_put {fs : List Dk.File} {y : Dk.File} (hs : Dk.Sorted fs) (h0 : Dk.look fs y.name = none) : Dk.del y.name (Dk.put y fs) = fs := by
  have s1 := Dk.sorted_put y fs hs
  refine Dk.sorted_ext _ _ (Dk.sorted_del _ _ s1) hs (fun j => ?_)
  by_cases e : j = y.name
  · rw [e, Dk.look_del_same _ _ s1, h0]
  · rw [Dk.look_del_other _ e, Dk.look_put_other y e]
/-- A part more, or no room for it. -/
theorem Holds.newF_any {fs : List Dk.File} {next : Int} {nums : List Int} {L : List Evt.Entry} (room : Int) (h : Holds fs next nums L) (hf : L.length = 8 * nums.length) (hn : next < 1073741824) :
    (∃ f2, newF room (stateOf next nums L) fs = ((f2, stateOf (next + 1) (nums ++ [next]) L), 8, 0) ∧ Holds f2 (next + 1) (nums ++ [next]) L) ∨ ∃ c, newF room (stateOf next nums L) fs = ((fs, stateOf next nums L), 0, c) ∧ (c = 8 ∨ c = 4) := by
  have hp : (stateOf next nums L).parts.length = nums.length := parts_len nums
  have hnn : (stateOf next nums L).nums = nums := parts_nums nums
  have e1 : (stateOf next nums L).next = next := rfl
  have e2 : (stateOf next nums L).es = L := rfl
  have e3 : (stateOf next nums L).parts = partsOf nums := rfl
  unfold newF
  rw [hp, hnn, e1, e2, e3]
  by_cases h30 : 30 ≤ nums.length
  · rw [if_pos h30]; exact .inr ⟨4, rfl, .inr rfl⟩
  rw [if_neg h30]
  obtain ⟨R, hR1, hR2⟩ : ∃ R : Int, room ≤ R ∧ (200 + 200 + 15 * (nums.length + 1) + (Seg.bytesB L).length : Int) ≤ R := ⟨max room (200 + 200 + 15 * (nums.length + 1) + (Seg.bytesB L).length : Int), Int.le_max_left _ _, Int.le_max_right _ _⟩
  obtain ⟨f1, f2, g1, g2, g3⟩ := h.grow (room := R) hf (by omega) hn hR2
  rcases create_or room R next ((L.length : Int) + 1) fs hR1 with ec | ec
  · rw [ec, g1]
    simp only [ne_eq, not_true_eq_false, if_false]
    obtain ⟨r1, r2, r3, r4⟩ := Man.right_mem h.right
    have hnew : Dk.look fs (Seg.nameOf next) = none := by
      refine h.oth _ (Man.file_ne_seg next) (fun n hm e => ?_)
      have g := r4 n hm
      have := Seg.name_inj (n := next) (m := n) r1 r2 g.1 (by omega) e
      omega
    have hlen := h.len
    have htot := h.tot
    have hml := h.man_le
    have hc := Seg.create_look (room := R) (n := next) (first := (L.length : Int) + 1) (fs := fs) r1 r2 (by omega) (by omega) h.sorted hnew (by omega) (by omega)
    rw [g1] at hc
    have hf1 := (Prod.mk.inj hc).1
    have htemp1 : Dk.look f1 Seg.temp = none := by
      rw [hf1, Dk.look_put_other _ (show Seg.temp ≠ Seg.nameOf next from fun e => Seg.temp_ne next e.symm)]; exact h.temp
    rcases save_or room R (next + 1) (nums ++ [next]) f1 hR1 htemp1 with es | es
    · rw [es, g2]
      simp only [not_true_eq_false, if_false]
      refine .inl ⟨f2, ?_, g3⟩
      have hps := parts_snoc nums next
      rw [show ((8 * nums.length + 1 : Nat) : Int) = (L.length : Int) + 1 by omega] at hps
      rw [hps]; rfl
    · rw [es]
      simp only [if_pos (show ¬ (8 : Nat) = 0 by decide)]
      refine .inr ⟨8, ?_, .inl rfl⟩
      rw [Dk.delete_fst, hf1]
      have := del_put (y := ⟨Seg.nameOf next, ⟨(Seg.bytesH ((L.length : Int) + 1)).toArray⟩, (⟨(Seg.bytesH ((L.length : Int) + 1)).toArray⟩ : ByteArray).size⟩) h.sorted hnew
      simp only at this
      rw [this]
  · rw [ec]
    simp only [if_pos (show (8 : Nat) ≠ 0 by decide)]
    exact .inr ⟨8, rfl, .inl rfl⟩
theorem Holds.room_any {fs : List Dk.File} {next : Int} {nums : List Int} {L : List Evt.Entry} (room : Int) (h : Holds fs next nums L) (hn : next < 1073741824) :
    (∃ f2 next2 nums2 k, roomF room (stateOf next nums L) fs = ((f2, stateOf next2 nums2 L), ((k : Nat) : Int), 0) ∧ Holds f2 next2 nums2 L ∧ 1 ≤ k ∧ L.length + k = 8 * nums2.length ∧ next2 ≤ next + 1 ∧ nums2 ≠ []) ∨ ∃ c, roomF room (stateOf next nums L) fs = ((fs, stateOf next nums L), 0, c) ∧ (c = 8 ∨ c = 4) := by
  have hlow := h.low
  have hhigh := h.high
  have hnew : L.length = 8 * nums.length → (∃ f2 next2 nums2 k, newF room (stateOf next nums L) fs = ((f2, stateOf next2 nums2 L), ((k : Nat) : Int), 0) ∧ Holds f2 next2 nums2 L ∧ 1 ≤ k ∧ L.length + k = 8 * nums2.length ∧ next2 ≤ next + 1 ∧ nums2 ≠ []) ∨ ∃ c, newF room (stateOf next nums L) fs = ((fs, stateOf next nums L), 0, c) ∧ (c = 8 ∨ c = 4) := by
    intro he
    rcases h.newF_any room he hn with ⟨f2, q1, q2⟩ | q
    · exact .inl ⟨f2, next + 1, nums ++ [next], 8, q1, q2, by omega, by simp; omega, Int.le_refl _, by simp⟩
    · exact .inr q
  have e3 : (stateOf next nums L).parts = partsOf nums := rfl
  have e2 : (stateOf next nums L).es = L := rfl
  unfold roomF
  rw [e3, parts_last]
  cases hl : nums[nums.length - 1]? with
  | none =>
    have hz : nums = [] := by
      rw [List.getElem?_eq_none_iff] at hl
      exact List.eq_nil_of_length_eq_zero (by omega)
    simp only [Option.map_none]
    exact hnew (by rw [h.lo hz, hz]; rfl)
  | some n =>
    have hlt := (List.getElem?_eq_some_iff.1 hl).1
    simp only [Option.map_some, e2]
    by_cases hlt8 : (L.length : Int) + 1 - ((8 * (nums.length - 1) + 1 : Nat) : Int) < 8
    · rw [if_pos hlt8]
      refine .inl ⟨fs, next, nums, 8 * nums.length - L.length, ?_, h, by omega, by omega, by omega, fun e => by rw [e] at hlt; simp at hlt⟩
      congr 2
      omega
    · rw [if_neg hlt8]
      exact hnew (by omega)
theorem Holds.add_any {fs : List Dk.File} {next : Int} {nums : List Int} {L m : List Evt.Entry} {n : Int} (room : Int) (h : Holds fs next nums L) (hn : nums[nums.length - 1]? = some n) (hm : (L ++ m).length ≤ 8 * nums.length) (hfo : Evt.follows (L ++ m) 0 0 = true) :
    (∃ f, Seg.addD room n m fs = (f, 0) ∧ Holds f next nums (L ++ m)) ∨ Seg.addD room n m fs = (fs, 8) := by
  obtain ⟨R, hR1, hR2⟩ : ∃ R : Int, room ≤ R ∧ (200 + 15 * nums.length + (Seg.bytesB (L ++ m)).length : Int) ≤ R := ⟨max room (200 + 15 * nums.length + (Seg.bytesB (L ++ m)).length : Int), Int.le_max_left _ _, Int.le_max_right _ _⟩
  rcases addD_or room R n m fs hR1 with e | e
  · rw [e]; exact .inl (h.add hn hm hfo hR2)
  · exact .inr e
/-- Append on a disk that holds a log, whatever room it has: what was added is a beginning. -/
theorem app_any (room : Int) : ∀ (k : Nat) (e : List Evt.Entry) (fs : List Dk.File) (next : Int) (nums : List Int) (L : List Evt.Entry), e.length ≤ k → Holds fs next nums L → Evt.follows (L ++ e) 0 0 = true → next + e.length < 1073741824 →
    ∃ f2 next2 nums2 j c, appF room k e (stateOf next nums L) fs = ((f2, stateOf next2 nums2 (L ++ e.take j)), c) ∧ Holds f2 next2 nums2 (L ++ e.take j) ∧ j ≤ e.length ∧ (c = 0 ∧ j = e.length ∨ c = 8 ∨ c = 4) ∧ next2 ≤ next + e.length
  | 0, e, fs, next, nums, L, hk, h, hf, hn => by
    have : e = [] := List.eq_nil_of_length_eq_zero (by omega)
    subst this
    refine ⟨fs, next, nums, 0, 0, ?_, ?_, by simp, .inl ⟨rfl, rfl⟩, by simp⟩
    · rw [List.take_nil, List.append_nil]; rfl
    · rw [List.take_nil, List.append_nil]; exact h
  | k + 1, e, fs, next, nums, L, hk, h, hf, hn => by
    rw [appF]
    by_cases he : e = []
    · subst he
      rw [if_pos rfl]
      refine ⟨fs, next, nums, 0, 0, ?_, ?_, by simp, .inl ⟨rfl, rfl⟩, by simp⟩
      · rw [List.take_nil, List.append_nil]
      · rw [List.take_nil, List.append_nil]; exact h
    have hlen : 0 < e.length := List.length_pos_iff.2 he
    rw [if_neg he]
    rcases h.room_any room (by omega) with ⟨f1, next1, nums1, m, hrf, h1, hm1, hm2, hm3, hm5⟩ | ⟨c, hrf, hc⟩
    · rw [hrf]
      simp only [ne_eq, not_true_eq_false, if_false, Int.toNat_natCast]
      have hlt1 : nums1.length - 1 < nums1.length := by
        have := List.length_pos_iff.2 hm5; omega
      have hgl : nums1[nums1.length - 1]? = some nums1[nums1.length - 1] := List.getElem?_eq_getElem hlt1
      rw [lastN_of hgl]
      obtain ⟨c, hc⟩ : ∃ c, min m e.length = c := ⟨_, rfl⟩
      rw [hc]
      have eL : L ++ e = (L ++ e.take c) ++ e.drop c := by rw [List.append_assoc, List.take_append_drop]
      have htl : (e.take c).length = c := by rw [List.length_take]; omega
      have hdl : (e.drop c).length = e.length - c := List.length_drop
      have hfo : Evt.follows (L ++ e.take c) 0 0 = true := by
        rw [eL] at hf
        exact ((Seg.follows_append _ _ _ _).1 hf).1
      have hlc : (L ++ e.take c).length = L.length + c := by rw [List.length_append, htl]
      rcases h1.add_any room hgl (by omega) hfo with ⟨f2, ha, h2⟩ | ha
      · rw [ha]
        simp only [not_true_eq_false, if_false]
        have hst : (stateOf next1 nums1 L).plus (e.take c) = stateOf next1 nums1 (L ++ e.take c) := rfl
        rw [hst]
        obtain ⟨f3, next3, nums3, j, c', q1, q2, q3, q4, q5⟩ := app_any room k (e.drop c) f2 next1 nums1 (L ++ e.take c) (by omega) h2 (by rw [← eL]; exact hf) (by omega)
        have et : L ++ e.take c ++ (e.drop c).take j = L ++ e.take (c + j) := by rw [List.append_assoc, List.take_add]
        rw [et] at q1 q2
        exact ⟨f3, next3, nums3, c + j, c', q1, q2, by omega, by omega, by omega⟩
      · rw [ha]
        simp only [if_pos (show (8 : Nat) ≠ 0 by decide)]
        refine ⟨f1, next1, nums1, 0, 8, ?_, ?_, by omega, .inr (.inl rfl), by omega⟩
        · rw [List.take_zero, List.append_nil]
        · rw [List.take_zero, List.append_nil]; exact h1
    · rw [hrf]
      have hc0 : c ≠ 0 := by omega
      simp only [if_pos hc0]
      refine ⟨fs, next, nums, 0, c, ?_, ?_, by omega, .inr hc, by omega⟩
      · rw [List.take_zero, List.append_nil]
      · rw [List.take_zero, List.append_nil]; exact h
theorem Holds.append_any {fs : List Dk.File} {next : Int} {nums : List Int} {L : List Evt.Entry} (room : Int) (h : Holds fs next nums L) (e : List Evt.Entry) (hf : Evt.follows (L ++ e) 0 0 = true) (hn : next + e.length < 1073741824) :
    ∃ f2 next2 nums2 j c, appendF room e (stateOf next nums L) fs = ((f2, stateOf next2 nums2 (L ++ e.take j)), c) ∧ Holds f2 next2 nums2 (L ++ e.take j) ∧ j ≤ e.length ∧ (c = 0 ∧ j = e.length ∨ c = 8 ∨ c = 4) ∧ next2 ≤ next + e.length := by
  have e2 : (stateOf next nums L).es = L := rfl
  unfold appendF
  rw [e2, if_pos ((follows_on h.fol).1 hf)]
  exact app_any room e.length e fs next nums L (Nat.le_refl _) h hf hn
/-! Truncate. -/
theorem cutF_any {fs : List Dk.File} {next : Int} {nums : List Int} {L : List Evt.Entry} (room : Int) (h : Holds fs next nums L) (t : Nat) (hlo : 8 * (nums.length - 1) ≤ t) :
    (∃ f, cutF room (t : Int) (stateOf next nums L) fs = ((f, stateOf next nums (L.take t)), 0) ∧ Holds f next nums (L.take t)) ∨ cutF room (t : Int) (stateOf next nums L) fs = ((fs, stateOf next nums L), 8) := by
  obtain ⟨R, hR1, hR2⟩ : ∃ R : Int, room ≤ R ∧ (300 + 15 * nums.length + 2 * (Seg.bytesB L).length + 15 : Int) ≤ R := ⟨max room (300 + 15 * nums.length + 2 * (Seg.bytesB L).length + 15 : Int), Int.le_max_left _ _, Int.le_max_right _ _⟩
  have e3 : (stateOf next nums L).parts = partsOf nums := rfl
  cases hl : nums[nums.length - 1]? with
  | none =>
    obtain ⟨f, q1, q2⟩ := cutF_holds (room := R) h t hlo hR2
    refine .inl ⟨f, ?_, q2⟩
    unfold cutF at q1 ⊢
    rw [e3, parts_last, hl] at q1 ⊢
    exact q1
  | some n =>
    rcases cutD_or room R n (t : Int) fs hR1 h.temp with e | e
    · obtain ⟨f, q1, q2⟩ := cutF_holds (room := R) h t hlo hR2
      refine .inl ⟨f, ?_, q2⟩
      unfold cutF at q1 ⊢
      rw [e3, parts_last, hl] at q1 ⊢
      simp only [Option.map_some] at q1 ⊢
      rw [e]; exact q1
    · refine .inr ?_
      unfold cutF
      rw [e3, parts_last, hl]
      simp only [Option.map_some]
      rw [e]; rfl
theorem Holds.trunc_any {fs : List Dk.File} {next : Int} {nums : List Int} {L : List Evt.Entry} (room : Int) (h : Holds fs next nums L) (t : Nat) :
    ∃ f nums2 t' c, truncF room (t : Int) (stateOf next nums L) fs = ((f, stateOf next nums2 (L.take t')), c) ∧ Holds f next nums2 (L.take t') ∧ (c = 0 ∧ t' = t ∨ c = 8) := by
  have e3 : (stateOf next nums L).parts = partsOf nums := rfl
  have e2 : (stateOf next nums L).es = L := rfl
  have e1 : (stateOf next nums L).next = next := rfl
  have hhigh := h.high
  have hlow := h.low
  have hLL : L.take L.length = L := List.take_length
  unfold truncF
  rw [if_neg (by omega), e2, e3, e1, keepP_of, parts_len]
  by_cases hall : (L.length : Int) ≤ (t : Int)
  · rw [if_pos hall]
    refine ⟨fs, nums, t, 0, ?_, ?_, .inl ⟨rfl, rfl⟩⟩
    · rw [List.take_of_length_le (by omega)]
    · rw [List.take_of_length_le (by omega)]; exact h
  rw [if_neg hall]
  obtain ⟨K, hK⟩ : ∃ K, min nums.length ((t + 7) / 8) = K := ⟨_, rfl⟩
  rw [hK]
  by_cases hk : K < nums.length
  · rw [if_pos hk]
    have hKt : (t + 7) / 8 = K := by omega
    obtain ⟨R, hR1, hR2⟩ : ∃ R : Int, room ≤ R ∧ (600 + 15 * nums.length + (Seg.bytesB L).length : Int) ≤ R := ⟨max room (600 + 15 * nums.length + (Seg.bytesB L).length : Int), Int.le_max_left _ _, Int.le_max_right _ _⟩
    obtain ⟨f1, g1, g2, g3⟩ := h.drop (room := R) K hk hR2
    have en : ((partsOf nums).take K).map (·.1) = nums.take K := by rw [parts_take, parts_nums]
    have ed : ((partsOf nums).drop K).map (·.1) = nums.drop K := by rw [List.map_drop, parts_nums]
    rw [en, ed]
    rcases save_or room R next (nums.take K) fs hR1 h.temp with es | es
    · rw [es, g1]
      simp only [ne_eq, not_true_eq_false, if_false]
      have hfirst : firstOf (partsOf nums) K = ((8 * K + 1 : Nat) : Int) := by
        unfold firstOf
        rw [parts_at, List.getElem?_eq_getElem hk]; rfl
      have hst : (stateOf next nums L).upto K = stateOf next (nums.take K) (L.take (8 * K)) := by
        unfold S.upto
        rw [e3, e2, hfirst, parts_take]
        have : (((8 * K + 1 : Nat) : Int) - 1).toNat = 8 * K := by omega
        rw [this, Nat.min_eq_right (by omega)]; rfl
      rw [hst]
      have htl : (nums.take K).length = K := by rw [List.length_take]; omega
      have htt : (L.take (8 * K)).take t = L.take t := by rw [List.take_take, Nat.min_eq_left (by omega)]
      rcases cutF_any room g3 t (by rw [htl]; omega) with ⟨f2, q1, q2⟩ | q
      · rw [htt] at q1 q2
        exact ⟨f2, nums.take K, t, 0, q1, q2, .inl ⟨rfl, rfl⟩⟩
      · exact ⟨_, nums.take K, 8 * K, 8, q, g3, .inr rfl⟩
    · rw [es]
      simp only [if_pos (show (8 : Nat) ≠ 0 by decide)]
      exact ⟨fs, nums, L.length, 8, by rw [hLL], by rw [hLL]; exact h, .inr rfl⟩
  · rw [if_neg hk]
    rcases cutF_any room h t (by omega) with ⟨f2, q1, q2⟩ | q
    · exact ⟨f2, nums, t, 0, q1, q2, .inl ⟨rfl, rfl⟩⟩
    · exact ⟨fs, nums, L.length, 8, by rw [hLL]; exact q, by rw [hLL]; exact h, .inr rfl⟩
end Go.Proofs.YtbknlffebcbjfaaGreatDoor.Lg
