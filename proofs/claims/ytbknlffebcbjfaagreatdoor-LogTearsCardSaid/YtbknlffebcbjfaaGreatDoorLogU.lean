/-
  Plain Lean, no program in sight: what Open makes of a log whose last part was torn by a crash.
-/
import Derived.Test.YtbknlffebcbjfaaGreatDoorLogT
namespace Go.Proofs.YtbknlffebcbjfaaGreatDoor.Lg

theorem crash_total : ∀ (ks : List Int) (fs : List Dk.File), Dk.total (Dk.crash ks fs) ≤ Dk.total fs
  | _, [] => Nat.le_refl _
  | ks, x :: fs => by
    have h1 := Dk.crashed_le (ks.headD 0) x
    have h2 := crash_total ks.tail fs
    rw [Dk.crash, Dk.total, Dk.total]; omega
theorem read_other {fC fH : List Dk.File} {next room : Int} {nums : List Int} {L : List Evt.Entry} (h : Holds fH next nums L) {i : Nat} {n : Int} (hi : nums[i]? = some n) (hl : Dk.look fC (Seg.nameOf n) = some (segF i n L)) :
    readF room n ⟨next, partsOf (nums.take i), L.take (8 * i)⟩ fC = ((fC, ⟨next, partsOf (nums.take (i + 1)), L.take (8 * (i + 1))⟩), true, 0) := by
  have hlt := (List.getElem?_eq_some_iff.1 hi).1
  have hl2 := h.part_load hi
  have e : Seg.loadD n fC = Seg.loadD n fH := by rw [Seg.loadD_look hl, Seg.loadD_look (h.seg i n hi)]
  obtain ⟨g1, g2⟩ := h.part_at hlt
  have hgo : goesOn ⟨((8 * i + 1 : Nat) : Int), chunk i L, false⟩ (L.take (8 * i)) = true := by
    unfold goesOn
    simp only
    rw [g1, decide_eq_true (by omega), Bool.true_and]
    cases hc : chunk i L with
    | nil => rfl
    | cons e l => exact decide_eq_true (g2 e l hc)
  unfold readF
  rw [e, hl2]
  simp only [hgo, and_self, if_true, Bool.false_eq_true, if_false]
  have hs : nums.take (i + 1) = nums.take i ++ [n] := by
    rw [List.take_add_one, hi]; rfl
  have hp := parts_snoc (nums.take i) n
  rw [List.length_take, Nat.min_eq_left (by omega)] at hp
  simp only [S.more, take_next, hp, hs]
theorem reads_upto {fC fH f' : List Dk.File} {next room : Int} {nums : List Int} {L : List Evt.Entry} {s' : S} {i : Nat} (h : Holds fH next nums L) (hi : i ≤ nums.length) (hl : ∀ (j : Nat) (n : Int), j < i → nums[j]? = some n → Dk.look fC (Seg.nameOf n) = some (segF j n L))
    (hr : Reads room (nums.drop i) ⟨next, partsOf (nums.take i), L.take (8 * i)⟩ fC s' f') : ∀ (k j : Nat), j + k = i → Reads room (nums.drop j) ⟨next, partsOf (nums.take j), L.take (8 * j)⟩ fC s' f'
  | 0, j, hk => by
    have : j = i := by omega
    subst this; exact hr
  | k + 1, j, hk => by
    have hlt : j < nums.length := by omega
    have hj : nums[j]? = some nums[j] := List.getElem?_eq_getElem hlt
    rw [List.drop_eq_getElem_cons hlt]
    exact ⟨_, _, read_other (room := room) h hj (hl j _ (by omega) hj), reads_upto h hi hl hr k (j + 1) (by omega)⟩
/-- Open behind a crash that tore the last part. -/
theorem Holds.torn {fs : List Dk.File} {next room : Int} {nums keep : List Int} {L m : List Evt.Entry} {n : Int} (h : Holds fs next nums L) (hn : nums[nums.length - 1]? = some n) (hm : (L ++ m).length ≤ 8 * nums.length) (hfo : Evt.follows (L ++ m) 0 0 = true)
    (hr : (600 + 15 * nums.length + 3 * (Seg.bytesB (L ++ m)).length : Int) ≤ room) :
    ∃ (k : Nat) (f' : List Dk.File), L.length ≤ k ∧ k ≤ (L ++ m).length ∧ Holds f' next nums ((L ++ m).take k) ∧ Man.load (Dk.crash keep (Dk.put ⟨Seg.nameOf n, (segF (nums.length - 1) n (L ++ m)).bytes, (segF (nums.length - 1) n L).bytes.size⟩ fs)) = ((next, nums), 0) ∧
      Reads room nums ⟨next, [], []⟩ (Dk.crash keep (Dk.put ⟨Seg.nameOf n, (segF (nums.length - 1) n (L ++ m)).bytes, (segF (nums.length - 1) n L).bytes.size⟩ fs)) (stateOf next nums ((L ++ m).take k)) f' := by
  obtain ⟨r1, r2, r3, r4⟩ := Man.right_mem h.right
  have hml := h.man_le
  have htot := h.tot
  have hlow := h.low
  have hhigh := h.high
  have hflen := h.len
  have hlt : nums.length - 1 < nums.length := (List.getElem?_eq_some_iff.1 hn).1
  obtain ⟨i, hi⟩ : ∃ i, nums.length - 1 = i := ⟨_, rfl⟩
  rw [hi] at hn hlt ⊢
  have hnl : nums.length = i + 1 := by omega
  have hne : nums ≠ [] := fun e => by rw [e] at hnl; simp at hnl
  have hnr := r4 n (List.mem_of_getElem? hn)
  have hll : (L ++ m).length = L.length + m.length := List.length_append
  have hcm : chunk i (L ++ m) = chunk i L ++ m := by
    rw [chunk_more (by omega) (by omega), List.take_of_length_le (by omega)]
  have hcl : (chunk i L).length = L.length - 8 * i := by
    unfold chunk; rw [List.length_take, List.length_drop]; omega
  obtain ⟨all, hall⟩ : ∃ all, chunk i (L ++ m) = all := ⟨_, rfl⟩
  have halll : all.length = L.length - 8 * i + m.length := by rw [← hall, hcm, List.length_append, hcl]
  obtain ⟨fi, hfi⟩ : ∃ fi : Int, ((8 * i + 1 : Nat) : Int) = fi := ⟨_, rfl⟩
  have hW : (segF i n (L ++ m)).bytes = Seg.whole fi all := by simp only [segF, hall, hfi]
  have hA : (segF i n L).bytes = Seg.whole fi (chunk i L) := by simp only [segF, hfi]
  rw [hW, hA]
  obtain ⟨fT, hfT⟩ : ∃ fT, Dk.put ⟨Seg.nameOf n, Seg.whole fi all, (Seg.whole fi (chunk i L)).size⟩ fs = fT := ⟨_, rfl⟩
  rw [hfT]
  have hfTs : Dk.Sorted fT := by rw [← hfT]; exact Dk.sorted_put _ _ h.sorted
  have lT : Dk.look fT (Seg.nameOf n) = some ⟨Seg.nameOf n, Seg.whole fi all, (Seg.whole fi (chunk i L)).size⟩ := by
    rw [← hfT]; exact Dk.look_put_same ⟨Seg.nameOf n, Seg.whole fi all, (Seg.whole fi (chunk i L)).size⟩ fs
  have lTo : ∀ k, k ≠ Seg.nameOf n → Dk.look fT k = Dk.look fs k := fun k hk => by
    rw [← hfT]; exact Dk.look_put_other ⟨Seg.nameOf n, Seg.whole fi all, (Seg.whole fi (chunk i L)).size⟩ hk fs
  have hTt := Dk.put_total ⟨Seg.nameOf n, Seg.whole fi all, (Seg.whole fi (chunk i L)).size⟩ fs h.sorted
  have hTl := Dk.put_len ⟨Seg.nameOf n, Seg.whole fi all, (Seg.whole fi (chunk i L)).size⟩ fs h.sorted
  rw [hfT] at hTt hTl
  have lseg := h.seg i n hn
  simp only [lseg, Option.isSome_some, if_true] at hTt hTl
  have hct := crash_total keep fT
  have hcn := Dk.crash_len keep fT
  have hcs := Dk.crash_sorted keep fT hfTs
  obtain ⟨ni, hl⟩ := Dk.crash_look keep fT (Seg.nameOf n)
  have lCo : ∀ k, k ≠ Seg.nameOf n → Dk.look (Dk.crash keep fT) k = Dk.look fs k := fun k hk => by
    obtain ⟨nk, hk2⟩ := Dk.crash_look keep fT k
    rw [hk2, lTo k hk]
    cases e : Dk.look fs k with
    | none => rfl
    | some x =>
      simp only [Option.map_some, Option.some.injEq]
      exact Dk.crashed_full nk x (h.synced x (Dk.look_name e).2)
  obtain ⟨fC, hfC⟩ : ∃ fC, Dk.crash keep fT = fC := ⟨_, rfl⟩
  rw [hfC] at hct hcn hcs hl lCo ⊢
  rw [lT] at hl
  simp only [Option.map_some, Dk.crashed] at hl
  obtain ⟨q, hq⟩ : ∃ q, (Seg.whole fi all).extract 0 ((Seg.whole fi (chunk i L)).size + min ni.toNat ((Seg.whole fi all).size - (Seg.whole fi (chunk i L)).size)) = q := ⟨_, rfl⟩
  rw [hq] at hl
  have hf1 : 1 ≤ fi := by omega
  have hf2 : fi ≤ 274877906944 := by omega
  have hw : Seg.whole fi all = Seg.whole fi (chunk i L) ++ ⟨(Seg.bytesB m).toArray⟩ := by rw [← hall, hcm, Seg.whole_append]
  have hszA : (Seg.whole fi (chunk i L)).size = (Seg.bytesH fi).length + (Seg.bytesB (chunk i L)).length := by rw [Lib.size_eq]; simp [Seg.whole]
  have hszW : (Seg.whole fi all).size = (Seg.whole fi (chunk i L)).size + (Seg.bytesB m).length := by rw [hw, ByteArray.size_append, Lib.size_eq ⟨(Seg.bytesB m).toArray⟩]
  have hbH := Seg.bytesH_len fi
  have hqs : q.size = (Seg.whole fi (chunk i L)).size + min ni.toNat ((Seg.whole fi all).size - (Seg.whole fi (chunk i L)).size) := by rw [← hq]; simp; omega
  have hqp : Seg.bytesH fi ++ Seg.bytesB all = q.data.toList ++ (Seg.bytesH fi ++ Seg.bytesB all).drop q.size := by
    have : q.data.toList = (Seg.bytesH fi ++ Seg.bytesB all).take q.size := by
      rw [hqs, ← hq]; simp [ByteArray.data_extract, List.extract_eq_take_drop, Seg.whole]
    rw [this, List.take_append_drop]
  have hqh : (Seg.bytesH fi).length ≤ q.data.toList.length := by rw [← Lib.size_eq, hqs]; omega
  have hfall : Evt.follows all (fi - 1) 0 = true := by
    have hch : Evt.follows (chunk i (L ++ m)) (8 * i : Nat) 0 = true := by
      have e : L ++ m = (L ++ m).take (8 * i) ++ (chunk i (L ++ m) ++ ((L ++ m).drop (8 * i)).drop 8) := by
        unfold chunk; rw [List.take_append_drop, List.take_append_drop]
      have hf := hfo
      rw [e] at hf
      obtain ⟨f1, f2⟩ := (Seg.follows_append _ _ _ _).1 hf
      obtain ⟨g1, g2⟩ := end_pos _ _ _ f1
      have f3 := ((Seg.follows_append _ _ _ _).1 f2).1
      have hl' : ((L ++ m).take (8 * i)).length = 8 * i := by rw [List.length_take]; omega
      rw [g1, hl'] at f3
      have f4 := follows_lower _ _ _ 0 g2 f3
      simpa using f4
    rw [← hall, show fi - 1 = ((8 * i : Nat) : Int) by omega]; exact hch
  obtain ⟨k1, c1, c2, c3⟩ := Seg.load_prefix fi all q.data.toList _ hf1 hf2 hfall hqp hqh
  have hkl : (chunk i L).length ≤ k1 := by
    refine c3 _ (by omega) ?_
    rw [← hall, hcm, List.take_left, ← Lib.size_eq, hqs, List.length_append]; omega
  have htk : (L ++ m).take (8 * i + k1) = L ++ m.take (8 * i + k1 - L.length) := by
    rw [List.take_append, List.take_of_length_le (by omega)]
  obtain ⟨L', hL'⟩ : ∃ L', (L ++ m).take (8 * i + k1) = L' := ⟨_, rfl⟩
  have hL'l : L'.length = 8 * i + k1 := by rw [← hL', List.length_take]; omega
  have hcL' : chunk i L' = all.take k1 := by
    rw [← hL', chunk_last (L ++ m) (by omega), hall, Nat.add_sub_cancel_left]
  obtain ⟨fH, _, hH⟩ := h.add (room := 200 + 15 * nums.length + (Seg.bytesB (L ++ m.take (8 * i + k1 - L.length))).length) (m := m.take (8 * i + k1 - L.length)) (by rw [hi]; exact hn) (by rw [← htk, hL', hL'l]; omega)
    (by
      have hf := hfo
      rw [← List.take_append_drop (8 * i + k1) (L ++ m)] at hf
      rw [← htk]; exact ((Seg.follows_append _ _ _ _).1 hf).1) (Int.le_refl _)
  rw [← htk, hL'] at hH
  have hsame : ∀ j n', j < i → nums[j]? = some n' → segF j n' L' = segF j n' L := fun j n' hj _ => by
    have : chunk j L' = chunk j L := by
      rw [← hL', htk]; exact chunk_same (by omega)
    simp only [segF, this]
  have hothers : ∀ k, k ≠ Seg.nameOf n → Dk.look fC k = Dk.look fH k := fun k hk => by
    rw [lCo k hk]
    by_cases hf : k = Man.file
    · rw [hf, h.man_some hne, hH.man_some hne]
    · by_cases hks : ∀ n ∈ nums, k ≠ Seg.nameOf n
      · rw [h.oth k hf hks, hH.oth k hf hks]
      · have : ∃ n ∈ nums, k = Seg.nameOf n := Classical.byContradiction fun hx => hks (fun n hm e => hx ⟨n, hm, e⟩)
        obtain ⟨n', hm', rfl⟩ := this
        obtain ⟨j, hj⟩ := List.mem_iff_getElem?.1 hm'
        have hjl := (List.getElem?_eq_some_iff.1 hj).1
        have hji : j ≠ i := fun e => by subst e; rw [hn] at hj; cases hj; exact hk rfl
        rw [h.seg j n' hj, hH.seg j n' hj, hsame j n' (by omega) hj]
  have hext : ∀ f' : List Dk.File, Dk.Sorted f' → Dk.look f' (Seg.nameOf n) = some (segF i n L') → (∀ k, k ≠ Seg.nameOf n → Dk.look f' k = Dk.look fC k) → f' = fH := fun f' hs h1 h2 => by
    refine Dk.sorted_ext _ _ hs hH.sorted (fun k => ?_)
    by_cases hk : k = Seg.nameOf n
    · rw [hk, h1, hH.seg i n hn]
    · rw [h2 k hk, hothers k hk]
  have hld : Seg.loadD n fC = (Seg.loaded fi (all.take k1) q.data.toList, 0) := by rw [Seg.loadD_look hl, c2]
  have hman : Man.load fC = ((next, nums), 0) := Man.load_at h.right ((lCo _ (fun e => Man.file_ne_seg n e.symm)).trans (h.man_some hne))
  have hdrop : nums.drop i = [n] := by
    rw [List.drop_eq_getElem_cons (by omega), List.drop_eq_nil_of_le (by omega)]
    rw [List.getElem?_eq_getElem (by omega)] at hn
    rw [Option.some.inj hn]
  obtain ⟨p1, p2⟩ := hH.part_at (i := i) (by omega)
  have hgo : goesOn (Seg.loaded fi (all.take k1) q.data.toList) (L'.take (8 * i)) = true := by
    unfold goesOn Seg.loaded
    simp only
    rw [p1, decide_eq_true (by omega), Bool.true_and, ← hcL']
    cases hc : chunk i L' with
    | nil => rfl
    | cons e l => exact decide_eq_true (p2 e l hc)
  have hstate : S.more ⟨next, partsOf (nums.take i), L'.take (8 * i)⟩ n (Seg.loaded fi (all.take k1) q.data.toList) = stateOf next nums L' := by
    have hs : nums.take (i + 1) = nums.take i ++ [n] := by
      rw [List.take_add_one, hn]; rfl
    have hp := parts_snoc (nums.take i) n
    have hfull : nums.take (i + 1) = nums := List.take_of_length_le (by omega)
    have hfull2 : L'.take (8 * (i + 1)) = L' := List.take_of_length_le (by omega)
    rw [List.length_take, Nat.min_eq_left (by omega), hfi, ← hs, hfull] at hp
    simp only [S.more, Seg.loaded, hp, ← hcL', take_next, stateOf, hfull2]
  have hlast : ∀ f', readF room n ⟨next, partsOf (nums.take i), L'.take (8 * i)⟩ fC = ((f', stateOf next nums L'), true, 0) → f' = fH →
      ∃ (k : Nat) (f' : List Dk.File), L.length ≤ k ∧ k ≤ (L ++ m).length ∧ Holds f' next nums ((L ++ m).take k) ∧ Man.load fC = ((next, nums), 0) ∧ Reads room nums ⟨next, [], []⟩ fC (stateOf next nums ((L ++ m).take k)) f' := by
    intro f' hrd hf'
    refine ⟨8 * i + k1, f', by omega, by omega, by rw [hL', hf']; exact hH, hman, ?_⟩
    rw [hL']
    have := reads_upto (s' := stateOf next nums L') (f' := f') (room := room) hH (show i ≤ nums.length by omega) (fun j n' hj hj2 => by
      have hkn : Seg.nameOf n' ≠ Seg.nameOf n := fun e => by
        have := name_of h.right (List.mem_of_getElem? hj2) (List.mem_of_getElem? hn) e
        subst this
        have := right_inj h.right hj2 hn
        omega
      rw [lCo _ hkn, h.seg j n' hj2, hsame j n' hj hj2]) (by rw [hdrop]; exact ⟨_, _, hrd, rfl, rfl⟩) i 0 (by omega)
    simpa [partsOf] using this
  cases ht : (Seg.loaded fi (all.take k1) q.data.toList).torn with
  | false =>
    have hqw : q = Seg.whole fi (all.take k1) := by
      have := Seg.load_torn (s := q.data.toList) (by rw [c2]) (by rw [c2]; exact ht)
      rw [c2] at this
      simp only [Seg.loaded] at this
      apply ByteArray.ext
      apply Array.toList_inj.1
      rw [this]; simp [Seg.whole]
    refine hlast fC ?_ (hext fC hcs ?_ (fun _ _ => rfl))
    · unfold readF
      rw [hld]
      simp only
      rw [if_pos ⟨trivial, hgo⟩, if_neg (by rw [ht]; simp), hstate]
    · rw [hl, hqw]
      simp only [segF, hfi, hcL']
  | true =>
    have hk2 : Seg.keepN ((Seg.loaded fi (all.take k1) q.data.toList).first + (Seg.loaded fi (all.take k1) q.data.toList).entries.length - 1) (Seg.loaded fi (all.take k1) q.data.toList).entries = (Seg.loaded fi (all.take k1) q.data.toList).entries.length := by
      have hf3 : Evt.follows (all.take k1) (fi - 1) 0 = true := by
        have hf := hfall
        rw [← List.take_append_drop k1 all] at hf
        exact ((Seg.follows_append _ _ _ _).1 hf).1
      simp only [Seg.loaded]
      rw [keepN_follows _ _ 0 _ hf3]; omega
    have hws : (Seg.whole fi (all.take k1)).size ≤ (Seg.whole fi all).size := by
      have e := Seg.bytesB_append (all.take k1) (all.drop k1)
      rw [List.take_append_drop] at e
      rw [Lib.size_eq, Lib.size_eq]
      simp only [Seg.whole, List.length_append]
      rw [e, List.length_append]; omega
    have hbc : (Seg.bytesB (chunk i L)).length + (Seg.bytesB m).length ≤ (Seg.bytesB (L ++ m)).length := by
      have e : L = L.take (8 * i) ++ chunk i L := by
        have e : (L.drop (8 * i)).take 8 = L.drop (8 * i) := List.take_of_length_le (by rw [List.length_drop]; omega)
        unfold chunk; rw [e, List.take_append_drop]
      have e2 : (Seg.bytesB L).length = (Seg.bytesB (L.take (8 * i))).length + (Seg.bytesB (chunk i L)).length := by
        have := congrArg (fun l => (Seg.bytesB l).length) e
        simp only [Seg.bytesB_append, List.length_append] at this
        exact this
      rw [Seg.bytesB_append, List.length_append]; omega
    have hbL : (Seg.bytesB L).length ≤ (Seg.bytesB (L ++ m)).length := bytesB_mono L m
    have htemp : Dk.look fC Seg.temp = none := by rw [lCo _ (fun e => Seg.temp_ne n e.symm)]; exact h.temp
    have hcut := Seg.cut_new (room := room) (n := n) (last := (Seg.loaded fi (all.take k1) q.data.toList).first + (Seg.loaded fi (all.take k1) q.data.toList).entries.length - 1) (s := Seg.whole fi (all.take k1)) (by omega) (by omega) hcs hld (by rw [ht]; simp) htemp (by omega)
      (by rw [hk2]; simp only [Seg.loaded, List.take_length, Seg.whole]) (by omega)
    have hfile : (⟨Seg.nameOf n, Seg.whole fi (all.take k1), (Seg.whole fi (all.take k1)).size⟩ : Dk.File) = segF i n L' := by simp only [segF, hfi, hcL']
    rw [hfile] at hcut
    refine hlast (Dk.put (segF i n L') fC) ?_ (hext _ (Dk.sorted_put _ _ hcs) (Dk.look_put_same (segF i n L') fC) (fun k hk => Dk.look_put_other (segF i n L') hk fC))
    unfold readF
    rw [hld]
    simp only
    rw [if_pos ⟨trivial, hgo⟩, if_pos ht, hcut]
    simp only [if_true, hstate]
end Go.Proofs.YtbknlffebcbjfaaGreatDoor.Lg
