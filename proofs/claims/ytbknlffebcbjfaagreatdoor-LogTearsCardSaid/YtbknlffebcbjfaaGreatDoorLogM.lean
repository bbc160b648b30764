/-
  Plain Lean, no program in sight: what a log's functions do (layer 11), whatever is on the disk; and what they do with a disk that holds a log.
-/
import Derived.Test.YtbknlffebcbjfaaGreatDoorLogA
import Derived.Test.YtbknlffebcbjfaaGreatDoorMarkA
namespace Go.Proofs.YtbknlffebcbjfaaGreatDoor.Lg

structure S where
  next : Int
  parts : List (Int × Int)
  es : List Evt.Entry
def S.nums (s : S) : List Int := s.parts.map (·.1)
def epochOf (es : List Evt.Entry) : Int := (Seg.endOf 0 0 es).2
def goesOn (g : Seg.Seg) (es : List Evt.Entry) : Bool :=
  decide (g.first = (es.length : Int) + 1) && (match g.entries with | [] => true | e :: _ => decide (epochOf es ≤ e.epoch))
def S.more (s : S) (n : Int) (g : Seg.Seg) : S := ⟨s.next, s.parts ++ [(n, g.first)], s.es ++ g.entries⟩
def readF (room n : Int) (s : S) (fs : List Dk.File) : (List Dk.File × S) × Bool × Nat :=
  if (Seg.loadD n fs).2 = 0 ∧ goesOn (Seg.loadD n fs).1 s.es = true then
    if (Seg.loadD n fs).1.torn = true then
      if (Seg.cutD room n ((Seg.loadD n fs).1.first + (Seg.loadD n fs).1.entries.length - 1) fs).2 = 0 then (((Seg.cutD room n ((Seg.loadD n fs).1.first + (Seg.loadD n fs).1.entries.length - 1) fs).1, s.more n (Seg.loadD n fs).1), true, 0)
      else (((Seg.cutD room n ((Seg.loadD n fs).1.first + (Seg.loadD n fs).1.entries.length - 1) fs).1, s), false, (Seg.cutD room n ((Seg.loadD n fs).1.first + (Seg.loadD n fs).1.entries.length - 1) fs).2)
    else ((fs, s.more n (Seg.loadD n fs).1), true, 0)
  else ((fs, s), false, 0)
def readsF (room : Int) : List Int → S → List Dk.File → (List Dk.File × S) × Nat
  | [], s, fs => ((fs, s), 0)
  | n :: l, s, fs =>
    if (readF room n s fs).2.2 ≠ 0 then ((readF room n s fs).1, (readF room n s fs).2.2)
    else if (readF room n s fs).2.1 = true then readsF room l (readF room n s fs).1.2 (readF room n s fs).1.1 else ((readF room n s fs).1, 0)
def goneN (nums : List Int) (k : List UInt8) : Bool := k == Seg.temp || (decide (0 < Seg.numberOf k) && !nums.contains (Seg.numberOf k))
def cleanF (nums : List Int) : List (List UInt8) → List Dk.File → List Dk.File
  | [], fs => fs
  | k :: ks, fs => cleanF nums ks (if goneN nums k = true then (Dk.delete k fs).1 else fs)
def keptF (room : Int) (many : Nat) (s : S) (fs : List Dk.File) : List Dk.File × Nat := if s.parts.length < many then Man.save room s.next s.nums fs else (fs, 0)
def doneF (c : List Dk.File × Nat) (s : S) : (List Dk.File × S) × Nat := if c.2 ≠ 0 then ((c.1, s), c.2) else ((cleanF s.nums (c.1.map (·.name)) c.1, s), 0)
def openF (room : Int) (fs : List Dk.File) : (List Dk.File × S) × Nat :=
  if (Man.load fs).2 ≠ 0 then ((fs, ⟨0, [], []⟩), (Man.load fs).2) else
  if (readsF room (Man.load fs).1.2 ⟨(Man.load fs).1.1, [], []⟩ fs).2 ≠ 0 then readsF room (Man.load fs).1.2 ⟨(Man.load fs).1.1, [], []⟩ fs else
  doneF (keptF room (Man.load fs).1.2.length (readsF room (Man.load fs).1.2 ⟨(Man.load fs).1.1, [], []⟩ fs).1.2 (readsF room (Man.load fs).1.2 ⟨(Man.load fs).1.1, [], []⟩ fs).1.1) (readsF room (Man.load fs).1.2 ⟨(Man.load fs).1.1, [], []⟩ fs).1.2
def newF (room : Int) (s : S) (fs : List Dk.File) : (List Dk.File × S) × Int × Nat :=
  if 30 ≤ s.parts.length then ((fs, s), 0, 4) else
  if (Seg.create room s.next ((s.es.length : Int) + 1) fs).2 ≠ 0 then (((Seg.create room s.next ((s.es.length : Int) + 1) fs).1, s), 0, (Seg.create room s.next ((s.es.length : Int) + 1) fs).2) else
  if (Man.save room (s.next + 1) (s.nums ++ [s.next]) (Seg.create room s.next ((s.es.length : Int) + 1) fs).1).2 ≠ 0 then
    (((Dk.delete (Seg.nameOf s.next) (Man.save room (s.next + 1) (s.nums ++ [s.next]) (Seg.create room s.next ((s.es.length : Int) + 1) fs).1).1).1, s), 0, (Man.save room (s.next + 1) (s.nums ++ [s.next]) (Seg.create room s.next ((s.es.length : Int) + 1) fs).1).2)
  else (((Man.save room (s.next + 1) (s.nums ++ [s.next]) (Seg.create room s.next ((s.es.length : Int) + 1) fs).1).1, ⟨s.next + 1, s.parts ++ [(s.next, (s.es.length : Int) + 1)], s.es⟩), 8, 0)
def roomF (room : Int) (s : S) (fs : List Dk.File) : (List Dk.File × S) × Int × Nat :=
  match s.parts.getLast? with
  | none => newF room s fs
  | some p => if (s.es.length : Int) + 1 - p.2 < 8 then ((fs, s), 8 - ((s.es.length : Int) + 1 - p.2), 0) else newF room s fs
def lastN (s : S) : Int := match s.parts.getLast? with | none => 0 | some p => p.1
def S.plus (s : S) (m : List Evt.Entry) : S := ⟨s.next, s.parts, s.es ++ m⟩
def appF (room : Int) : Nat → List Evt.Entry → S → List Dk.File → (List Dk.File × S) × Nat
  | 0, _, s, fs => ((fs, s), 0)
  | k + 1, e, s, fs =>
    if e = [] then ((fs, s), 0) else
    if (roomF room s fs).2.2 ≠ 0 then ((roomF room s fs).1, (roomF room s fs).2.2) else
    if (Seg.addD room (lastN (roomF room s fs).1.2) (e.take (min (roomF room s fs).2.1.toNat e.length)) (roomF room s fs).1.1).2 ≠ 0 then
      (((Seg.addD room (lastN (roomF room s fs).1.2) (e.take (min (roomF room s fs).2.1.toNat e.length)) (roomF room s fs).1.1).1, (roomF room s fs).1.2), (Seg.addD room (lastN (roomF room s fs).1.2) (e.take (min (roomF room s fs).2.1.toNat e.length)) (roomF room s fs).1.1).2)
    else appF room k (e.drop (min (roomF room s fs).2.1.toNat e.length)) ((roomF room s fs).1.2.plus (e.take (min (roomF room s fs).2.1.toNat e.length))) (Seg.addD room (lastN (roomF room s fs).1.2) (e.take (min (roomF room s fs).2.1.toNat e.length)) (roomF room s fs).1.1).1
def appendF (room : Int) (e : List Evt.Entry) (s : S) (fs : List Dk.File) : (List Dk.File × S) × Nat :=
  if Evt.follows e s.es.length (epochOf s.es) = true then appF room e.length e s fs else ((fs, s), 11)
/-- The first part behind a place; how many stay. -/
def keepP (last : Int) (ps : List (Int × Int)) : Nat := (ps.takeWhile fun p => decide (p.2 ≤ last)).length
def firstOf (ps : List (Int × Int)) (k : Nat) : Int := match ps[k]? with | none => 0 | some p => p.2
def cutF (room last : Int) (s : S) (fs : List Dk.File) : (List Dk.File × S) × Nat :=
  match s.parts.getLast? with
  | none => ((fs, ⟨s.next, s.parts, s.es.take (min s.es.length last.toNat)⟩), 0)
  | some p => if (Seg.cutD room p.1 last fs).2 ≠ 0 then (((Seg.cutD room p.1 last fs).1, s), (Seg.cutD room p.1 last fs).2)
    else (((Seg.cutD room p.1 last fs).1, ⟨s.next, s.parts, s.es.take (min s.es.length last.toNat)⟩), 0)
def S.upto (s : S) (k : Nat) : S := ⟨s.next, s.parts.take k, s.es.take (min s.es.length (firstOf s.parts k - 1).toNat)⟩
def truncF (room last : Int) (s : S) (fs : List Dk.File) : (List Dk.File × S) × Nat :=
  if last < 0 then ((fs, s), 1) else if (s.es.length : Int) ≤ last then ((fs, s), 0) else
  if keepP last s.parts < s.parts.length then
    if (Man.save room s.next ((s.parts.take (keepP last s.parts)).map (·.1)) fs).2 ≠ 0 then (((Man.save room s.next ((s.parts.take (keepP last s.parts)).map (·.1)) fs).1, s), (Man.save room s.next ((s.parts.take (keepP last s.parts)).map (·.1)) fs).2)
    else cutF room last (s.upto (keepP last s.parts)) (dels ((s.parts.drop (keepP last s.parts)).map (·.1)) (Man.save room s.next ((s.parts.take (keepP last s.parts)).map (·.1)) fs).1)
  else cutF room last s fs

/-! ### On a disk that holds a log. -/
def partsOf (nums : List Int) : List (Int × Int) := nums.zipIdx.map fun p => (p.1, ((8 * p.2 + 1 : Nat) : Int))
def stateOf (next : Int) (nums : List Int) (L : List Evt.Entry) : S := ⟨next, partsOf nums, L⟩
theorem parts_nums (nums : List Int) : (partsOf nums).map (·.1) = nums := by
  unfold partsOf
  rw [List.map_map]
  exact List.zipIdx_map_fst 0 nums
theorem parts_len (nums : List Int) : (partsOf nums).length = nums.length := by simp [partsOf]
theorem parts_at (nums : List Int) (i : Nat) : (partsOf nums)[i]? = nums[i]?.map fun n => (n, ((8 * i + 1 : Nat) : Int)) := by
  simp [partsOf, List.getElem?_zipIdx]
  rfl
theorem parts_take (nums : List Int) (k : Nat) : (partsOf nums).take k = partsOf (nums.take k) := by
  apply List.ext_getElem?
  intro i
  rw [parts_at, List.getElem?_take, List.getElem?_take, parts_at]
  split <;> rfl
theorem parts_snoc (nums : List Int) (n : Int) : partsOf nums ++ [(n, ((8 * nums.length + 1 : Nat) : Int))] = partsOf (nums ++ [n]) := by
  simp [partsOf, List.zipIdx_append]
theorem read_part {fs : List Dk.File} {next room : Int} {nums : List Int} {L : List Evt.Entry} (h : Holds fs next nums L) {i : Nat} {n : Int} (hi : nums[i]? = some n) :
    readF room n ⟨next, partsOf (nums.take i), L.take (8 * i)⟩ fs = ((fs, ⟨next, partsOf (nums.take (i + 1)), L.take (8 * (i + 1))⟩), true, 0) := by
  have hlt := (List.getElem?_eq_some_iff.1 hi).1
  have hl := h.part_load hi
  obtain ⟨g1, g2⟩ := h.part_at hlt
  have hgo : goesOn ⟨((8 * i + 1 : Nat) : Int), chunk i L, false⟩ (L.take (8 * i)) = true := by
    unfold goesOn
    simp only
    rw [g1, decide_eq_true (by omega), Bool.true_and]
    cases hc : chunk i L with
    | nil => rfl
    | cons e l => exact decide_eq_true (g2 e l hc)
  unfold readF
  rw [hl]
  simp only [hgo, and_self, if_true, Bool.false_eq_true, if_false]
  have hs : nums.take (i + 1) = nums.take i ++ [n] := by
    rw [List.take_add_one, hi]; rfl
  have hp := parts_snoc (nums.take i) n
  rw [List.length_take, Nat.min_eq_left (by omega)] at hp
  simp only [S.more, take_next, hp, hs]
theorem reads_parts {fs : List Dk.File} {next room : Int} {nums : List Int} {L : List Evt.Entry} (h : Holds fs next nums L) : ∀ (k i : Nat), i + k = nums.length →
    readsF room (nums.drop i) ⟨next, partsOf (nums.take i), L.take (8 * i)⟩ fs = ((fs, stateOf next nums L), 0)
  | 0, i, hk => by
    have e : i = nums.length := by omega
    subst e
    rw [List.drop_length, List.take_length, h.take_all]; rfl
  | k + 1, i, hk => by
    have hlt : i < nums.length := by omega
    have hi : nums[i]? = some nums[i] := List.getElem?_eq_getElem hlt
    have hr := read_part (room := room) h hi
    rw [List.drop_eq_getElem_cons hlt, readsF, hr]
    simp only [ne_eq, not_true_eq_false, if_false, if_true]
    exact reads_parts h k (i + 1) (by omega)
theorem clean_same {nums : List Int} : ∀ (ks : List (List UInt8)) (fs : List Dk.File), (∀ k ∈ ks, goneN nums k = false) → cleanF nums ks fs = fs
  | [], _, _ => rfl
  | k :: ks, fs, h => by
    rw [cleanF, h k (by simp)]
    exact clean_same ks fs (fun j hj => h j (by simp [hj]))
/-- Open on a disk that holds a log finds it, and changes nothing. -/
theorem Holds.openF {fs : List Dk.File} {next room : Int} {nums : List Int} {L : List Evt.Entry} (h : Holds fs next nums L) : openF room fs = ((fs, stateOf next nums L), 0) := by
  have hr := reads_parts (room := room) h nums.length 0 (by omega)
  have e0 : partsOf (nums.take 0) = [] := rfl
  have e1 : L.take (8 * 0) = [] := rfl
  rw [e0, e1, List.drop_zero] at hr
  unfold Lg.openF
  rw [h.man_load]
  simp only
  rw [hr]
  have hp : (stateOf next nums L).parts.length = nums.length := parts_len nums
  have hn : (stateOf next nums L).nums = nums := parts_nums nums
  simp only [ne_eq, not_true_eq_false, if_false, keptF, hp, Nat.lt_irrefl, doneF, hn]
  rw [clean_same]
  intro k hk
  obtain ⟨x, hx, rfl⟩ := List.mem_map.1 hk
  obtain ⟨q1, q2⟩ := h.names x hx
  unfold goneN
  rw [beq_eq_false_iff_ne.2 q1, Bool.false_or]
  rcases q2 with q2 | q2
  · rw [q2]; rfl
  · rw [show nums.contains (Seg.numberOf x.name) = true by simpa using q2]; simp
/-- How a disk that holds a log is used at most, by what is on it. -/
def roomy (room : Int) (nums : List Int) (L : List Evt.Entry) : Prop := (800 + 15 * (nums.length + 1) + 2 * (Seg.bytesB L).length + 15 : Int) ≤ room
theorem getLast_at {α : Type} (l : List α) : l.getLast? = l[l.length - 1]? := List.getLast?_eq_getElem?
theorem parts_last {nums : List Int} : (partsOf nums).getLast? = (nums[nums.length - 1]?).map fun n => (n, ((8 * (nums.length - 1) + 1 : Nat) : Int)) := by
  rw [getLast_at, parts_len, parts_at]
/-- Room for entries: the last part's, or a new one's. -/
theorem Holds.room {fs : List Dk.File} {next room : Int} {nums : List Int} {L : List Evt.Entry} (h : Holds fs next nums L) (h30 : L.length < 240) (hn : next < 1073741824) (hr : roomy room nums L) :
    ∃ f2 next2 nums2 k, roomF room (stateOf next nums L) fs = ((f2, stateOf next2 nums2 L), ((k : Nat) : Int), 0) ∧ Holds f2 next2 nums2 L ∧ 1 ≤ k ∧ L.length + k = 8 * nums2.length ∧ next2 ≤ next + 1 ∧ nums2.length ≤ L.length / 8 + 1 ∧ nums2 ≠ [] := by
  unfold roomy at hr
  have hlow := h.low
  have hhigh := h.high
  have hrm := Man.right_mem h.right
  unfold roomF
  have hnew : L.length = 8 * nums.length → ∃ f2 next2 nums2 k, newF room (stateOf next nums L) fs = ((f2, stateOf next2 nums2 L), ((k : Nat) : Int), 0) ∧ Holds f2 next2 nums2 L ∧ 1 ≤ k ∧ L.length + k = 8 * nums2.length ∧ next2 ≤ next + 1 ∧ nums2.length ≤ L.length / 8 + 1 ∧ nums2 ≠ [] := by
    intro he
    obtain ⟨f1, f2, g1, g2, g3⟩ := h.grow (room := room) he (by omega) hn (by omega)
    refine ⟨f2, next + 1, nums ++ [next], 8, ?_, g3, by omega, by simp; omega, Int.le_refl _, by simp; omega, by simp⟩
    have hp : (stateOf next nums L).parts.length = nums.length := parts_len nums
    have hnn : (stateOf next nums L).nums = nums := parts_nums nums
    unfold newF
    rw [hp, hnn, if_neg (by omega)]
    have e1 : (stateOf next nums L).next = next := rfl
    have e2 : (stateOf next nums L).es = L := rfl
    rw [e1, e2, g1]
    simp only [ne_eq, not_true_eq_false, if_false]
    rw [g2]
    simp only [not_true_eq_false, if_false]
    have hps := parts_snoc nums next
    rw [show ((8 * nums.length + 1 : Nat) : Int) = (L.length : Int) + 1 by omega] at hps
    have e3 : (stateOf next nums L).parts = partsOf nums := rfl
    rw [e3, hps]; rfl
  have e3 : (stateOf next nums L).parts = partsOf nums := rfl
  have e2 : (stateOf next nums L).es = L := rfl
  rw [e3, parts_last]
  cases hl : nums[nums.length - 1]? with
  | none =>
    have hz : nums = [] := by
      rw [List.getElem?_eq_none_iff] at hl
      exact List.eq_nil_of_length_eq_zero (by omega)
    simp only [Option.map_none]
    exact hnew (by rw [h.lo hz, hz]; rfl)
  | some n =>
    have hlt := (List.getElem?_eq_some_iff.1 hl).1
    simp only [Option.map_some, e2]
    by_cases hlt8 : (L.length : Int) + 1 - ((8 * (nums.length - 1) + 1 : Nat) : Int) < 8
    · rw [if_pos hlt8]
      refine ⟨fs, next, nums, 8 * nums.length - L.length, ?_, h, by omega, by omega, by omega, by omega, fun e => by rw [e] at hlt; simp at hlt⟩
      congr 2
      omega
    · rw [if_neg hlt8]
      exact hnew (by omega)
theorem lastN_of {next : Int} {nums : List Int} {L : List Evt.Entry} {n : Int} (h : nums[nums.length - 1]? = some n) : lastN (stateOf next nums L) = n := by
  have e3 : (stateOf next nums L).parts = partsOf nums := rfl
  unfold lastN
  rw [e3, parts_last, h]; rfl
theorem bytesB_mono (a b : List Evt.Entry) : (Seg.bytesB a).length ≤ (Seg.bytesB (a ++ b)).length := by
  rw [Seg.bytesB_append, List.length_append]; omega
/-- Append on a disk that holds a log, with room: it holds them all. -/
theorem app_holds {room : Int} : ∀ (k : Nat) (e : List Evt.Entry) (fs : List Dk.File) (next : Int) (nums : List Int) (L : List Evt.Entry), e.length ≤ k → Holds fs next nums L → Evt.follows (L ++ e) 0 0 = true → (L ++ e).length ≤ 240 → next + e.length < 1073741824 →
    (1600 + 2 * (Seg.bytesB (L ++ e)).length : Int) ≤ room → nums.length ≤ (L.length + 7) / 8 + 1 →
    ∃ f2 next2 nums2, appF room k e (stateOf next nums L) fs = ((f2, stateOf next2 nums2 (L ++ e)), 0) ∧ Holds f2 next2 nums2 (L ++ e) ∧ next2 ≤ next + e.length ∧ nums2.length ≤ max nums.length (((L ++ e).length + 7) / 8)
  | 0, e, fs, next, nums, L, hk, h, hf, h240, hn, hr, hnl => by
    have : e = [] := List.eq_nil_of_length_eq_zero (by omega)
    subst this
    rw [List.append_nil]
    exact ⟨fs, next, nums, rfl, h, by simp, Nat.le_max_left _ _⟩
  | k + 1, e, fs, next, nums, L, hk, h, hf, h240, hn, hr, hnl => by
    rw [appF]
    by_cases he : e = []
    · subst he
      rw [if_pos rfl, List.append_nil]
      exact ⟨fs, next, nums, rfl, h, by simp, Nat.le_max_left _ _⟩
    have hlen : 0 < e.length := List.length_pos_iff.2 he
    rw [if_neg he]
    have hll : (L ++ e).length = L.length + e.length := List.length_append
    have hb1 := bytesB_mono L e
    have h30 := (Man.right_mem h.right).2.2.1
    obtain ⟨f1, next1, nums1, m, hrf, h1, hm1, hm2, hm3, hm4, hm5⟩ := h.room (room := room) (by omega) (by omega) (by unfold roomy; omega)
    rw [hrf]
    simp only [ne_eq, not_true_eq_false, if_false, Int.toNat_natCast]
    have h31 := (Man.right_mem h1.right).2.2.1
    have hlt1 : nums1.length - 1 < nums1.length := by
      have := List.length_pos_iff.2 hm5; omega
    have hgl : nums1[nums1.length - 1]? = some nums1[nums1.length - 1] := List.getElem?_eq_getElem hlt1
    rw [lastN_of hgl]
    obtain ⟨c, hc⟩ : ∃ c, min m e.length = c := ⟨_, rfl⟩
    rw [hc]
    have eL : L ++ e = (L ++ e.take c) ++ e.drop c := by rw [List.append_assoc, List.take_append_drop]
    have htl : (e.take c).length = c := by rw [List.length_take]; omega
    have hdl : (e.drop c).length = e.length - c := List.length_drop
    have hfo : Evt.follows (L ++ e.take c) 0 0 = true := by
      rw [eL] at hf
      exact ((Seg.follows_append _ _ _ _).1 hf).1
    have hb2 := bytesB_mono (L ++ e.take c) (e.drop c)
    rw [← eL] at hb2
    have hlc : (L ++ e.take c).length = L.length + c := by rw [List.length_append, htl]
    obtain ⟨f2, ha, h2⟩ := h1.add (room := room) (m := e.take c) hgl (by omega) hfo (by omega)
    rw [ha]
    simp only [not_true_eq_false, if_false]
    have hst : (stateOf next1 nums1 L).plus (e.take c) = stateOf next1 nums1 (L ++ e.take c) := rfl
    rw [hst]
    obtain ⟨f3, next3, nums3, q1, q2, q3, q4⟩ := app_holds k (e.drop c) f2 next1 nums1 (L ++ e.take c) (by omega) h2 (by rw [← eL]; exact hf) (by rw [← eL]; omega) (by omega) (by rw [← eL]; omega) (by omega)
    rw [← eL] at q1 q2 q4
    exact ⟨f3, next3, nums3, q1, q2, by omega, by omega⟩
theorem end_at {L : List Evt.Entry} (h : Evt.follows L 0 0 = true) : Seg.endOf 0 0 L = ((L.length : Int), epochOf L) := by
  have := (end_pos L 0 0 h).1
  exact Prod.ext (by rw [this]; omega) rfl
theorem follows_on {L e : List Evt.Entry} (h : Evt.follows L 0 0 = true) : Evt.follows (L ++ e) 0 0 = true ↔ Evt.follows e L.length (epochOf L) = true := by
  rw [Seg.follows_append, end_at h]
  exact ⟨fun h => h.2, fun h2 => ⟨h, h2⟩⟩
theorem Holds.append {fs : List Dk.File} {next room : Int} {nums : List Int} {L : List Evt.Entry} (h : Holds fs next nums L) (e : List Evt.Entry) (hf : Evt.follows (L ++ e) 0 0 = true) (h240 : (L ++ e).length ≤ 240) (hn : next + e.length < 1073741824)
    (hr : (1600 + 2 * (Seg.bytesB (L ++ e)).length : Int) ≤ room) : ∃ f2 next2 nums2, appendF room e (stateOf next nums L) fs = ((f2, stateOf next2 nums2 (L ++ e)), 0) ∧ Holds f2 next2 nums2 (L ++ e) ∧ next2 ≤ next + e.length ∧ nums2.length ≤ max nums.length (((L ++ e).length + 7) / 8) := by
  have e2 : (stateOf next nums L).es = L := rfl
  unfold appendF
  rw [e2, if_pos ((follows_on h.fol).1 hf)]
  have := h.low
  exact app_holds e.length e fs next nums L (Nat.le_refl _) h hf h240 hn hr (by omega)
/-! Truncate. -/
theorem keep_parts (t : Nat) : ∀ (nums : List Int) (i : Nat), (((nums.zipIdx i).map fun p => (p.1, ((8 * p.2 + 1 : Nat) : Int))).takeWhile fun p => decide (p.2 ≤ (t : Int))).length = min nums.length ((t + 7) / 8 - i)
  | [], _ => by simp
  | n :: l, i => by
    have ih := keep_parts t l (i + 1)
    rw [List.zipIdx_cons, List.map_cons, List.takeWhile_cons]
    by_cases h : ((8 * i + 1 : Nat) : Int) ≤ (t : Int)
    · rw [if_pos (decide_eq_true h), List.length_cons, List.length_cons, ih]; omega
    · rw [if_neg (by simpa using h), List.length_nil, List.length_cons]; omega
theorem keepP_of (t : Nat) (nums : List Int) : keepP (t : Int) (partsOf nums) = min nums.length ((t + 7) / 8) := keep_parts t nums 0
theorem cutF_holds {fs : List Dk.File} {next room : Int} {nums : List Int} {L : List Evt.Entry} (h : Holds fs next nums L) (t : Nat) (hlo : 8 * (nums.length - 1) ≤ t) (hr : (300 + 15 * nums.length + 2 * (Seg.bytesB L).length + 15 : Int) ≤ room) :
    ∃ f, cutF room (t : Int) (stateOf next nums L) fs = ((f, stateOf next nums (L.take t)), 0) ∧ Holds f next nums (L.take t) := by
  have e3 : (stateOf next nums L).parts = partsOf nums := rfl
  have e2 : (stateOf next nums L).es = L := rfl
  have hmin : L.take (min L.length t) = L.take t := by
    by_cases h : L.length ≤ t
    · rw [Nat.min_eq_left h, List.take_length, List.take_of_length_le h]
    · rw [Nat.min_eq_right (by omega)]
  unfold cutF
  rw [e3, parts_last, e2, Int.toNat_natCast, hmin]
  cases hl : nums[nums.length - 1]? with
  | none =>
    have hz : nums = [] := by
      rw [List.getElem?_eq_none_iff] at hl
      exact List.eq_nil_of_length_eq_zero (by omega)
    refine ⟨fs, rfl, ?_⟩
    have hL := h.lo hz
    subst hL
    rw [List.take_nil]; exact h
  | some n =>
    obtain ⟨f, hc, hh⟩ := h.cut (room := room) hl t hlo hr
    simp only [Option.map_some]
    rw [hc]
    exact ⟨f, rfl, hh⟩
/-- Truncate on a disk that holds a log: it holds what is up to the place. -/
theorem Holds.trunc {fs : List Dk.File} {next room : Int} {nums : List Int} {L : List Evt.Entry} (h : Holds fs next nums L) (t : Nat) (hr : (1600 + 2 * (Seg.bytesB L).length : Int) ≤ room) :
    ∃ f nums2, truncF room (t : Int) (stateOf next nums L) fs = ((f, stateOf next nums2 (L.take t)), 0) ∧ Holds f next nums2 (L.take t) ∧ nums2.length ≤ nums.length ∧ (t ≤ L.length → nums2.length ≤ (t + 7) / 8 ∨ nums2.length = nums.length ∧ L.length = t) := by
  have e3 : (stateOf next nums L).parts = partsOf nums := rfl
  have e2 : (stateOf next nums L).es = L := rfl
  have e1 : (stateOf next nums L).next = next := rfl
  have h30 := (Man.right_mem h.right).2.2.1
  have hhigh := h.high
  have hlow := h.low
  unfold truncF
  rw [if_neg (by omega), e2, e3, e1, keepP_of, parts_len]
  by_cases hall : (L.length : Int) ≤ (t : Int)
  · rw [if_pos hall, List.take_of_length_le (by omega)]
    exact ⟨fs, nums, rfl, h, Nat.le_refl _, fun _ => .inr ⟨rfl, by omega⟩⟩
  rw [if_neg hall]
  obtain ⟨K, hK⟩ : ∃ K, min nums.length ((t + 7) / 8) = K := ⟨_, rfl⟩
  rw [hK]
  by_cases hk : K < nums.length
  · rw [if_pos hk]
    have hKt : (t + 7) / 8 = K := by omega
    obtain ⟨f1, g1, g2, g3⟩ := h.drop (room := room) K hk (by omega)
    have en : ((partsOf nums).take K).map (·.1) = nums.take K := by rw [parts_take, parts_nums]
    have ed : ((partsOf nums).drop K).map (·.1) = nums.drop K := by rw [List.map_drop, parts_nums]
    rw [en, ed, g1]
    simp only [ne_eq, not_true_eq_false, if_false]
    have hfirst : firstOf (partsOf nums) K = ((8 * K + 1 : Nat) : Int) := by
      unfold firstOf
      rw [parts_at, List.getElem?_eq_getElem hk]; rfl
    have hst : (stateOf next nums L).upto K = stateOf next (nums.take K) (L.take (8 * K)) := by
      unfold S.upto
      rw [e3, e2, hfirst, parts_take]
      have : (((8 * K + 1 : Nat) : Int) - 1).toNat = 8 * K := by omega
      rw [this, Nat.min_eq_right (by omega)]; rfl
    rw [hst]
    have htl : (nums.take K).length = K := by rw [List.length_take]; omega
    have hbl : (Seg.bytesB (L.take (8 * K))).length ≤ (Seg.bytesB L).length := by
      have := bytesB_mono (L.take (8 * K)) (L.drop (8 * K))
      rwa [List.take_append_drop] at this
    obtain ⟨f2, q1, q2⟩ := cutF_holds (room := room) g3 t (by rw [htl]; omega) (by rw [htl]; omega)
    have htt : (L.take (8 * K)).take t = L.take t := by rw [List.take_take, Nat.min_eq_left (by omega)]
    rw [htt] at q1 q2
    exact ⟨f2, nums.take K, q1, q2, by omega, fun _ => .inl (by omega)⟩
  · rw [if_neg hk]
    obtain ⟨f2, q1, q2⟩ := cutF_holds (room := room) h t (by omega) (by omega)
    exact ⟨f2, nums, q1, q2, Nat.le_refl _, fun _ => .inl (by omega)⟩
end Go.Proofs.YtbknlffebcbjfaaGreatDoor.Lg
