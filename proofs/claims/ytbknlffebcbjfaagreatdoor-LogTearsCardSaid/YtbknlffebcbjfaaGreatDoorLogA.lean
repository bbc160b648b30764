/-
  Plain Lean, no program in sight: a log on a disk (layer 11): its segments hold eight entries each, but for the last.
-/
import Derived.Test.YtbknlffebcbjfaaGreatDoorManA
namespace Go.Proofs.YtbknlffebcbjfaaGreatDoor.Lg
open Go.RowKit

def chunk (i : Nat) (L : List Evt.Entry) : List Evt.Entry := (L.drop (8 * i)).take 8
def segF (i : Nat) (n : Int) (L : List Evt.Entry) : Dk.File := ⟨Seg.nameOf n, Seg.whole ((8 * i + 1 : Nat) : Int) (chunk i L), (Seg.whole ((8 * i + 1 : Nat) : Int) (chunk i L)).size⟩
def manF (next : Int) (nums : List Int) : Dk.File := ⟨Man.file, Man.bytes next nums, (Man.bytes next nums).size⟩
def manSize (fs : List Dk.File) : Nat := match Dk.look fs Man.file with | none => 0 | some x => x.bytes.size
def sizeAt (fs : List Dk.File) (k : List UInt8) : Nat := match Dk.look fs k with | none => 0 | some x => x.bytes.size
theorem sum_le {α : Type} {f g : α → Nat} : ∀ (l : List α), (∀ x, f x ≤ g x) → (l.map f).sum ≤ (l.map g).sum
  | [], _ => Nat.le_refl _
  | x :: l, h => by
    have := sum_le l h
    have := h x
    simp only [List.map_cons, List.sum_cons]; omega
/-- The files of a disk whose names are known. -/
theorem names_total : ∀ (K : List (List UInt8)) (fs : List Dk.File), Dk.Sorted fs → (∀ k, Dk.look fs k ≠ none → k ∈ K) → Dk.total fs ≤ (K.map (sizeAt fs)).sum ∧ fs.length ≤ K.length
  | [], fs, _, h => by
    cases fs with
    | nil => simp [Dk.total]
    | cons x fs => have := h x.name (by simp [Dk.look]); cases this
  | k :: K, fs, hs, h => by
    have hsd := Dk.sorted_del k fs hs
    obtain ⟨h1, h2⟩ := names_total K (Dk.del k fs) hsd (fun j hj => by
      by_cases e : j = k
      · subst e; exact absurd (Dk.look_del_same j fs hs) hj
      · rw [Dk.look_del_other k e] at hj
        rcases List.mem_cons.1 (h j hj) with h | h
        · exact absurd h e
        · exact h)
    have h3 : ((K.map (sizeAt (Dk.del k fs))).sum) ≤ (K.map (sizeAt fs)).sum := sum_le K (fun j => by
      unfold sizeAt
      by_cases e : j = k
      · subst e; rw [Dk.look_del_same j fs hs]; exact Nat.zero_le _
      · rw [Dk.look_del_other k e]; exact Nat.le_refl _)
    have ht := Dk.del_total k fs
    have hl := Dk.del_len k fs
    simp only [List.map_cons, List.sum_cons, List.length_cons]
    unfold sizeAt
    unfold sizeAt at h1 h3
    cases e : Dk.look fs k with
    | none =>
      rw [e] at ht hl
      simp only [Option.isSome_none, Bool.false_eq_true, if_false] at ht hl ⊢
      exact ⟨by omega, by omega⟩
    | some x =>
      rw [e] at ht hl
      simp only [Option.isSome_some, if_true] at ht hl ⊢
      exact ⟨by omega, by omega⟩
theorem chunk_sum (fs : List Dk.File) (L : List Evt.Entry) : ∀ (l : List Int) (i : Nat), (∀ (j : Nat) (n : Int), l[j]? = some n → sizeAt fs (Seg.nameOf n) ≤ 15 + (Seg.bytesB (chunk (i + j) L)).length) → ((l.map Seg.nameOf).map (sizeAt fs)).sum ≤ 15 * l.length + (Seg.bytesB (L.drop (8 * i))).length
  | [], i, _ => by simp
  | n :: l, i, h => by
    have h0 := h 0 n rfl
    have ih := chunk_sum fs L l (i + 1) (fun j n' hj => by
      have := h (j + 1) n' (by simpa using hj)
      rwa [show i + (j + 1) = i + 1 + j by omega] at this)
    have e : (Seg.bytesB (L.drop (8 * i))).length = (Seg.bytesB (chunk i L)).length + (Seg.bytesB (L.drop (8 * (i + 1)))).length := by
      have : L.drop (8 * i) = chunk i L ++ L.drop (8 * (i + 1)) := by
        unfold chunk
        rw [show 8 * (i + 1) = 8 * i + 8 by omega, ← List.drop_drop, List.take_append_drop]
      rw [this, Seg.bytesB_append, List.length_append]
    simp only [List.map_cons, List.sum_cons, List.length_cons, Nat.add_zero] at h0 ⊢
    omega
/-- What a disk has of a log, in order. -/
structure Holds (fs : List Dk.File) (next : Int) (nums : List Int) (L : List Evt.Entry) : Prop where
  sorted : Dk.Sorted fs
  right : Man.right next nums = true
  man : (nums = [] ∧ next = 1 ∧ Dk.look fs Man.file = none) ∨ Dk.look fs Man.file = some (manF next nums)
  seg : ∀ (i : Nat) (n : Int), nums[i]? = some n → Dk.look fs (Seg.nameOf n) = some (segF i n L)
  oth : ∀ k, k ≠ Man.file → (∀ n ∈ nums, k ≠ Seg.nameOf n) → Dk.look fs k = none
  lo : nums = [] → L = []
  low : 8 * nums.length ≤ L.length + 8
  high : L.length ≤ 8 * nums.length
  fol : Evt.follows L 0 0 = true
theorem Holds.known {fs : List Dk.File} {next : Int} {nums : List Int} {L : List Evt.Entry} (h : Holds fs next nums L) : Dk.total fs ≤ manSize fs + 15 * nums.length + (Seg.bytesB L).length ∧ fs.length ≤ nums.length + 1 := by
  obtain ⟨h1, h2⟩ := names_total (Man.file :: nums.map Seg.nameOf) fs h.sorted (fun k hk => by
    apply Classical.byContradiction
    intro hn
    rw [List.mem_cons, List.mem_map] at hn
    exact hk (h.oth k (fun e => hn (.inl e)) (fun n hm e => hn (.inr ⟨n, hm, e.symm⟩))))
  have h3 := chunk_sum fs L nums 0 (fun j n hj => by
    unfold sizeAt
    rw [h.seg j n hj]
    simp only [segF]
    rw [Lib.size_eq]
    have := Seg.bytesH_len ((8 * j + 1 : Nat) : Int)
    simp only [Seg.whole, List.length_append, Nat.zero_add]; omega)
  have h4 : sizeAt fs Man.file = manSize fs := rfl
  simp only [List.map_cons, List.sum_cons, List.length_cons, List.length_map, Nat.mul_zero, List.drop_zero] at h1 h2 h3
  exact ⟨by omega, by omega⟩
theorem Holds.tot {fs : List Dk.File} {next : Int} {nums : List Int} {L : List Evt.Entry} (h : Holds fs next nums L) : Dk.total fs ≤ manSize fs + 15 * nums.length + (Seg.bytesB L).length := h.known.1
theorem Holds.len {fs : List Dk.File} {next : Int} {nums : List Int} {L : List Evt.Entry} (h : Holds fs next nums L) : fs.length ≤ nums.length + 1 := h.known.2
theorem rises : ∀ (l : List Int) (a b : Int), Man.lastF a l = some b → l.Pairwise (· < ·)
  | [], _, _, _ => List.Pairwise.nil
  | n :: l, a, b, h => by
    rw [Man.lastF] at h
    split at h
    · cases h
    · exact List.pairwise_cons.2 ⟨fun m hm => ((Man.lastF_mem _ _ _ h).2 m hm).1, rises l n b h⟩
theorem right_inj {next : Int} {nums : List Int} (h : Man.right next nums = true) {i j : Nat} {n : Int} (hi : nums[i]? = some n) (hj : nums[j]? = some n) : i = j := by
  obtain ⟨last, h1, _⟩ := Man.right_iff.1 h
  have hp := rises _ _ _ h1
  obtain ⟨li, ei⟩ := List.getElem?_eq_some_iff.1 hi
  obtain ⟨lj, ej⟩ := List.getElem?_eq_some_iff.1 hj
  rcases Nat.lt_trichotomy i j with h | h | h
  · have := List.pairwise_iff_getElem.1 hp i j li lj h
    omega
  · exact h
  · have := List.pairwise_iff_getElem.1 hp j i lj li h
    omega
theorem name_of {next : Int} {nums : List Int} (h : Man.right next nums = true) {n m : Int} (hn : n ∈ nums) (hm : m ∈ nums) (e : Seg.nameOf n = Seg.nameOf m) : n = m := by
  obtain ⟨h1, h2, h3, h4⟩ := Man.right_mem h
  have g1 := h4 n hn
  have g2 := h4 m hm
  exact Seg.name_inj (by omega) (by omega) (by omega) (by omega) e
theorem held_nil : Holds [] 1 [] [] :=
  ⟨by simp [Dk.Sorted], by simp [Man.right, Man.lastF], .inl ⟨rfl, rfl, rfl⟩, fun i n h => by simp at h, fun _ _ _ => rfl, fun _ => rfl, by simp, by simp, rfl⟩
theorem man_bytes (next : Int) (nums : List Int) (h : nums.length ≤ 30) : (Man.bytes next nums).size ≤ 200 := by
  have := (Man.body_len next nums).1
  rw [Lib.size_eq]
  simp only [Man.bytes, Frm.framed_len]; omega
theorem Holds.man_le {fs : List Dk.File} {next : Int} {nums : List Int} {L : List Evt.Entry} (h : Holds fs next nums L) : manSize fs ≤ 200 := by
  have h3 := (Man.right_mem h.right).2.2.1
  unfold manSize
  rcases h.man with ⟨_, _, e⟩ | e
  · rw [e]; exact Nat.zero_le _
  · rw [e]; exact man_bytes _ _ h3
/-- A part more. -/
theorem Holds.grow {fs : List Dk.File} {next room : Int} {nums : List Int} {L : List Evt.Entry} (h : Holds fs next nums L) (hf : L.length = 8 * nums.length) (h30 : nums.length < 30) (hn : next < 1073741824) (hr : (200 + 200 + 15 * (nums.length + 1) + (Seg.bytesB L).length : Int) ≤ room) :
    ∃ f1 f2, Seg.create room next (L.length + 1) fs = (f1, 0) ∧ Man.save room (next + 1) (nums ++ [next]) f1 = (f2, 0) ∧ Holds f2 (next + 1) (nums ++ [next]) L := by
  obtain ⟨r1, r2, r3, r4⟩ := Man.right_mem h.right
  have hml := h.man_le
  have htot := h.tot
  have hlen := h.len
  have hnew : Dk.look fs (Seg.nameOf next) = none := by
    refine h.oth _ (Man.file_ne_seg next) (fun n hm e => ?_)
    have g := r4 n hm
    have := Seg.name_inj (n := next) (m := n) r1 r2 g.1 (by omega) e
    omega
  have hc := Seg.create_look (room := room) (n := next) (first := (L.length : Int) + 1) (fs := fs) r1 r2 (by omega) (by omega) h.sorted hnew (by omega) (by omega)
  obtain ⟨y, hy⟩ : ∃ y : Dk.File, y = ⟨Seg.nameOf next, ⟨(Seg.bytesH ((L.length : Int) + 1)).toArray⟩, (⟨(Seg.bytesH ((L.length : Int) + 1)).toArray⟩ : ByteArray).size⟩ := ⟨_, rfl⟩
  rw [← hy] at hc
  have hyn : y.name = Seg.nameOf next := by rw [hy]
  have hys : y.bytes.size ≤ 15 := by rw [hy]; simp only; rw [Lib.size_eq]; exact Seg.bytesH_len _
  have s1 := Dk.sorted_put y fs h.sorted
  have t1 := Dk.put_total y fs h.sorted
  rw [hyn, hnew] at t1
  simp only at t1
  have l1 := Dk.put_len y fs h.sorted
  rw [hyn, hnew] at l1
  simp only [Option.isSome_none, Bool.false_eq_true, if_false] at l1
  have hrt := Man.right_append h.right hn h30
  have temp1 : Dk.look (Dk.put y fs) Seg.temp = none := by
    rw [Dk.look_put_other y (by rw [hyn]; exact fun e => Seg.temp_ne next e.symm)]
    exact h.oth _ (fun e => Man.file_ne_temp e.symm) (fun n _ e => Seg.temp_ne n e.symm)
  have man1 : Dk.look (Dk.put y fs) Man.file = Dk.look fs Man.file := Dk.look_put_other y (by rw [hyn]; exact fun e => Man.file_ne_seg next e.symm) fs
  have hb := man_bytes (next + 1) (nums ++ [next]) (by simp; omega)
  have hw := Man.write_ok (room := room) (k := Man.file) (s := Man.bytes (next + 1) (nums ++ [next])) s1 Man.file_named Man.file_ne_temp temp1 (by omega) (by omega)
  refine ⟨_, _, hc, by rw [Man.save, if_pos hrt]; exact hw, Dk.sorted_put _ _ s1, hrt, .inr (Dk.look_put_same (manF (next + 1) (nums ++ [next])) _), ?_, ?_, fun e => by simp at e, by simp; omega, by simp; omega, h.fol⟩
  · intro i n hi
    have hne : Seg.nameOf n ≠ (manF (next + 1) (nums ++ [next])).name := Man.file_ne_seg n
    rw [Dk.look_put_other (manF (next + 1) (nums ++ [next])) hne]
    by_cases hil : i < nums.length
    · rw [List.getElem?_append_left hil] at hi
      have hnm : n ∈ nums := List.mem_of_getElem? hi
      rw [Dk.look_put_other y (by rw [hyn]; intro e; have g := r4 n hnm; have := Seg.name_inj (n := n) (m := next) g.1 (by omega) r1 r2 e; omega)]
      exact h.seg i n hi
    · have hie : i = nums.length := by
        have := (List.getElem?_eq_some_iff.1 hi).1
        simp at this; omega
      subst hie
      rw [List.getElem?_append_right (Nat.le_refl _), Nat.sub_self] at hi
      simp only [List.getElem?_cons_zero, Option.some.injEq] at hi
      subst hi
      have e1 := Dk.look_put_same y fs
      rw [hyn] at e1
      rw [e1, hy]
      have hch : chunk nums.length L = [] := by unfold chunk; rw [List.drop_eq_nil_of_le (by omega)]; rfl
      have hcast : ((8 * nums.length + 1 : Nat) : Int) = (L.length : Int) + 1 := by omega
      simp only [segF, hch, hcast, Seg.whole, Seg.bytesB_nil, List.append_nil]
  · intro k hk hks
    rw [Dk.look_put_other (manF (next + 1) (nums ++ [next])) hk, Dk.look_put_other y (by rw [hyn]; exact hks next (by simp))]
    exact h.oth k hk (fun n hn => hks n (by simp [hn]))
theorem follows_lower : ∀ (l : List Evt.Entry) (pos e e' : Int), e' ≤ e → Evt.follows l pos e = true → Evt.follows l pos e' = true
  | [], _, _, _, _, _ => rfl
  | x :: l, pos, e, e', h, hf => by
    obtain ⟨h1, h2, h3, h4⟩ := Seg.follows_cons.1 hf
    exact Seg.follows_cons.2 ⟨h1, by omega, h3, h4⟩
theorem end_pos : ∀ (l : List Evt.Entry) (pos e : Int), Evt.follows l pos e = true → (Seg.endOf pos e l).1 = pos + l.length ∧ e ≤ (Seg.endOf pos e l).2
  | [], _, _, _ => by simp [Seg.endOf]
  | x :: l, pos, e, hf => by
    obtain ⟨h1, h2, h3, h4⟩ := Seg.follows_cons.1 hf
    obtain ⟨g1, g2⟩ := end_pos l _ _ h4
    rw [Seg.endOf, g1, List.length_cons]
    exact ⟨by omega, by omega⟩
theorem end_same : ∀ (l : List Evt.Entry) (p e p' e' : Int), l ≠ [] → Seg.endOf p e l = Seg.endOf p' e' l
  | [], _, _, _, _, h => absurd rfl h
  | _ :: _, _, _, _, _, _ => rfl
theorem endOf_append : ∀ (a b : List Evt.Entry) (p e : Int), Seg.endOf p e (a ++ b) = Seg.endOf (Seg.endOf p e a).1 (Seg.endOf p e a).2 b
  | [], _, _, _ => rfl
  | x :: a, b, p, e => by rw [List.cons_append, Seg.endOf, endOf_append a b, Seg.endOf]
/-- What the last part's bytes are, and how it goes on. -/
theorem Holds.chunks {fs : List Dk.File} {next : Int} {nums : List Int} {L : List Evt.Entry} (h : Holds fs next nums L) (i : Nat) (hi : i < nums.length) : Evt.follows (chunk i L) (8 * i : Nat) 0 = true := by
  have e : L = L.take (8 * i) ++ (chunk i L ++ (L.drop (8 * i)).drop 8) := by
    unfold chunk; rw [List.take_append_drop, List.take_append_drop]
  have hf := h.fol
  rw [e] at hf
  obtain ⟨f1, f2⟩ := (Seg.follows_append _ _ _ _).1 hf
  obtain ⟨g1, g2⟩ := end_pos _ _ _ f1
  have f3 := ((Seg.follows_append _ _ _ _).1 f2).1
  have hl : (L.take (8 * i)).length = 8 * i := by
    have := h.low
    rw [List.length_take]; omega
  rw [g1, hl] at f3
  have f4 := follows_lower _ _ _ 0 g2 f3
  simpa using f4
theorem Holds.add {fs : List Dk.File} {next room : Int} {nums : List Int} {L m : List Evt.Entry} {n : Int} (h : Holds fs next nums L) (hn : nums[nums.length - 1]? = some n) (hm : (L ++ m).length ≤ 8 * nums.length) (hfo : Evt.follows (L ++ m) 0 0 = true) (hr : (200 + 15 * nums.length + (Seg.bytesB (L ++ m)).length : Int) ≤ room) :
    ∃ f, Seg.addD room n m fs = (f, 0) ∧ Holds f next nums (L ++ m) := by
  obtain ⟨r1, r2, r3, r4⟩ := Man.right_mem h.right
  have hml := h.man_le
  have htot := h.tot
  have hlow := h.low
  have hlt : nums.length - 1 < nums.length := (List.getElem?_eq_some_iff.1 hn).1
  obtain ⟨i, hi⟩ : ∃ i, nums.length - 1 = i := ⟨_, rfl⟩
  rw [hi] at hn hlt
  have hnl : nums.length = i + 1 := by omega
  have hnr := r4 n (List.mem_of_getElem? hn)
  have hch := h.chunks i hlt
  have hlk := h.seg i n hn
  have hld : Seg.loadD n fs = (⟨((8 * i + 1 : Nat) : Int), chunk i L, false⟩, 0) := by
    rw [Seg.loadD_look hlk]
    exact Seg.load_bytes _ _ (by omega) (by omega) (by rw [show (((8 * i + 1 : Nat) : Int) - 1) = ((8 * i : Nat) : Int) by omega]; exact hch)
  have eL : L = L.take (8 * i) ++ chunk i L := by
    have e : (L.drop (8 * i)).take 8 = L.drop (8 * i) := List.take_of_length_le (by rw [List.length_drop]; have := h.high; omega)
    unfold chunk; rw [e, List.take_append_drop]
  have hlt8 : (L.take (8 * i)).length = 8 * i := by rw [List.length_take]; omega
  have hgo : Evt.follows m (Seg.last ⟨((8 * i + 1 : Nat) : Int), chunk i L, false⟩).1 (Seg.last ⟨((8 * i + 1 : Nat) : Int), chunk i L, false⟩).2 = true := by
    rw [Seg.last_end]
    simp only
    have f := ((Seg.follows_append L m 0 0).1 hfo).2
    have fl := h.fol
    rw [eL] at fl
    obtain ⟨f1, f2⟩ := (Seg.follows_append _ _ _ _).1 fl
    obtain ⟨g1, g2⟩ := end_pos _ _ _ f1
    rw [hlt8] at g1
    rw [eL, endOf_append] at f
    by_cases hc : chunk i L = []
    · rw [hc] at f ⊢
      simp only [Seg.endOf] at f ⊢
      rw [g1] at f
      have := follows_lower _ _ _ 0 g2 f
      rw [show (((8 * i + 1 : Nat) : Int) - 1) = 0 + ((8 * i : Nat) : Int) by omega]; exact this
    · rw [end_same (chunk i L) _ _ (((8 * i + 1 : Nat) : Int) - 1) 0 hc] at f; exact f
  have hcm : chunk i (L ++ m) = chunk i L ++ m := by
    unfold chunk
    rw [List.length_append] at hm
    rw [List.drop_append_of_le_length (by omega), List.take_of_length_le (by rw [List.length_append, List.length_drop]; omega), List.take_of_length_le (by rw [List.length_drop]; omega)]
  have hbb : (Seg.bytesB (L ++ m)).length = (Seg.bytesB L).length + (Seg.bytesB m).length := by rw [Seg.bytesB_append, List.length_append]
  rw [Seg.add_look hld]
  simp only [Bool.false_eq_true, if_false, hgo, Bool.true_eq_false]
  by_cases hm0 : m = []
  · subst hm0
    rw [if_pos rfl, List.append_nil]
    exact ⟨fs, rfl, h⟩
  · rw [if_neg hm0]
    have hbs : (⟨(Seg.bytesB m).toArray⟩ : ByteArray).size = (Seg.bytesB m).length := by rw [Lib.size_eq]
    obtain ⟨a1, a2⟩ := Seg.more_sync (room := room) (s := ⟨(Seg.bytesB m).toArray⟩) h.sorted (Seg.name_named n (by omega) (by omega)) hlk (by rw [hbs]; omega)
    rw [a2, a1, if_pos rfl]
    have hfile : (⟨Seg.nameOf n, (segF i n L).bytes ++ ⟨(Seg.bytesB m).toArray⟩, ((segF i n L).bytes ++ ⟨(Seg.bytesB m).toArray⟩).size⟩ : Dk.File) = segF i n (L ++ m) := by
      simp only [segF, hcm, Seg.whole_append]
    rw [hfile]
    have hsn : (segF i n (L ++ m)).name = Seg.nameOf n := rfl
    have hman : Dk.look (Dk.put (segF i n (L ++ m)) fs) Man.file = Dk.look fs Man.file := Dk.look_put_other (segF i n (L ++ m)) (fun e => Man.file_ne_seg n e.symm) fs
    refine ⟨_, rfl, Dk.sorted_put _ _ h.sorted, h.right, ?_, ?_, ?_, fun e => by rw [e] at hlt; simp at hlt, by rw [List.length_append]; omega, hm, hfo⟩
    · rw [hman]; exact h.man
    · intro j n' hj
      by_cases e : j = i
      · subst e
        rw [hn] at hj
        cases hj
        exact Dk.look_put_same (segF j n (L ++ m)) fs
      · have hjl := (List.getElem?_eq_some_iff.1 hj).1
        have hne : Seg.nameOf n' ≠ (segF i n (L ++ m)).name := fun e2 => by
          have := name_of h.right (List.mem_of_getElem? hj) (List.mem_of_getElem? hn) e2
          subst this
          exact e (right_inj h.right hj hn)
        rw [Dk.look_put_other (segF i n (L ++ m)) hne, h.seg j n' hj]
        have hcj : chunk j (L ++ m) = chunk j L := by
          unfold chunk
          rw [List.drop_append_of_le_length (by omega), List.take_append_of_le_length (by rw [List.length_drop]; omega)]
        simp only [segF, hcj]
    · intro k hk hks
      rw [Dk.look_put_other (segF i n (L ++ m)) (hks n (List.mem_of_getElem? hn))]
      exact h.oth k hk hks
theorem keepN_follows : ∀ (l : List Evt.Entry) (pos e last : Int), Evt.follows l pos e = true → Seg.keepN last l = min l.length (last - pos).toNat
  | [], _, _, _, _ => by simp [Seg.keepN]
  | x :: l, pos, e, last, hf => by
    obtain ⟨h1, h2, h3, h4⟩ := Seg.follows_cons.1 hf
    have ih := keepN_follows l x.pos x.epoch last h4
    unfold Seg.keepN at ih ⊢
    rw [List.takeWhile_cons]
    by_cases h : x.pos ≤ last
    · rw [if_pos (by simpa using h), List.length_cons, List.length_cons, ih]; omega
    · rw [if_neg (by simpa using h), List.length_nil, List.length_cons]; omega
theorem chunk_take {j t : Nat} (L : List Evt.Entry) (h : 8 * (j + 1) ≤ t) : chunk j (L.take t) = chunk j L := by
  unfold chunk
  rw [List.drop_take, List.take_take, Nat.min_eq_left (by omega)]
theorem chunk_last {i t : Nat} (L : List Evt.Entry) (hL : L.length ≤ 8 * (i + 1)) : chunk i (L.take t) = (chunk i L).take (t - 8 * i) := by
  unfold chunk
  have e : (L.drop (8 * i)).take 8 = L.drop (8 * i) := List.take_of_length_le (by rw [List.length_drop]; omega)
  rw [e, List.drop_take, List.take_take, Nat.min_comm, ← List.take_take, e]
/-- The last part is cut. -/
theorem Holds.cut {fs : List Dk.File} {next room : Int} {nums : List Int} {L : List Evt.Entry} {n : Int} (h : Holds fs next nums L) (hn : nums[nums.length - 1]? = some n) (t : Nat) (hlo : 8 * (nums.length - 1) ≤ t) (hr : (300 + 15 * nums.length + 2 * (Seg.bytesB L).length + 15 : Int) ≤ room) :
    ∃ f, Seg.cutD room n (t : Int) fs = (f, 0) ∧ Holds f next nums (L.take t) := by
  obtain ⟨r1, r2, r3, r4⟩ := Man.right_mem h.right
  have hml := h.man_le
  have htot := h.tot
  have hlen := h.len
  have hlow := h.low
  have hhigh := h.high
  have hlt : nums.length - 1 < nums.length := (List.getElem?_eq_some_iff.1 hn).1
  obtain ⟨i, hi⟩ : ∃ i, nums.length - 1 = i := ⟨_, rfl⟩
  rw [hi] at hn hlt hlo
  have hnl : nums.length = i + 1 := by omega
  have hnr := r4 n (List.mem_of_getElem? hn)
  have hch := h.chunks i hlt
  have hlk := h.seg i n hn
  have hld : Seg.loadD n fs = (⟨((8 * i + 1 : Nat) : Int), chunk i L, false⟩, 0) := by
    rw [Seg.loadD_look hlk]
    exact Seg.load_bytes _ _ (by omega) (by omega) (by rw [show (((8 * i + 1 : Nat) : Int) - 1) = ((8 * i : Nat) : Int) by omega]; exact hch)
  have hkN := keepN_follows (chunk i L) ((8 * i : Nat) : Int) 0 (t : Int) hch
  have hcl : (chunk i L).length = L.length - 8 * i := by
    unfold chunk; rw [List.length_take, List.length_drop]; omega
  have hkt : ((t : Int) - ((8 * i : Nat) : Int)).toNat = t - 8 * i := by omega
  rw [hkt, hcl] at hkN
  have hcL := chunk_last (i := i) (t := t) L (by omega)
  have temp1 : Dk.look fs Seg.temp = none := h.oth _ (fun e => Man.file_ne_temp e.symm) (fun n _ e => Seg.temp_ne n e.symm)
  by_cases hall : L.length ≤ t
  · refine ⟨fs, Seg.cut_same hld (by simp only; omega) rfl, ?_⟩
    rw [List.take_of_length_le hall]; exact h
  · have htk : (chunk i L).take (Seg.keepN (t : Int) (chunk i L)) = chunk i (L.take t) := by
      rw [hkN, hcL, Nat.min_eq_right (by omega)]
    have hfile : (⟨Seg.nameOf n, Seg.whole ((8 * i + 1 : Nat) : Int) (chunk i (L.take t)), (Seg.whole ((8 * i + 1 : Nat) : Int) (chunk i (L.take t))).size⟩ : Dk.File) = segF i n (L.take t) := rfl
    have hws : (Seg.whole ((8 * i + 1 : Nat) : Int) (chunk i (L.take t))).size ≤ 15 + (Seg.bytesB L).length := by
      rw [Lib.size_eq]
      have hb := Seg.bytesH_len ((8 * i + 1 : Nat) : Int)
      have e : L = L.take (8 * i) ++ ((chunk i L).take (t - 8 * i) ++ ((chunk i L).drop (t - 8 * i) ++ (L.drop (8 * i)).drop 8)) := by
        rw [← List.append_assoc ((chunk i L).take _), List.take_append_drop]
        unfold chunk
        rw [List.take_append_drop, List.take_append_drop]
      have hle : (Seg.bytesB L).length = (Seg.bytesB (L.take (8 * i) ++ ((chunk i L).take (t - 8 * i) ++ ((chunk i L).drop (t - 8 * i) ++ (L.drop (8 * i)).drop 8)))).length := congrArg (fun l => (Seg.bytesB l).length) e
      rw [Seg.bytesB_append, Seg.bytesB_append, List.length_append, List.length_append] at hle
      rw [hcL]
      simp only [Seg.whole, List.length_append]
      omega
    have hc := Seg.cut_new (room := room) (n := n) (last := (t : Int)) (s := Seg.whole ((8 * i + 1 : Nat) : Int) (chunk i (L.take t))) (by omega) (by omega) h.sorted hld (by simp only; omega) temp1 (by omega)
      (by simp only [htk, Seg.whole]) (by omega)
    rw [hfile] at hc
    have hsn : (segF i n (L.take t)).name = Seg.nameOf n := rfl
    have hman : Dk.look (Dk.put (segF i n (L.take t)) fs) Man.file = Dk.look fs Man.file := Dk.look_put_other (segF i n (L.take t)) (fun e => Man.file_ne_seg n e.symm) fs
    refine ⟨_, hc, Dk.sorted_put _ _ h.sorted, h.right, ?_, ?_, ?_, fun e => by rw [e] at hlt; simp at hlt, by rw [List.length_take]; omega, by rw [List.length_take]; omega, ?_⟩
    · rw [hman]; exact h.man
    · intro j n' hj
      by_cases e : j = i
      · subst e
        rw [hn] at hj
        cases hj
        exact Dk.look_put_same (segF j n (L.take t)) fs
      · have hjl := (List.getElem?_eq_some_iff.1 hj).1
        have hne : Seg.nameOf n' ≠ (segF i n (L.take t)).name := fun e2 => by
          have := name_of h.right (List.mem_of_getElem? hj) (List.mem_of_getElem? hn) e2
          subst this
          exact e (right_inj h.right hj hn)
        rw [Dk.look_put_other (segF i n (L.take t)) hne, h.seg j n' hj]
        simp only [segF, chunk_take (j := j) (t := t) L (by omega)]
    · intro k hk hks
      rw [Dk.look_put_other (segF i n (L.take t)) (hks n (List.mem_of_getElem? hn))]
      exact h.oth k hk hks
    · have hf := h.fol
      rw [← List.take_append_drop t L] at hf
      exact ((Seg.follows_append _ _ _ _).1 hf).1
/-- A disk of which all is synced loses nothing. -/
theorem crash_synced : ∀ (ks : List Int) (fs : List Dk.File), (∀ x ∈ fs, x.synced = x.bytes.size) → Dk.crash ks fs = fs
  | _, [], _ => rfl
  | ks, x :: fs, h => by
    rw [Dk.crash, Dk.crashed_full _ x (h x (by simp)), crash_synced ks.tail fs (fun y hy => h y (by simp [hy]))]
theorem look_mem : ∀ {fs : List Dk.File} {x : Dk.File}, Dk.Sorted fs → x ∈ fs → Dk.look fs x.name = some x
  | [], _, _, h => by cases h
  | y :: fs, x, hs, h => by
    have h' := List.pairwise_cons.1 hs
    rcases List.mem_cons.1 h with rfl | h
    · simp [Dk.look]
    · have := h'.1 x h
      rw [Dk.look, if_neg (fun e => by rw [e] at this; exact Std.lt_irrefl this)]
      exact look_mem h'.2 h
theorem Holds.synced {fs : List Dk.File} {next : Int} {nums : List Int} {L : List Evt.Entry} (h : Holds fs next nums L) : ∀ x ∈ fs, x.synced = x.bytes.size := by
  intro x hx
  have hl := look_mem h.sorted hx
  by_cases hf : x.name = Man.file
  · rcases h.man with ⟨_, _, e⟩ | e
    · rw [hf, e] at hl; cases hl
    · rw [hf, e] at hl; cases hl; rfl
  · apply Classical.byContradiction
    intro hn
    by_cases hk : ∀ n ∈ nums, x.name ≠ Seg.nameOf n
    · rw [h.oth _ hf hk] at hl; cases hl
    · apply hk
      intro n hnm e
      obtain ⟨i, hi⟩ := List.mem_iff_getElem?.1 hnm
      rw [e, h.seg i n hi] at hl
      cases hl
      exact hn rfl
theorem Holds.crash {fs : List Dk.File} {next : Int} {nums : List Int} {L : List Evt.Entry} (h : Holds fs next nums L) (ks : List Int) : Dk.crash ks fs = fs := crash_synced ks fs h.synced
/-- Parts are dropped: the manifest of those that stay; then each file of the others. -/
def dels : List Int → List Dk.File → List Dk.File
  | [], fs => fs
  | n :: l, fs => dels l (Dk.del (Seg.nameOf n) fs)
theorem dels_sorted : ∀ (l : List Int) (fs : List Dk.File), Dk.Sorted fs → Dk.Sorted (dels l fs)
  | [], _, h => h
  | _ :: l, _, h => dels_sorted l _ (Dk.sorted_del _ _ h)
theorem dels_look : ∀ (l : List Int) (fs : List Dk.File) (k : List UInt8), Dk.Sorted fs → Dk.look (dels l fs) k = if k ∈ l.map Seg.nameOf then none else Dk.look fs k
  | [], fs, k, _ => by simp [dels]
  | n :: l, fs, k, h => by
    rw [dels, dels_look l _ k (Dk.sorted_del _ _ h)]
    by_cases e : k = Seg.nameOf n
    · subst e
      rw [Dk.look_del_same _ fs h]
      simp
    · rw [Dk.look_del_other _ e]
      simp [e]
theorem Holds.drop {fs : List Dk.File} {next room : Int} {nums : List Int} {L : List Evt.Entry} (h : Holds fs next nums L) (k : Nat) (hk : k < nums.length) (hr : (600 + 15 * nums.length + (Seg.bytesB L).length : Int) ≤ room) :
    ∃ f1, Man.save room next (nums.take k) fs = (f1, 0) ∧ Dk.Sorted f1 ∧ Holds (dels (nums.drop k) f1) next (nums.take k) (L.take (8 * k)) := by
  obtain ⟨r1, r2, r3, r4⟩ := Man.right_mem h.right
  have hml := h.man_le
  have htot := h.tot
  have hlen := h.len
  have hlow := h.low
  have hrt := Man.right_take k h.right
  have hb := man_bytes next (nums.take k) (by rw [List.length_take]; omega)
  have temp1 : Dk.look fs Seg.temp = none := h.oth _ (fun e => Man.file_ne_temp e.symm) (fun n _ e => Seg.temp_ne n e.symm)
  have hw := Man.write_ok (room := room) (k := Man.file) (s := Man.bytes next (nums.take k)) h.sorted Man.file_named Man.file_ne_temp temp1 (by omega) (by omega)
  have s1 := Dk.sorted_put (manF next (nums.take k)) fs h.sorted
  have hout : ∀ n ∈ nums.take k, Seg.nameOf n ∉ (nums.drop k).map Seg.nameOf := by
    intro n hn hm
    obtain ⟨m, hm1, hm2⟩ := List.mem_map.1 hm
    have e := name_of h.right (List.mem_of_mem_take hn) (List.mem_of_mem_drop hm1) hm2.symm
    subst e
    obtain ⟨i, hi⟩ := List.mem_iff_getElem?.1 hn
    obtain ⟨j, hj⟩ := List.mem_iff_getElem?.1 hm1
    have hil := (List.getElem?_eq_some_iff.1 hi).1
    rw [List.length_take] at hil
    rw [List.getElem?_take_of_lt (by omega)] at hi
    rw [List.getElem?_drop] at hj
    have := right_inj h.right hi hj
    omega
  refine ⟨_, by rw [Man.save, if_pos hrt]; exact hw, s1, dels_sorted _ _ s1, hrt, .inr ?_, ?_, ?_, ?_, ?_, ?_, ?_⟩
  · rw [dels_look _ _ _ s1, if_neg (fun hm => by
      obtain ⟨m, _, hm2⟩ := List.mem_map.1 hm
      exact Man.file_ne_seg m hm2)]
    exact Dk.look_put_same (manF next (nums.take k)) fs
  · intro i n hi
    have hil := (List.getElem?_eq_some_iff.1 hi).1
    rw [List.length_take] at hil
    have hnm := List.mem_of_getElem? hi
    rw [List.getElem?_take_of_lt (by omega)] at hi
    rw [dels_look _ _ _ s1, if_neg (hout n hnm), Dk.look_put_other (manF next (nums.take k)) (show Seg.nameOf n ≠ (manF next (nums.take k)).name from Man.file_ne_seg n), h.seg i n hi]
    simp only [segF, chunk_take (j := i) (t := 8 * k) L (by omega)]
  · intro j hj hks
    rw [dels_look _ _ _ s1]
    by_cases hm : j ∈ (nums.drop k).map Seg.nameOf
    · rw [if_pos hm]
    · rw [if_neg hm, Dk.look_put_other (manF next (nums.take k)) (show j ≠ (manF next (nums.take k)).name from hj)]
      refine h.oth j hj (fun n hn e => ?_)
      rw [← List.take_append_drop k nums] at hn
      rcases List.mem_append.1 hn with hn | hn
      · exact hks n hn e
      · exact hm (List.mem_map.2 ⟨n, hn, e.symm⟩)
  · intro e
    have : k = 0 := by
      have := congrArg List.length e
      rw [List.length_take, List.length_nil] at this; omega
    subst this; rfl
  · rw [List.length_take, List.length_take]; omega
  · rw [List.length_take, List.length_take]; omega
  · have hf := h.fol
    rw [← List.take_append_drop (8 * k) L] at hf
    exact ((Seg.follows_append _ _ _ _).1 hf).1
/-! What Open finds. -/
theorem Holds.man_load {fs : List Dk.File} {next : Int} {nums : List Int} {L : List Evt.Entry} (h : Holds fs next nums L) : Man.load fs = ((next, nums), 0) := by
  rcases h.man with ⟨h1, h2, h3⟩ | h1
  · rw [h1, h2]; exact Man.load_none h3
  · exact Man.load_at h.right h1
theorem Holds.part_load {fs : List Dk.File} {next : Int} {nums : List Int} {L : List Evt.Entry} (h : Holds fs next nums L) {i : Nat} {n : Int} (hi : nums[i]? = some n) : Seg.loadD n fs = (⟨((8 * i + 1 : Nat) : Int), chunk i L, false⟩, 0) := by
  have hlt := (List.getElem?_eq_some_iff.1 hi).1
  have h30 := (Man.right_mem h.right).2.2.1
  rw [Seg.loadD_look (h.seg i n hi)]
  exact Seg.load_bytes _ _ (by omega) (by omega) (by rw [show (((8 * i + 1 : Nat) : Int) - 1) = ((8 * i : Nat) : Int) by omega]; exact h.chunks i hlt)
theorem take_next (i : Nat) (L : List Evt.Entry) : L.take (8 * i) ++ chunk i L = L.take (8 * (i + 1)) := by
  unfold chunk
  rw [show 8 * (i + 1) = 8 * i + 8 by omega, List.take_add]
theorem Holds.part_at {fs : List Dk.File} {next : Int} {nums : List Int} {L : List Evt.Entry} (h : Holds fs next nums L) {i : Nat} (hi : i < nums.length) : (L.take (8 * i)).length = 8 * i ∧ ∀ e l, chunk i L = e :: l → (Seg.endOf 0 0 (L.take (8 * i))).2 ≤ e.epoch := by
  have hlow := h.low
  refine ⟨by rw [List.length_take]; omega, fun e l he => ?_⟩
  have hf := h.fol
  rw [← List.take_append_drop (8 * (i + 1)) L, ← take_next] at hf
  have h1 := ((Seg.follows_append _ _ _ _).1 hf).1
  have h2 := ((Seg.follows_append _ _ _ _).1 h1).2
  rw [he] at h2
  exact (Seg.follows_cons.1 h2).2.1
theorem Holds.take_all {fs : List Dk.File} {next : Int} {nums : List Int} {L : List Evt.Entry} (h : Holds fs next nums L) : L.take (8 * nums.length) = L := List.take_of_length_le h.high
theorem file_number : Seg.numberOf Man.file = 0 := by
  unfold Seg.numberOf Man.file
  simp [Lib.parseUint10]
theorem Holds.names {fs : List Dk.File} {next : Int} {nums : List Int} {L : List Evt.Entry} (h : Holds fs next nums L) : ∀ x ∈ fs, x.name ≠ Seg.temp ∧ (Seg.numberOf x.name = 0 ∨ Seg.numberOf x.name ∈ nums) := by
  intro x hx
  have hl := look_mem h.sorted hx
  obtain ⟨r1, r2, r3, r4⟩ := Man.right_mem h.right
  by_cases hf : x.name = Man.file
  · rw [hf]; exact ⟨Man.file_ne_temp, .inl file_number⟩
  · by_cases hk : ∀ n ∈ nums, x.name ≠ Seg.nameOf n
    · rw [h.oth _ hf hk] at hl; cases hl
    · have : ∃ n ∈ nums, x.name = Seg.nameOf n := by
        apply Classical.byContradiction
        intro hn
        exact hk (fun n hm e => hn ⟨n, hm, e⟩)
      obtain ⟨n, hn, e⟩ := this
      have g := r4 n hn
      rw [e]
      exact ⟨Seg.temp_ne n, .inr (by rw [Seg.number_name n (by omega) (by omega)]; exact hn)⟩
end Go.Proofs.YtbknlffebcbjfaaGreatDoor.Lg
