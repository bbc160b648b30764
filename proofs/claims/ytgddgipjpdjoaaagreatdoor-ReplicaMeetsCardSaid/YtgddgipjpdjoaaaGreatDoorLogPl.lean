/-
  Plain Lean, no program in sight: a log on a disk (layer 11): its segments hold eight entries each, but for the last.
  Plain Lean, no program in sight: the marks of a row of entries (layer 6): where each epoch begins.
  Plain Lean, no program in sight: what a log's functions do (layer 11), whatever is on the disk; and what they do with a disk that holds a log.
-/
import Derived.Test.YtgddgipjpdjoaaaGreatDoorManP
namespace Go.Proofs.YtgddgipjpdjoaaaGreatDoor.Lg
open Go.RowKit
def chunk (i : Nat) (L : List Evt.Entry) : List Evt.Entry := (L.drop (8 * i)).take 8
def segF (i : Nat) (n : Int) (L : List Evt.Entry) : Dk.File := ⟨Seg.nameOf n, Seg.whole ((8 * i + 1 : Nat) : Int) (chunk i L), (Seg.whole ((8 * i + 1 : Nat) : Int) (chunk i L)).size⟩
def manF (next : Int) (nums : List Int) : Dk.File := ⟨Man.file, Man.bytes next nums, (Man.bytes next nums).size⟩
def manSize (fs : List Dk.File) : Nat := match Dk.look fs Man.file with | none => 0 | some x => x.bytes.size
def sizeAt (fs : List Dk.File) (k : List UInt8) : Nat := match Dk.look fs k with | none => 0 | some x => x.bytes.size
theorem sum_le {α : Type} {f g : α → Nat} : ∀ (l : List α), (∀ x, f x ≤ g x) → (l.map f).sum ≤ (l.map g).sum
 | [], _ => Nat.le_refl _
 | x :: l, h => by
   have := sum_le l h
   have := h x
   simp only [List.map_cons, List.sum_cons]; omega
theorem names_total : ∀ (K : List (List UInt8)) (fs : List Dk.File), Dk.Sorted fs → (∀ k, Dk.look fs k ≠ none → k ∈ K) → Dk.total fs ≤ (K.map (sizeAt fs)).sum ∧ fs.length ≤ K.length
 | [], fs, _, h => by
   cases fs with
   | nil => simp [Dk.total]
   | cons x fs => have := h x.name (by simp [Dk.look]); cases this
 | k :: K, fs, hs, h => by
   have hsd := Dk.sorted_del k fs hs
   obtain ⟨h1, h2⟩ := names_total K (Dk.del k fs) hsd (fun j hj => by
     by_cases e : j = k
     · subst e; exact absurd (Dk.look_del_same j fs hs) hj
     · rw [Dk.look_del_other k e] at hj
       rcases List.mem_cons.1 (h j hj) with h | h
       · exact absurd h e
       · exact h)
   have h3 : ((K.map (sizeAt (Dk.del k fs))).sum) ≤ (K.map (sizeAt fs)).sum := sum_le K (fun j => by
     unfold sizeAt
     by_cases e : j = k
     · subst e; rw [Dk.look_del_same j fs hs]; exact Nat.zero_le _
     · rw [Dk.look_del_other k e]; exact Nat.le_refl _)
   have ht := Dk.del_total k fs
   have hl := Dk.del_len k fs
   simp only [List.map_cons, List.sum_cons, List.length_cons]
   unfold sizeAt
   unfold sizeAt at h1 h3
   cases e : Dk.look fs k with
   | none =>
     rw [e] at ht hl
     simp only [Option.isSome_none, Bool.false_eq_true, if_false] at ht hl ⊢
     exact ⟨by omega, by omega⟩
   | some x =>
     rw [e] at ht hl
     simp only [Option.isSome_some, if_true] at ht hl ⊢
     exact ⟨by omega, by omega⟩
theorem chunk_sum (fs : List Dk.File) (L : List Evt.Entry) : ∀ (l : List Int) (i : Nat), (∀ (j : Nat) (n : Int), l[j]? = some n → sizeAt fs (Seg.nameOf n) ≤ 15 + (Seg.bytesB (chunk (i + j) L)).length) → ((l.map Seg.nameOf).map (sizeAt fs)).sum ≤ 15 * l.length + (Seg.bytesB (L.drop (8 * i))).length
 | [], i, _ => by simp
 | n :: l, i, h => by
   have h0 := h 0 n rfl
   have ih := chunk_sum fs L l (i + 1) (fun j n' hj => by
     have := h (j + 1) n' (by simpa using hj)
     rwa [show i + (j + 1) = i + 1 + j by omega] at this)
   have e : (Seg.bytesB (L.drop (8 * i))).length = (Seg.bytesB (chunk i L)).length + (Seg.bytesB (L.drop (8 * (i + 1)))).length := by
     have : L.drop (8 * i) = chunk i L ++ L.drop (8 * (i + 1)) := by
       unfold chunk
       rw [show 8 * (i + 1) = 8 * i + 8 by omega, ← List.drop_drop, List.take_append_drop]
     rw [this, Seg.bytesB_append, List.length_append]
   simp only [List.map_cons, List.sum_cons, List.length_cons, Nat.add_zero] at h0 ⊢
   omega
theorem look_mem0 : ∀ {fs : List Dk.File} {x : Dk.File}, Dk.Sorted fs → x ∈ fs → Dk.look fs x.name = some x
 | [], _, _, h => by cases h
 | y :: fs, x, hs, h => by
   have h' := List.pairwise_cons.1 hs
   rcases List.mem_cons.1 h with rfl | h
   · simp [Dk.look]
   · have := h'.1 x h
     rw [Dk.look, if_neg (fun e => by rw [e] at this; exact Std.lt_irrefl this)]
     exact look_mem0 h'.2 h
structure Others (ex : List Dk.File) : Prop where
 sorted : Dk.Sorted ex
 man : Dk.look ex Man.file = none
 temp : Dk.look ex Seg.temp = none
 number : ∀ x ∈ ex, Seg.numberOf x.name = 0
 sync : ∀ x ∈ ex, x.synced = x.bytes.size
 few : ex.length ≤ 5
theorem others_nil : Others [] := ⟨by simp [Dk.Sorted], rfl, rfl, (fun x hx => by cases hx), (fun x hx => by cases hx), by simp⟩
theorem Others.seg {ex : List Dk.File} (h : Others ex) (n : Int) (h1 : 1 ≤ n) (h2 : n ≤ 1073741824) : Dk.look ex (Seg.nameOf n) = none := by
 cases e : Dk.look ex (Seg.nameOf n) with
 | none => rfl
 | some x =>
   obtain ⟨e1, e2⟩ := Dk.look_name e
   have := h.number x e2
   rw [e1, Seg.number_name n h1 h2] at this
   omega
theorem sizes_eq {fs : List Dk.File} : ∀ (ex : List Dk.File), (∀ x ∈ ex, sizeAt fs x.name = x.bytes.size) → ((ex.map (·.name)).map (sizeAt fs)).sum = Dk.total ex
 | [], _ => rfl
 | x :: ex, h => by
   have ih := sizes_eq ex (fun y hy => h y (List.mem_cons_of_mem _ hy))
   have h0 := h x List.mem_cons_self
   simp only [List.map_cons, List.sum_cons, Dk.total] at ih ⊢
   omega
structure Holds (ex fs : List Dk.File) (next : Int) (nums : List Int) (L : List Evt.Entry) : Prop where
 sorted : Dk.Sorted fs
 right : Man.right next nums = true
 man : (nums = [] ∧ next = 1 ∧ Dk.look fs Man.file = none) ∨ Dk.look fs Man.file = some (manF next nums)
 seg : ∀ (i : Nat) (n : Int), nums[i]? = some n → Dk.look fs (Seg.nameOf n) = some (segF i n L)
 oth : ∀ k, k ≠ Man.file → (∀ n ∈ nums, k ≠ Seg.nameOf n) → Dk.look fs k = Dk.look ex k
 exs : Others ex
 lo : nums = [] → L = []
 low : 8 * nums.length ≤ L.length + 8
 high : L.length ≤ 8 * nums.length
 fol : Evt.follows L 0 0 = true
theorem Holds.known {ex fs : List Dk.File} {next : Int} {nums : List Int} {L : List Evt.Entry} (h : Holds ex fs next nums L) : Dk.total fs ≤ manSize fs + 15 * nums.length + (Seg.bytesB L).length + Dk.total ex ∧ fs.length ≤ nums.length + 1 + ex.length := by
 have hin : ∀ k x, Dk.look ex k = some x → k ∈ ex.map (·.name) := fun k x e => by
   obtain ⟨e1, e2⟩ := Dk.look_name e
   rw [← e1]; exact List.mem_map.2 ⟨x, e2, rfl⟩
 obtain ⟨h1, h2⟩ := names_total (Man.file :: (nums.map Seg.nameOf ++ ex.map (·.name))) fs h.sorted (fun k hk => by
   apply Classical.byContradiction
   intro hn
   rw [List.mem_cons, List.mem_append, List.mem_map] at hn
   refine hk ?_
   rw [h.oth k (fun e => hn (.inl e)) (fun n hm e => hn (.inr (.inl ⟨n, hm, e.symm⟩)))]
   cases e : Dk.look ex k with
   | none => rfl
   | some x => exact absurd (.inr (.inr (hin k x e))) hn)
 have h3 := chunk_sum fs L nums 0 (fun j n hj => by
   unfold sizeAt
   rw [h.seg j n hj]
   simp only [segF]
   rw [Lib.size_eq]
   have := Seg.bytesH_len ((8 * j + 1 : Nat) : Int)
   simp only [Seg.whole, List.length_append, Nat.zero_add]; omega)
 have h4 : sizeAt fs Man.file = manSize fs := rfl
 have h5 := sizes_eq (fs := fs) ex (fun x hx => by
   have hl := look_mem0 h.exs.sorted hx
   have hf : x.name ≠ Man.file := fun e => by rw [e, h.exs.man] at hl; cases hl
   have hs : ∀ n ∈ nums, x.name ≠ Seg.nameOf n := fun n hn e => by
     have g := (Man.right_mem h.right).2.2.2 n hn
     have g2 := (Man.right_mem h.right).2.1
     rw [e, h.exs.seg n (by omega) (by omega)] at hl; cases hl
   unfold sizeAt
   rw [h.oth x.name hf hs, hl])
 simp only [List.map_cons, List.map_append, List.sum_cons, List.sum_append, List.length_cons, List.length_append, List.length_map, Nat.mul_zero, List.drop_zero] at h1 h2 h3 h5
 exact ⟨by omega, by omega⟩
theorem Holds.tot {ex fs : List Dk.File} {next : Int} {nums : List Int} {L : List Evt.Entry} (h : Holds ex fs next nums L) : Dk.total fs ≤ manSize fs + 15 * nums.length + (Seg.bytesB L).length + Dk.total ex := h.known.1
theorem Holds.len {ex fs : List Dk.File} {next : Int} {nums : List Int} {L : List Evt.Entry} (h : Holds ex fs next nums L) : fs.length ≤ nums.length + 6 := by have := h.known.2; have := h.exs.few; omega
theorem rises : ∀ (l : List Int) (a b : Int), Man.lastF a l = some b → l.Pairwise (· < ·)
 | [], _, _, _ => List.Pairwise.nil
 | n :: l, a, b, h => by
   rw [Man.lastF] at h
   split at h
   · cases h
   · exact List.pairwise_cons.2 ⟨fun m hm => ((Man.lastF_mem _ _ _ h).2 m hm).1, rises l n b h⟩
theorem right_inj {next : Int} {nums : List Int} (h : Man.right next nums = true) {i j : Nat} {n : Int} (hi : nums[i]? = some n) (hj : nums[j]? = some n) : i = j := by
 obtain ⟨last, h1, _⟩ := Man.right_iff.1 h
 have hp := rises _ _ _ h1
 obtain ⟨li, ei⟩ := List.getElem?_eq_some_iff.1 hi
 obtain ⟨lj, ej⟩ := List.getElem?_eq_some_iff.1 hj
 rcases Nat.lt_trichotomy i j with h | h | h
 · have := List.pairwise_iff_getElem.1 hp i j li lj h
   omega
 · exact h
 · have := List.pairwise_iff_getElem.1 hp j i lj li h
   omega
theorem name_of {next : Int} {nums : List Int} (h : Man.right next nums = true) {n m : Int} (hn : n ∈ nums) (hm : m ∈ nums) (e : Seg.nameOf n = Seg.nameOf m) : n = m := by
 obtain ⟨h1, h2, h3, h4⟩ := Man.right_mem h
 have g1 := h4 n hn
 have g2 := h4 m hm
 exact Seg.name_inj (by omega) (by omega) (by omega) (by omega) e
theorem held_nil : Holds [] [] 1 [] [] :=
 ⟨by simp [Dk.Sorted], by simp [Man.right, Man.lastF], .inl ⟨rfl, rfl, rfl⟩, fun i n h => by simp at h, fun _ _ _ => rfl, others_nil, fun _ => rfl, by simp, by simp, rfl⟩
theorem man_bytes (next : Int) (nums : List Int) (h : nums.length ≤ 30) : (Man.bytes next nums).size ≤ 200 := by
 have := (Man.body_len next nums).1
 rw [Lib.size_eq]
 simp only [Man.bytes, Frm.framed_len]; omega
theorem Holds.man_le {ex fs : List Dk.File} {next : Int} {nums : List Int} {L : List Evt.Entry} (h : Holds ex fs next nums L) : manSize fs ≤ 200 := by
 have h3 := (Man.right_mem h.right).2.2.1
 unfold manSize
 rcases h.man with ⟨_, _, e⟩ | e
 · rw [e]; exact Nat.zero_le _
 · rw [e]; exact man_bytes _ _ h3
theorem Holds.grow {ex fs : List Dk.File} {next room : Int} {nums : List Int} {L : List Evt.Entry} (h : Holds ex fs next nums L) (hf : L.length = 8 * nums.length) (h30 : nums.length < 30) (hn : next < 1073741824) (hr : (200 + 200 + 15 * (nums.length + 1) + (Seg.bytesB L).length : Int) ≤ room - (Dk.total ex : Int)) :
   ∃ f1 f2, Seg.create room next (L.length + 1) fs = (f1, 0) ∧ Man.save room (next + 1) (nums ++ [next]) f1 = (f2, 0) ∧ Holds ex f2 (next + 1) (nums ++ [next]) L := by
 obtain ⟨r1, r2, r3, r4⟩ := Man.right_mem h.right
 have hml := h.man_le
 have htot := h.tot
 have hlen := h.len
 have hnew : Dk.look fs (Seg.nameOf next) = none := by
   rw [h.oth _ (Man.file_ne_seg next) (fun n hm e => ?_), h.exs.seg next r1 (by omega)]
   have g := r4 n hm
   have := Seg.name_inj (n := next) (m := n) r1 r2 g.1 (by omega) e
   omega
 have hc := Seg.create_look (room := room) (n := next) (first := (L.length : Int) + 1) (fs := fs) r1 r2 (by omega) (by omega) h.sorted hnew (by omega) (by omega)
 obtain ⟨y, hy⟩ : ∃ y : Dk.File, y = ⟨Seg.nameOf next, ⟨(Seg.bytesH ((L.length : Int) + 1)).toArray⟩, (⟨(Seg.bytesH ((L.length : Int) + 1)).toArray⟩ : ByteArray).size⟩ := ⟨_, rfl⟩
 rw [← hy] at hc
 have hyn : y.name = Seg.nameOf next := by rw [hy]
 have hys : y.bytes.size ≤ 15 := by rw [hy]; simp only; rw [Lib.size_eq]; exact Seg.bytesH_len _
 have s1 := Dk.sorted_put y fs h.sorted
 have t1 := Dk.put_total y fs h.sorted
 rw [hyn, hnew] at t1
 simp only at t1
 have l1 := Dk.put_len y fs h.sorted
 rw [hyn, hnew] at l1
 simp only [Option.isSome_none, Bool.false_eq_true, if_false] at l1
 have hrt := Man.right_append h.right hn h30
 have temp1 : Dk.look (Dk.put y fs) Seg.temp = none := by
   rw [Dk.look_put_other y (by rw [hyn]; exact fun e => Seg.temp_ne next e.symm)]
   exact (h.oth _ (fun e => Man.file_ne_temp e.symm) (fun n _ e => Seg.temp_ne n e.symm)).trans h.exs.temp
 have man1 : Dk.look (Dk.put y fs) Man.file = Dk.look fs Man.file := Dk.look_put_other y (by rw [hyn]; exact fun e => Man.file_ne_seg next e.symm) fs
 have hb := man_bytes (next + 1) (nums ++ [next]) (by simp; omega)
 have hw := Man.write_ok (room := room) (k := Man.file) (s := Man.bytes (next + 1) (nums ++ [next])) s1 Man.file_named Man.file_ne_temp temp1 (by omega) (by omega)
 refine ⟨_, _, hc, by rw [Man.save, if_pos hrt]; exact hw, Dk.sorted_put _ _ s1, hrt, .inr (Dk.look_put_same (manF (next + 1) (nums ++ [next])) _), ?_, ?_, h.exs, fun e => by simp at e, by simp; omega, by simp; omega, h.fol⟩
 · intro i n hi
   have hne : Seg.nameOf n ≠ (manF (next + 1) (nums ++ [next])).name := Man.file_ne_seg n
   rw [Dk.look_put_other (manF (next + 1) (nums ++ [next])) hne]
   by_cases hil : i < nums.length
   · rw [List.getElem?_append_left hil] at hi
     have hnm : n ∈ nums := List.mem_of_getElem? hi
     rw [Dk.look_put_other y (by rw [hyn]; intro e; have g := r4 n hnm; have := Seg.name_inj (n := n) (m := next) g.1 (by omega) r1 r2 e; omega)]
     exact h.seg i n hi
   · have hie : i = nums.length := by
       have := (List.getElem?_eq_some_iff.1 hi).1
       simp at this; omega
     subst hie
     rw [List.getElem?_append_right (Nat.le_refl _), Nat.sub_self] at hi
     simp only [List.getElem?_cons_zero, Option.some.injEq] at hi
     subst hi
     have e1 := Dk.look_put_same y fs
     rw [hyn] at e1
     rw [e1, hy]
     have hch : chunk nums.length L = [] := by unfold chunk; rw [List.drop_eq_nil_of_le (by omega)]; rfl
     have hcast : ((8 * nums.length + 1 : Nat) : Int) = (L.length : Int) + 1 := by omega
     simp only [segF, hch, hcast, Seg.whole, Seg.bytesB_nil, List.append_nil]
 · intro k hk hks
   rw [Dk.look_put_other (manF (next + 1) (nums ++ [next])) hk, Dk.look_put_other y (by rw [hyn]; exact hks next (by simp))]
   exact h.oth k hk (fun n hn => hks n (by simp [hn]))
theorem follows_lower : ∀ (l : List Evt.Entry) (pos e e' : Int), e' ≤ e → Evt.follows l pos e = true → Evt.follows l pos e' = true
 | [], _, _, _, _, _ => rfl
 | x :: l, pos, e, e', h, hf => by
   obtain ⟨h1, h2, h3, h4⟩ := Seg.follows_cons.1 hf
   exact Seg.follows_cons.2 ⟨h1, by omega, h3, h4⟩
theorem end_pos : ∀ (l : List Evt.Entry) (pos e : Int), Evt.follows l pos e = true → (Seg.endOf pos e l).1 = pos + l.length ∧ e ≤ (Seg.endOf pos e l).2
 | [], _, _, _ => by simp [Seg.endOf]
 | x :: l, pos, e, hf => by
   obtain ⟨h1, h2, h3, h4⟩ := Seg.follows_cons.1 hf
   obtain ⟨g1, g2⟩ := end_pos l _ _ h4
   rw [Seg.endOf, g1, List.length_cons]
   exact ⟨by omega, by omega⟩
theorem end_same : ∀ (l : List Evt.Entry) (p e p' e' : Int), l ≠ [] → Seg.endOf p e l = Seg.endOf p' e' l
 | [], _, _, _, _, h => absurd rfl h
 | _ :: _, _, _, _, _, _ => rfl
theorem endOf_append : ∀ (a b : List Evt.Entry) (p e : Int), Seg.endOf p e (a ++ b) = Seg.endOf (Seg.endOf p e a).1 (Seg.endOf p e a).2 b
 | [], _, _, _ => rfl
 | x :: a, b, p, e => by rw [List.cons_append, Seg.endOf, endOf_append a b, Seg.endOf]
theorem Holds.chunks {ex fs : List Dk.File} {next : Int} {nums : List Int} {L : List Evt.Entry} (h : Holds ex fs next nums L) (i : Nat) (hi : i < nums.length) : Evt.follows (chunk i L) (8 * i : Nat) 0 = true := by
 have e : L = L.take (8 * i) ++ (chunk i L ++ (L.drop (8 * i)).drop 8) := by
   unfold chunk; rw [List.take_append_drop, List.take_append_drop]
 have hf := h.fol
 rw [e] at hf
 obtain ⟨f1, f2⟩ := (Seg.follows_append _ _ _ _).1 hf
 obtain ⟨g1, g2⟩ := end_pos _ _ _ f1
 have f3 := ((Seg.follows_append _ _ _ _).1 f2).1
 have hl : (L.take (8 * i)).length = 8 * i := by
   have := h.low
   rw [List.length_take]; omega
 rw [g1, hl] at f3
 have f4 := follows_lower _ _ _ 0 g2 f3
 simpa using f4
theorem Holds.add {ex fs : List Dk.File} {next room : Int} {nums : List Int} {L m : List Evt.Entry} {n : Int} (h : Holds ex fs next nums L) (hn : nums[nums.length - 1]? = some n) (hm : (L ++ m).length ≤ 8 * nums.length) (hfo : Evt.follows (L ++ m) 0 0 = true) (hr : (200 + 15 * nums.length + (Seg.bytesB (L ++ m)).length : Int) ≤ room - (Dk.total ex : Int)) :
   ∃ f, Seg.addD room n m fs = (f, 0) ∧ Holds ex f next nums (L ++ m) := by
 obtain ⟨r1, r2, r3, r4⟩ := Man.right_mem h.right
 have hml := h.man_le
 have htot := h.tot
 have hlow := h.low
 have hlt : nums.length - 1 < nums.length := (List.getElem?_eq_some_iff.1 hn).1
 obtain ⟨i, hi⟩ : ∃ i, nums.length - 1 = i := ⟨_, rfl⟩
 rw [hi] at hn hlt
 have hnl : nums.length = i + 1 := by omega
 have hnr := r4 n (List.mem_of_getElem? hn)
 have hch := h.chunks i hlt
 have hlk := h.seg i n hn
 have hld : Seg.loadD n fs = (⟨((8 * i + 1 : Nat) : Int), chunk i L, false⟩, 0) := by
   rw [Seg.loadD_look hlk]
   exact Seg.load_bytes _ _ (by omega) (by omega) (by rw [show (((8 * i + 1 : Nat) : Int) - 1) = ((8 * i : Nat) : Int) by omega]; exact hch)
 have eL : L = L.take (8 * i) ++ chunk i L := by
   have e : (L.drop (8 * i)).take 8 = L.drop (8 * i) := List.take_of_length_le (by rw [List.length_drop]; have := h.high; omega)
   unfold chunk; rw [e, List.take_append_drop]
 have hlt8 : (L.take (8 * i)).length = 8 * i := by rw [List.length_take]; omega
 have hgo : Evt.follows m (Seg.last ⟨((8 * i + 1 : Nat) : Int), chunk i L, false⟩).1 (Seg.last ⟨((8 * i + 1 : Nat) : Int), chunk i L, false⟩).2 = true := by
   rw [Seg.last_end]
   simp only
   have f := ((Seg.follows_append L m 0 0).1 hfo).2
   have fl := h.fol
   rw [eL] at fl
   obtain ⟨f1, f2⟩ := (Seg.follows_append _ _ _ _).1 fl
   obtain ⟨g1, g2⟩ := end_pos _ _ _ f1
   rw [hlt8] at g1
   rw [eL, endOf_append] at f
   by_cases hc : chunk i L = []
   · rw [hc] at f ⊢
     simp only [Seg.endOf] at f ⊢
     rw [g1] at f
     have := follows_lower _ _ _ 0 g2 f
     rw [show (((8 * i + 1 : Nat) : Int) - 1) = 0 + ((8 * i : Nat) : Int) by omega]; exact this
   · rw [end_same (chunk i L) _ _ (((8 * i + 1 : Nat) : Int) - 1) 0 hc] at f; exact f
 have hcm : chunk i (L ++ m) = chunk i L ++ m := by
   unfold chunk
   rw [List.length_append] at hm
   rw [List.drop_append_of_le_length (by omega), List.take_of_length_le (by rw [List.length_append, List.length_drop]; omega), List.take_of_length_le (by rw [List.length_drop]; omega)]
 have hbb : (Seg.bytesB (L ++ m)).length = (Seg.bytesB L).length + (Seg.bytesB m).length := by rw [Seg.bytesB_append, List.length_append]
 rw [Seg.add_look hld]
 simp only [Bool.false_eq_true, if_false, hgo, Bool.true_eq_false]
 by_cases hm0 : m = []
 · subst hm0
   rw [if_pos rfl, List.append_nil]
   exact ⟨fs, rfl, h⟩
 · rw [if_neg hm0]
   have hbs : (⟨(Seg.bytesB m).toArray⟩ : ByteArray).size = (Seg.bytesB m).length := by rw [Lib.size_eq]
   obtain ⟨a1, a2⟩ := Seg.more_sync (room := room) (s := ⟨(Seg.bytesB m).toArray⟩) h.sorted (Seg.name_named n (by omega) (by omega)) hlk (by rw [hbs]; omega)
   rw [a2, a1, if_pos rfl]
   have hfile : (⟨Seg.nameOf n, (segF i n L).bytes ++ ⟨(Seg.bytesB m).toArray⟩, ((segF i n L).bytes ++ ⟨(Seg.bytesB m).toArray⟩).size⟩ : Dk.File) = segF i n (L ++ m) := by
     simp only [segF, hcm, Seg.whole_append]
   rw [hfile]
   have hsn : (segF i n (L ++ m)).name = Seg.nameOf n := rfl
   have hman : Dk.look (Dk.put (segF i n (L ++ m)) fs) Man.file = Dk.look fs Man.file := Dk.look_put_other (segF i n (L ++ m)) (fun e => Man.file_ne_seg n e.symm) fs
   refine ⟨_, rfl, Dk.sorted_put _ _ h.sorted, h.right, ?_, ?_, ?_, h.exs, fun e => by rw [e] at hlt; simp at hlt, by rw [List.length_append]; omega, hm, hfo⟩
   · rw [hman]; exact h.man
   · intro j n' hj
     by_cases e : j = i
     · subst e
       rw [hn] at hj
       cases hj
       exact Dk.look_put_same (segF j n (L ++ m)) fs
     · have hjl := (List.getElem?_eq_some_iff.1 hj).1
       have hne : Seg.nameOf n' ≠ (segF i n (L ++ m)).name := fun e2 => by
         have := name_of h.right (List.mem_of_getElem? hj) (List.mem_of_getElem? hn) e2
         subst this
         exact e (right_inj h.right hj hn)
       rw [Dk.look_put_other (segF i n (L ++ m)) hne, h.seg j n' hj]
       have hcj : chunk j (L ++ m) = chunk j L := by
         unfold chunk
         rw [List.drop_append_of_le_length (by omega), List.take_append_of_le_length (by rw [List.length_drop]; omega)]
       simp only [segF, hcj]
   · intro k hk hks
     rw [Dk.look_put_other (segF i n (L ++ m)) (hks n (List.mem_of_getElem? hn))]
     exact h.oth k hk hks
theorem keepN_follows : ∀ (l : List Evt.Entry) (pos e last : Int), Evt.follows l pos e = true → Seg.keepN last l = min l.length (last - pos).toNat
 | [], _, _, _, _ => by simp [Seg.keepN]
 | x :: l, pos, e, last, hf => by
   obtain ⟨h1, h2, h3, h4⟩ := Seg.follows_cons.1 hf
   have ih := keepN_follows l x.pos x.epoch last h4
   unfold Seg.keepN at ih ⊢
   rw [List.takeWhile_cons]
   by_cases h : x.pos ≤ last
   · rw [if_pos (by simpa using h), List.length_cons, List.length_cons, ih]; omega
   · rw [if_neg (by simpa using h), List.length_nil, List.length_cons]; omega
theorem chunk_take {j t : Nat} (L : List Evt.Entry) (h : 8 * (j + 1) ≤ t) : chunk j (L.take t) = chunk j L := by
 unfold chunk
 rw [List.drop_take, List.take_take, Nat.min_eq_left (by omega)]
theorem chunk_last {i t : Nat} (L : List Evt.Entry) (hL : L.length ≤ 8 * (i + 1)) : chunk i (L.take t) = (chunk i L).take (t - 8 * i) := by
 unfold chunk
 have e : (L.drop (8 * i)).take 8 = L.drop (8 * i) := List.take_of_length_le (by rw [List.length_drop]; omega)
 rw [e, List.drop_take, List.take_take, Nat.min_comm, ← List.take_take, e]
theorem Holds.cut {ex fs : List Dk.File} {next room : Int} {nums : List Int} {L : List Evt.Entry} {n : Int} (h : Holds ex fs next nums L) (hn : nums[nums.length - 1]? = some n) (t : Nat) (hlo : 8 * (nums.length - 1) ≤ t) (hr : (300 + 15 * nums.length + 2 * (Seg.bytesB L).length + 15 : Int) ≤ room - (Dk.total ex : Int)) :
   ∃ f, Seg.cutD room n (t : Int) fs = (f, 0) ∧ Holds ex f next nums (L.take t) := by
 obtain ⟨r1, r2, r3, r4⟩ := Man.right_mem h.right
 have hml := h.man_le
 have htot := h.tot
 have hlen := h.len
 have hlow := h.low
 have hhigh := h.high
 have hlt : nums.length - 1 < nums.length := (List.getElem?_eq_some_iff.1 hn).1
 obtain ⟨i, hi⟩ : ∃ i, nums.length - 1 = i := ⟨_, rfl⟩
 rw [hi] at hn hlt hlo
 have hnl : nums.length = i + 1 := by omega
 have hnr := r4 n (List.mem_of_getElem? hn)
 have hch := h.chunks i hlt
 have hlk := h.seg i n hn
 have hld : Seg.loadD n fs = (⟨((8 * i + 1 : Nat) : Int), chunk i L, false⟩, 0) := by
   rw [Seg.loadD_look hlk]
   exact Seg.load_bytes _ _ (by omega) (by omega) (by rw [show (((8 * i + 1 : Nat) : Int) - 1) = ((8 * i : Nat) : Int) by omega]; exact hch)
 have hkN := keepN_follows (chunk i L) ((8 * i : Nat) : Int) 0 (t : Int) hch
 have hcl : (chunk i L).length = L.length - 8 * i := by
   unfold chunk; rw [List.length_take, List.length_drop]; omega
 have hkt : ((t : Int) - ((8 * i : Nat) : Int)).toNat = t - 8 * i := by omega
 rw [hkt, hcl] at hkN
 have hcL := chunk_last (i := i) (t := t) L (by omega)
 have temp1 : Dk.look fs Seg.temp = none := (h.oth _ (fun e => Man.file_ne_temp e.symm) (fun n _ e => Seg.temp_ne n e.symm)).trans h.exs.temp
 by_cases hall : L.length ≤ t
 · refine ⟨fs, Seg.cut_same hld (by simp only; omega) rfl, ?_⟩
   rw [List.take_of_length_le hall]; exact h
 · have htk : (chunk i L).take (Seg.keepN (t : Int) (chunk i L)) = chunk i (L.take t) := by
     rw [hkN, hcL, Nat.min_eq_right (by omega)]
   have hfile : (⟨Seg.nameOf n, Seg.whole ((8 * i + 1 : Nat) : Int) (chunk i (L.take t)), (Seg.whole ((8 * i + 1 : Nat) : Int) (chunk i (L.take t))).size⟩ : Dk.File) = segF i n (L.take t) := rfl
   have hws : (Seg.whole ((8 * i + 1 : Nat) : Int) (chunk i (L.take t))).size ≤ 15 + (Seg.bytesB L).length := by
     rw [Lib.size_eq]
     have hb := Seg.bytesH_len ((8 * i + 1 : Nat) : Int)
     have e : L = L.take (8 * i) ++ ((chunk i L).take (t - 8 * i) ++ ((chunk i L).drop (t - 8 * i) ++ (L.drop (8 * i)).drop 8)) := by
       rw [← List.append_assoc ((chunk i L).take _), List.take_append_drop]
       unfold chunk
       rw [List.take_append_drop, List.take_append_drop]
     have hle : (Seg.bytesB L).length = (Seg.bytesB (L.take (8 * i) ++ ((chunk i L).take (t - 8 * i) ++ ((chunk i L).drop (t - 8 * i) ++ (L.drop (8 * i)).drop 8)))).length := congrArg (fun l => (Seg.bytesB l).length) e
     rw [Seg.bytesB_append, Seg.bytesB_append, List.length_append, List.length_append] at hle
     rw [hcL]
     simp only [Seg.whole, List.length_append]
     omega
   have hc := Seg.cut_new (room := room) (n := n) (last := (t : Int)) (s := Seg.whole ((8 * i + 1 : Nat) : Int) (chunk i (L.take t))) (by omega) (by omega) h.sorted hld (by simp only; omega) temp1 (by omega)
     (by simp only [htk, Seg.whole]) (by omega)
   rw [hfile] at hc
   have hsn : (segF i n (L.take t)).name = Seg.nameOf n := rfl
   have hman : Dk.look (Dk.put (segF i n (L.take t)) fs) Man.file = Dk.look fs Man.file := Dk.look_put_other (segF i n (L.take t)) (fun e => Man.file_ne_seg n e.symm) fs
   refine ⟨_, hc, Dk.sorted_put _ _ h.sorted, h.right, ?_, ?_, ?_, h.exs, fun e => by rw [e] at hlt; simp at hlt, by rw [List.length_take]; omega, by rw [List.length_take]; omega, ?_⟩
   · rw [hman]; exact h.man
   · intro j n' hj
     by_cases e : j = i
     · subst e
       rw [hn] at hj
       cases hj
       exact Dk.look_put_same (segF j n (L.take t)) fs
     · have hjl := (List.getElem?_eq_some_iff.1 hj).1
       have hne : Seg.nameOf n' ≠ (segF i n (L.take t)).name := fun e2 => by
         have := name_of h.right (List.mem_of_getElem? hj) (List.mem_of_getElem? hn) e2
         subst this
         exact e (right_inj h.right hj hn)
       rw [Dk.look_put_other (segF i n (L.take t)) hne, h.seg j n' hj]
       simp only [segF, chunk_take (j := j) (t := t) L (by omega)]
   · intro k hk hks
     rw [Dk.look_put_other (segF i n (L.take t)) (hks n (List.mem_of_getElem? hn))]
     exact h.oth k hk hks
   · have hf := h.fol
     rw [← List.take_append_drop t L] at hf
     exact ((Seg.follows_append _ _ _ _).1 hf).1
def dels : List Int → List Dk.File → List Dk.File
 | [], fs => fs
 | n :: l, fs => dels l (Dk.del (Seg.nameOf n) fs)
theorem dels_sorted : ∀ (l : List Int) (fs : List Dk.File), Dk.Sorted fs → Dk.Sorted (dels l fs)
 | [], _, h => h
 | _ :: l, _, h => dels_sorted l _ (Dk.sorted_del _ _ h)
theorem dels_look : ∀ (l : List Int) (fs : List Dk.File) (k : List UInt8), Dk.Sorted fs → Dk.look (dels l fs) k = if k ∈ l.map Seg.nameOf then none else Dk.look fs k
 | [], fs, k, _ => by simp [dels]
 | n :: l, fs, k, h => by
   rw [dels, dels_look l _ k (Dk.sorted_del _ _ h)]
   by_cases e : k = Seg.nameOf n
   · subst e
     rw [Dk.look_del_same _ fs h]
     simp
   · rw [Dk.look_del_other _ e]
     simp [e]
theorem Holds.drop {ex fs : List Dk.File} {next room : Int} {nums : List Int} {L : List Evt.Entry} (h : Holds ex fs next nums L) (k : Nat) (hk : k < nums.length) (hr : (600 + 15 * nums.length + (Seg.bytesB L).length : Int) ≤ room - (Dk.total ex : Int)) :
   ∃ f1, Man.save room next (nums.take k) fs = (f1, 0) ∧ Dk.Sorted f1 ∧ Holds ex (dels (nums.drop k) f1) next (nums.take k) (L.take (8 * k)) := by
 obtain ⟨r1, r2, r3, r4⟩ := Man.right_mem h.right
 have hml := h.man_le
 have htot := h.tot
 have hlen := h.len
 have hlow := h.low
 have hrt := Man.right_take k h.right
 have hb := man_bytes next (nums.take k) (by rw [List.length_take]; omega)
 have temp1 : Dk.look fs Seg.temp = none := (h.oth _ (fun e => Man.file_ne_temp e.symm) (fun n _ e => Seg.temp_ne n e.symm)).trans h.exs.temp
 have hw := Man.write_ok (room := room) (k := Man.file) (s := Man.bytes next (nums.take k)) h.sorted Man.file_named Man.file_ne_temp temp1 (by omega) (by omega)
 have s1 := Dk.sorted_put (manF next (nums.take k)) fs h.sorted
 have hout : ∀ n ∈ nums.take k, Seg.nameOf n ∉ (nums.drop k).map Seg.nameOf := by
   intro n hn hm
   obtain ⟨m, hm1, hm2⟩ := List.mem_map.1 hm
   have e := name_of h.right (List.mem_of_mem_take hn) (List.mem_of_mem_drop hm1) hm2.symm
   subst e
   obtain ⟨i, hi⟩ := List.mem_iff_getElem?.1 hn
   obtain ⟨j, hj⟩ := List.mem_iff_getElem?.1 hm1
   have hil := (List.getElem?_eq_some_iff.1 hi).1
   rw [List.length_take] at hil
   rw [List.getElem?_take_of_lt (by omega)] at hi
   rw [List.getElem?_drop] at hj
   have := right_inj h.right hi hj
   omega
 refine ⟨_, by rw [Man.save, if_pos hrt]; exact hw, s1, dels_sorted _ _ s1, hrt, .inr ?_, ?_, ?_, h.exs, ?_, ?_, ?_, ?_⟩
 · rw [dels_look _ _ _ s1, if_neg (fun hm => by
     obtain ⟨m, _, hm2⟩ := List.mem_map.1 hm
     exact Man.file_ne_seg m hm2)]
   exact Dk.look_put_same (manF next (nums.take k)) fs
 · intro i n hi
   have hil := (List.getElem?_eq_some_iff.1 hi).1
   rw [List.length_take] at hil
   have hnm := List.mem_of_getElem? hi
   rw [List.getElem?_take_of_lt (by omega)] at hi
   rw [dels_look _ _ _ s1, if_neg (hout n hnm), Dk.look_put_other (manF next (nums.take k)) (show Seg.nameOf n ≠ (manF next (nums.take k)).name from Man.file_ne_seg n), h.seg i n hi]
   simp only [segF, chunk_take (j := i) (t := 8 * k) L (by omega)]
 · intro j hj hks
   rw [dels_look _ _ _ s1]
   by_cases hm : j ∈ (nums.drop k).map Seg.nameOf
   · rw [if_pos hm]
     obtain ⟨m, hm1, hm2⟩ := List.mem_map.1 hm
     have g := r4 m (List.mem_of_mem_drop hm1)
     rw [← hm2, h.exs.seg m (by omega) (by omega)]
   · rw [if_neg hm, Dk.look_put_other (manF next (nums.take k)) (show j ≠ (manF next (nums.take k)).name from hj)]
     refine h.oth j hj (fun n hn e => ?_)
     rw [← List.take_append_drop k nums] at hn
     rcases List.mem_append.1 hn with hn | hn
     · exact hks n hn e
     · exact hm (List.mem_map.2 ⟨n, hn, e.symm⟩)
 · intro e
   have : k = 0 := by
     have := congrArg List.length e
     rw [List.length_take, List.length_nil] at this; omega
   subst this; rfl
 · rw [List.length_take, List.length_take]; omega
 · rw [List.length_take, List.length_take]; omega
 · have hf := h.fol
   rw [← List.take_append_drop (8 * k) L] at hf
   exact ((Seg.follows_append _ _ _ _).1 hf).1
theorem Holds.man_load {ex fs : List Dk.File} {next : Int} {nums : List Int} {L : List Evt.Entry} (h : Holds ex fs next nums L) : Man.load fs = ((next, nums), 0) := by
 rcases h.man with ⟨h1, h2, h3⟩ | h1
 · rw [h1, h2]; exact Man.load_none h3
 · exact Man.load_at h.right h1
theorem Holds.part_load {ex fs : List Dk.File} {next : Int} {nums : List Int} {L : List Evt.Entry} (h : Holds ex fs next nums L) {i : Nat} {n : Int} (hi : nums[i]? = some n) : Seg.loadD n fs = (⟨((8 * i + 1 : Nat) : Int), chunk i L, false⟩, 0) := by
 have hlt := (List.getElem?_eq_some_iff.1 hi).1
 have h30 := (Man.right_mem h.right).2.2.1
 rw [Seg.loadD_look (h.seg i n hi)]
 exact Seg.load_bytes _ _ (by omega) (by omega) (by rw [show (((8 * i + 1 : Nat) : Int) - 1) = ((8 * i : Nat) : Int) by omega]; exact h.chunks i hlt)
theorem take_next (i : Nat) (L : List Evt.Entry) : L.take (8 * i) ++ chunk i L = L.take (8 * (i + 1)) := by
 unfold chunk
 rw [show 8 * (i + 1) = 8 * i + 8 by omega, List.take_add]
theorem Holds.part_at {ex fs : List Dk.File} {next : Int} {nums : List Int} {L : List Evt.Entry} (h : Holds ex fs next nums L) {i : Nat} (hi : i < nums.length) : (L.take (8 * i)).length = 8 * i ∧ ∀ e l, chunk i L = e :: l → (Seg.endOf 0 0 (L.take (8 * i))).2 ≤ e.epoch := by
 have hlow := h.low
 refine ⟨by rw [List.length_take]; omega, fun e l he => ?_⟩
 have hf := h.fol
 rw [← List.take_append_drop (8 * (i + 1)) L, ← take_next] at hf
 have h1 := ((Seg.follows_append _ _ _ _).1 hf).1
 have h2 := ((Seg.follows_append _ _ _ _).1 h1).2
 rw [he] at h2
 exact (Seg.follows_cons.1 h2).2.1
theorem Holds.take_all {ex fs : List Dk.File} {next : Int} {nums : List Int} {L : List Evt.Entry} (h : Holds ex fs next nums L) : L.take (8 * nums.length) = L := List.take_of_length_le h.high
end Go.Proofs.YtgddgipjpdjoaaaGreatDoor.Lg
namespace Go.Proofs.YtgddgipjpdjoaaaGreatDoor.Mk
def marksF : Option Int → List Evt.Entry → List (Int × Int)
 | _, [] => []
 | p, e :: l => (if p = some e.epoch then [] else [(e.epoch, e.pos)]) ++ marksF (some e.epoch) l
def marks (l : List Evt.Entry) : List (Int × Int) := marksF none l
def told (q : Int) (n : Int) (ms : List (Int × Int)) : Int := ms.foldl (fun n m => if m.2 ≤ q then m.1 else n) n
theorem told_append (q n : Int) (a b : List (Int × Int)) : told q n (a ++ b) = told q (told q n a) b := by unfold told; rw [List.foldl_append]
theorem told_before : ∀ (l : List Evt.Entry) (pos x n q : Int) (p : Option Int), Evt.follows l pos x = true → q ≤ pos → told q n (marksF p l) = n
 | [], _, _, _, _, _, _, _ => rfl
 | e :: l, pos, x, n, q, p, hf, hq => by
   obtain ⟨h1, h2, h3, h4⟩ := Seg.follows_cons.1 hf
   rw [marksF, told_append, told_before l e.pos e.epoch _ q _ h4 (by omega)]
   split
   · rfl
   · simp only [told, List.foldl_cons, List.foldl_nil]
     rw [if_neg (by omega)]
theorem told_at : ∀ (l : List Evt.Entry) (pos x n q : Int) (p : Option Int), Evt.follows l pos x = true → (∀ y, p = some y → n = y) → pos < q → q ≤ pos + l.length → (l[(q - pos - 1).toNat]?).map (·.epoch) = some (told q n (marksF p l))
 | [], pos, _, _, q, _, _, _, h1, h2 => by simp only [List.length_nil] at h2; omega
 | e :: l, pos, x, n, q, p, hf, hp, hq, hl => by
   obtain ⟨h1, h2, h3, h4⟩ := Seg.follows_cons.1 hf
   have hn : told q n (if p = some e.epoch then [] else [(e.epoch, e.pos)]) = e.epoch := by
     split
     · rename_i h
       exact hp _ h
     · simp only [told, List.foldl_cons, List.foldl_nil]
       rw [if_pos (by omega)]
   rw [marksF, told_append, hn]
   by_cases hq1 : q ≤ e.pos
   · rw [told_before l e.pos e.epoch _ q _ h4 hq1, show (q - pos - 1).toNat = 0 by omega]
     rfl
   · have ih := told_at l e.pos e.epoch e.epoch q (some e.epoch) h4 (fun y hy => by cases hy; rfl) (by omega) (by rw [List.length_cons] at hl; omega)
     rw [← ih, show (q - pos - 1).toNat = (q - e.pos - 1).toNat + 1 by omega, List.getElem?_cons_succ]
theorem marks_tell {l : List Evt.Entry} (hf : Evt.follows l 0 0 = true) {q : Int} (h1 : 1 ≤ q) (h2 : q ≤ l.length) : (l[(q - 1).toNat]?).map (·.epoch) = some (told q 0 (marks l)) := by
 have := told_at l 0 0 0 q none hf (fun y hy => by cases hy) (by omega) (by omega)
 rwa [show q - 0 - 1 = q - 1 by omega] at this
theorem marks_len : ∀ (l : List Evt.Entry) (p : Option Int), (marksF p l).length ≤ l.length
 | [], _ => Nat.le_refl _
 | e :: l, p => by
   have := marks_len l (some e.epoch)
   rw [marksF, List.length_append, List.length_cons]
   split <;> simp only [List.length_nil, List.length_cons] <;> omega
end Go.Proofs.YtgddgipjpdjoaaaGreatDoor.Mk
namespace Go.Proofs.YtgddgipjpdjoaaaGreatDoor.Lg
structure S where
 next : Int
 parts : List (Int × Int)
 es : List Evt.Entry
def S.nums (s : S) : List Int := s.parts.map (·.1)
def epochOf (es : List Evt.Entry) : Int := (Seg.endOf 0 0 es).2
def goesOn (g : Seg.Seg) (es : List Evt.Entry) : Bool :=
 decide (g.first = (es.length : Int) + 1) && (match g.entries with | [] => true | e :: _ => decide (epochOf es ≤ e.epoch))
def S.more (s : S) (n : Int) (g : Seg.Seg) : S := ⟨s.next, s.parts ++ [(n, g.first)], s.es ++ g.entries⟩
def readF (room n : Int) (s : S) (fs : List Dk.File) : (List Dk.File × S) × Bool × Nat :=
 if (Seg.loadD n fs).2 = 0 ∧ goesOn (Seg.loadD n fs).1 s.es = true then
   if (Seg.loadD n fs).1.torn = true then
     if (Seg.cutD room n ((Seg.loadD n fs).1.first + (Seg.loadD n fs).1.entries.length - 1) fs).2 = 0 then (((Seg.cutD room n ((Seg.loadD n fs).1.first + (Seg.loadD n fs).1.entries.length - 1) fs).1, s.more n (Seg.loadD n fs).1), true, 0)
     else (((Seg.cutD room n ((Seg.loadD n fs).1.first + (Seg.loadD n fs).1.entries.length - 1) fs).1, s), false, (Seg.cutD room n ((Seg.loadD n fs).1.first + (Seg.loadD n fs).1.entries.length - 1) fs).2)
   else ((fs, s.more n (Seg.loadD n fs).1), true, 0)
 else ((fs, s), false, 0)
def goneN (nums : List Int) (k : List UInt8) : Bool := k == Seg.temp || (decide (0 < Seg.numberOf k) && !nums.contains (Seg.numberOf k))
def newF (room : Int) (s : S) (fs : List Dk.File) : (List Dk.File × S) × Int × Nat :=
 if 30 ≤ s.parts.length then ((fs, s), 0, 4) else
 if (Seg.create room s.next ((s.es.length : Int) + 1) fs).2 ≠ 0 then (((Seg.create room s.next ((s.es.length : Int) + 1) fs).1, s), 0, (Seg.create room s.next ((s.es.length : Int) + 1) fs).2) else
 if (Man.save room (s.next + 1) (s.nums ++ [s.next]) (Seg.create room s.next ((s.es.length : Int) + 1) fs).1).2 ≠ 0 then
   (((Dk.delete (Seg.nameOf s.next) (Man.save room (s.next + 1) (s.nums ++ [s.next]) (Seg.create room s.next ((s.es.length : Int) + 1) fs).1).1).1, s), 0, (Man.save room (s.next + 1) (s.nums ++ [s.next]) (Seg.create room s.next ((s.es.length : Int) + 1) fs).1).2)
 else (((Man.save room (s.next + 1) (s.nums ++ [s.next]) (Seg.create room s.next ((s.es.length : Int) + 1) fs).1).1, ⟨s.next + 1, s.parts ++ [(s.next, (s.es.length : Int) + 1)], s.es⟩), 8, 0)
def roomF (room : Int) (s : S) (fs : List Dk.File) : (List Dk.File × S) × Int × Nat :=
 match s.parts.getLast? with
 | none => newF room s fs
 | some p => if (s.es.length : Int) + 1 - p.2 < 8 then ((fs, s), 8 - ((s.es.length : Int) + 1 - p.2), 0) else newF room s fs
def lastN (s : S) : Int := match s.parts.getLast? with | none => 0 | some p => p.1
def S.plus (s : S) (m : List Evt.Entry) : S := ⟨s.next, s.parts, s.es ++ m⟩
def appF (room : Int) : Nat → List Evt.Entry → S → List Dk.File → (List Dk.File × S) × Nat
 | 0, _, s, fs => ((fs, s), 0)
 | k + 1, e, s, fs =>
   if e = [] then ((fs, s), 0) else
   if (roomF room s fs).2.2 ≠ 0 then ((roomF room s fs).1, (roomF room s fs).2.2) else
   if (Seg.addD room (lastN (roomF room s fs).1.2) (e.take (min (roomF room s fs).2.1.toNat e.length)) (roomF room s fs).1.1).2 ≠ 0 then
     (((Seg.addD room (lastN (roomF room s fs).1.2) (e.take (min (roomF room s fs).2.1.toNat e.length)) (roomF room s fs).1.1).1, (roomF room s fs).1.2), (Seg.addD room (lastN (roomF room s fs).1.2) (e.take (min (roomF room s fs).2.1.toNat e.length)) (roomF room s fs).1.1).2)
   else appF room k (e.drop (min (roomF room s fs).2.1.toNat e.length)) ((roomF room s fs).1.2.plus (e.take (min (roomF room s fs).2.1.toNat e.length))) (Seg.addD room (lastN (roomF room s fs).1.2) (e.take (min (roomF room s fs).2.1.toNat e.length)) (roomF room s fs).1.1).1
def appendF (room : Int) (e : List Evt.Entry) (s : S) (fs : List Dk.File) : (List Dk.File × S) × Nat :=
 if Evt.follows e s.es.length (epochOf s.es) = true then appF room e.length e s fs else ((fs, s), 11)
def keepP (last : Int) (ps : List (Int × Int)) : Nat := (ps.takeWhile fun p => decide (p.2 ≤ last)).length
def firstOf (ps : List (Int × Int)) (k : Nat) : Int := match ps[k]? with | none => 0 | some p => p.2
def cutF (room last : Int) (s : S) (fs : List Dk.File) : (List Dk.File × S) × Nat :=
 match s.parts.getLast? with
 | none => ((fs, ⟨s.next, s.parts, s.es.take (min s.es.length last.toNat)⟩), 0)
 | some p => if (Seg.cutD room p.1 last fs).2 ≠ 0 then (((Seg.cutD room p.1 last fs).1, s), (Seg.cutD room p.1 last fs).2)
   else (((Seg.cutD room p.1 last fs).1, ⟨s.next, s.parts, s.es.take (min s.es.length last.toNat)⟩), 0)
def S.upto (s : S) (k : Nat) : S := ⟨s.next, s.parts.take k, s.es.take (min s.es.length (firstOf s.parts k - 1).toNat)⟩
def truncF (room last : Int) (s : S) (fs : List Dk.File) : (List Dk.File × S) × Nat :=
 if last < 0 then ((fs, s), 1) else if (s.es.length : Int) ≤ last then ((fs, s), 0) else
 if keepP last s.parts < s.parts.length then
   if (Man.save room s.next ((s.parts.take (keepP last s.parts)).map (·.1)) fs).2 ≠ 0 then (((Man.save room s.next ((s.parts.take (keepP last s.parts)).map (·.1)) fs).1, s), (Man.save room s.next ((s.parts.take (keepP last s.parts)).map (·.1)) fs).2)
   else cutF room last (s.upto (keepP last s.parts)) (dels ((s.parts.drop (keepP last s.parts)).map (·.1)) (Man.save room s.next ((s.parts.take (keepP last s.parts)).map (·.1)) fs).1)
 else cutF room last s fs
def partsOf (nums : List Int) : List (Int × Int) := nums.zipIdx.map fun p => (p.1, ((8 * p.2 + 1 : Nat) : Int))
def stateOf (next : Int) (nums : List Int) (L : List Evt.Entry) : S := ⟨next, partsOf nums, L⟩
theorem parts_nums (nums : List Int) : (partsOf nums).map (·.1) = nums := by
 unfold partsOf
 rw [List.map_map]
 exact List.zipIdx_map_fst 0 nums
theorem parts_len (nums : List Int) : (partsOf nums).length = nums.length := by simp [partsOf]
theorem parts_at (nums : List Int) (i : Nat) : (partsOf nums)[i]? = nums[i]?.map fun n => (n, ((8 * i + 1 : Nat) : Int)) := by
 simp [partsOf, List.getElem?_zipIdx]
 rfl
theorem parts_take (nums : List Int) (k : Nat) : (partsOf nums).take k = partsOf (nums.take k) := by
 apply List.ext_getElem?
 intro i
 rw [parts_at, List.getElem?_take, List.getElem?_take, parts_at]
 split <;> rfl
theorem parts_snoc (nums : List Int) (n : Int) : partsOf nums ++ [(n, ((8 * nums.length + 1 : Nat) : Int))] = partsOf (nums ++ [n]) := by
 simp [partsOf, List.zipIdx_append]
theorem read_part {ex fs : List Dk.File} {next room : Int} {nums : List Int} {L : List Evt.Entry} (h : Holds ex fs next nums L) {i : Nat} {n : Int} (hi : nums[i]? = some n) :
   readF room n ⟨next, partsOf (nums.take i), L.take (8 * i)⟩ fs = ((fs, ⟨next, partsOf (nums.take (i + 1)), L.take (8 * (i + 1))⟩), true, 0) := by
 have hlt := (List.getElem?_eq_some_iff.1 hi).1
 have hl := h.part_load hi
 obtain ⟨g1, g2⟩ := h.part_at hlt
 have hgo : goesOn ⟨((8 * i + 1 : Nat) : Int), chunk i L, false⟩ (L.take (8 * i)) = true := by
   unfold goesOn
   simp only
   rw [g1, decide_eq_true (by omega), Bool.true_and]
   cases hc : chunk i L with
   | nil => rfl
   | cons e l => exact decide_eq_true (g2 e l hc)
 unfold readF
 rw [hl]
 simp only [hgo, and_self, if_true, Bool.false_eq_true, if_false]
 have hs : nums.take (i + 1) = nums.take i ++ [n] := by
   rw [List.take_add_one, hi]; rfl
 have hp := parts_snoc (nums.take i) n
 rw [List.length_take, Nat.min_eq_left (by omega)] at hp
 simp only [S.more, take_next, hp, hs]
def roomy (room : Int) (nums : List Int) (L : List Evt.Entry) : Prop := (800 + 15 * (nums.length + 1) + 2 * (Seg.bytesB L).length + 15 : Int) ≤ room
theorem getLast_at {α : Type} (l : List α) : l.getLast? = l[l.length - 1]? := List.getLast?_eq_getElem?
theorem parts_last {nums : List Int} : (partsOf nums).getLast? = (nums[nums.length - 1]?).map fun n => (n, ((8 * (nums.length - 1) + 1 : Nat) : Int)) := by
 rw [getLast_at, parts_len, parts_at]
theorem Holds.room {ex fs : List Dk.File} {next room : Int} {nums : List Int} {L : List Evt.Entry} (h : Holds ex fs next nums L) (h30 : L.length < 240) (hn : next < 1073741824) (hr : roomy (room - (Dk.total ex : Int)) nums L) :
   ∃ f2 next2 nums2 k, roomF room (stateOf next nums L) fs = ((f2, stateOf next2 nums2 L), ((k : Nat) : Int), 0) ∧ Holds ex f2 next2 nums2 L ∧ 1 ≤ k ∧ L.length + k = 8 * nums2.length ∧ next2 ≤ next + 1 ∧ nums2.length ≤ L.length / 8 + 1 ∧ nums2 ≠ [] := by
 unfold roomy at hr
 have hlow := h.low
 have hhigh := h.high
 have hrm := Man.right_mem h.right
 unfold roomF
 have hnew : L.length = 8 * nums.length → ∃ f2 next2 nums2 k, newF room (stateOf next nums L) fs = ((f2, stateOf next2 nums2 L), ((k : Nat) : Int), 0) ∧ Holds ex f2 next2 nums2 L ∧ 1 ≤ k ∧ L.length + k = 8 * nums2.length ∧ next2 ≤ next + 1 ∧ nums2.length ≤ L.length / 8 + 1 ∧ nums2 ≠ [] := by
   intro he
   obtain ⟨f1, f2, g1, g2, g3⟩ := h.grow (room := room) he (by omega) hn (by omega)
   refine ⟨f2, next + 1, nums ++ [next], 8, ?_, g3, by omega, by simp; omega, Int.le_refl _, by simp; omega, by simp⟩
   have hp : (stateOf next nums L).parts.length = nums.length := parts_len nums
   have hnn : (stateOf next nums L).nums = nums := parts_nums nums
   unfold newF
   rw [hp, hnn, if_neg (by omega)]
   have e1 : (stateOf next nums L).next = next := rfl
   have e2 : (stateOf next nums L).es = L := rfl
   rw [e1, e2, g1]
   simp only [ne_eq, not_true_eq_false, if_false]
   rw [g2]
   simp only [not_true_eq_false, if_false]
   have hps := parts_snoc nums next
   rw [show ((8 * nums.length + 1 : Nat) : Int) = (L.length : Int) + 1 by omega] at hps
   have e3 : (stateOf next nums L).parts = partsOf nums := rfl
   rw [e3, hps]; rfl
 have e3 : (stateOf next nums L).parts = partsOf nums := rfl
 have e2 : (stateOf next nums L).es = L := rfl
 rw [e3, parts_last]
 cases hl : nums[nums.length - 1]? with
 | none =>
   have hz : nums = [] := by
     rw [List.getElem?_eq_none_iff] at hl
     exact List.eq_nil_of_length_eq_zero (by omega)
   simp only [Option.map_none]
   exact hnew (by rw [h.lo hz, hz]; rfl)
 | some n =>
   have hlt := (List.getElem?_eq_some_iff.1 hl).1
   simp only [Option.map_some, e2]
   by_cases hlt8 : (L.length : Int) + 1 - ((8 * (nums.length - 1) + 1 : Nat) : Int) < 8
   · rw [if_pos hlt8]
     refine ⟨fs, next, nums, 8 * nums.length - L.length, ?_, h, by omega, by omega, by omega, by omega, fun e => by rw [e] at hlt; simp at hlt⟩
     congr 2
     omega
   · rw [if_neg hlt8]
     exact hnew (by omega)
theorem lastN_of {next : Int} {nums : List Int} {L : List Evt.Entry} {n : Int} (h : nums[nums.length - 1]? = some n) : lastN (stateOf next nums L) = n := by
 have e3 : (stateOf next nums L).parts = partsOf nums := rfl
 unfold lastN
 rw [e3, parts_last, h]; rfl
theorem bytesB_mono (a b : List Evt.Entry) : (Seg.bytesB a).length ≤ (Seg.bytesB (a ++ b)).length := by
 rw [Seg.bytesB_append, List.length_append]; omega
theorem app_holds {ex : List Dk.File} {room : Int} : ∀ (k : Nat) (e : List Evt.Entry) (fs : List Dk.File) (next : Int) (nums : List Int) (L : List Evt.Entry), e.length ≤ k → Holds ex fs next nums L → Evt.follows (L ++ e) 0 0 = true → (L ++ e).length ≤ 240 → next + e.length < 1073741824 →
   (1600 + 2 * (Seg.bytesB (L ++ e)).length : Int) ≤ room - (Dk.total ex : Int) → nums.length ≤ (L.length + 7) / 8 + 1 →
   ∃ f2 next2 nums2, appF room k e (stateOf next nums L) fs = ((f2, stateOf next2 nums2 (L ++ e)), 0) ∧ Holds ex f2 next2 nums2 (L ++ e) ∧ next2 ≤ next + e.length ∧ nums2.length ≤ max nums.length (((L ++ e).length + 7) / 8)
 | 0, e, fs, next, nums, L, hk, h, hf, h240, hn, hr, hnl => by
   have : e = [] := List.eq_nil_of_length_eq_zero (by omega)
   subst this
   rw [List.append_nil]
   exact ⟨fs, next, nums, rfl, h, by simp, Nat.le_max_left _ _⟩
 | k + 1, e, fs, next, nums, L, hk, h, hf, h240, hn, hr, hnl => by
   rw [appF]
   by_cases he : e = []
   · subst he
     rw [if_pos rfl, List.append_nil]
     exact ⟨fs, next, nums, rfl, h, by simp, Nat.le_max_left _ _⟩
   have hlen : 0 < e.length := List.length_pos_iff.2 he
   rw [if_neg he]
   have hll : (L ++ e).length = L.length + e.length := List.length_append
   have hb1 := bytesB_mono L e
   have h30 := (Man.right_mem h.right).2.2.1
   obtain ⟨f1, next1, nums1, m, hrf, h1, hm1, hm2, hm3, hm4, hm5⟩ := h.room (room := room) (by omega) (by omega) (by unfold roomy; omega)
   rw [hrf]
   simp only [ne_eq, not_true_eq_false, if_false, Int.toNat_natCast]
   have h31 := (Man.right_mem h1.right).2.2.1
   have hlt1 : nums1.length - 1 < nums1.length := by
     have := List.length_pos_iff.2 hm5; omega
   have hgl : nums1[nums1.length - 1]? = some nums1[nums1.length - 1] := List.getElem?_eq_getElem hlt1
   rw [lastN_of hgl]
   obtain ⟨c, hc⟩ : ∃ c, min m e.length = c := ⟨_, rfl⟩
   rw [hc]
   have eL : L ++ e = (L ++ e.take c) ++ e.drop c := by rw [List.append_assoc, List.take_append_drop]
   have htl : (e.take c).length = c := by rw [List.length_take]; omega
   have hdl : (e.drop c).length = e.length - c := List.length_drop
   have hfo : Evt.follows (L ++ e.take c) 0 0 = true := by
     rw [eL] at hf
     exact ((Seg.follows_append _ _ _ _).1 hf).1
   have hb2 := bytesB_mono (L ++ e.take c) (e.drop c)
   rw [← eL] at hb2
   have hlc : (L ++ e.take c).length = L.length + c := by rw [List.length_append, htl]
   obtain ⟨f2, ha, h2⟩ := h1.add (room := room) (m := e.take c) hgl (by omega) hfo (by omega)
   rw [ha]
   simp only [not_true_eq_false, if_false]
   have hst : (stateOf next1 nums1 L).plus (e.take c) = stateOf next1 nums1 (L ++ e.take c) := rfl
   rw [hst]
   obtain ⟨f3, next3, nums3, q1, q2, q3, q4⟩ := app_holds k (e.drop c) f2 next1 nums1 (L ++ e.take c) (by omega) h2 (by rw [← eL]; exact hf) (by rw [← eL]; omega) (by omega) (by rw [← eL]; omega) (by omega)
   rw [← eL] at q1 q2 q4
   exact ⟨f3, next3, nums3, q1, q2, by omega, by omega⟩
theorem end_at {L : List Evt.Entry} (h : Evt.follows L 0 0 = true) : Seg.endOf 0 0 L = ((L.length : Int), epochOf L) := by
 have := (end_pos L 0 0 h).1
 exact Prod.ext (by rw [this]; omega) rfl
theorem follows_on {L e : List Evt.Entry} (h : Evt.follows L 0 0 = true) : Evt.follows (L ++ e) 0 0 = true ↔ Evt.follows e L.length (epochOf L) = true := by
 rw [Seg.follows_append, end_at h]
 exact ⟨fun h => h.2, fun h2 => ⟨h, h2⟩⟩
theorem Holds.append {ex fs : List Dk.File} {next room : Int} {nums : List Int} {L : List Evt.Entry} (h : Holds ex fs next nums L) (e : List Evt.Entry) (hf : Evt.follows (L ++ e) 0 0 = true) (h240 : (L ++ e).length ≤ 240) (hn : next + e.length < 1073741824)
   (hr : (1600 + 2 * (Seg.bytesB (L ++ e)).length : Int) ≤ room - (Dk.total ex : Int)) : ∃ f2 next2 nums2, appendF room e (stateOf next nums L) fs = ((f2, stateOf next2 nums2 (L ++ e)), 0) ∧ Holds ex f2 next2 nums2 (L ++ e) ∧ next2 ≤ next + e.length ∧ nums2.length ≤ max nums.length (((L ++ e).length + 7) / 8) := by
 have e2 : (stateOf next nums L).es = L := rfl
 unfold appendF
 rw [e2, if_pos ((follows_on h.fol).1 hf)]
 have := h.low
 exact app_holds e.length e fs next nums L (Nat.le_refl _) h hf h240 hn hr (by omega)
theorem keep_parts (t : Nat) : ∀ (nums : List Int) (i : Nat), (((nums.zipIdx i).map fun p => (p.1, ((8 * p.2 + 1 : Nat) : Int))).takeWhile fun p => decide (p.2 ≤ (t : Int))).length = min nums.length ((t + 7) / 8 - i)
 | [], _ => by simp
 | n :: l, i => by
   have ih := keep_parts t l (i + 1)
   rw [List.zipIdx_cons, List.map_cons, List.takeWhile_cons]
   by_cases h : ((8 * i + 1 : Nat) : Int) ≤ (t : Int)
   · rw [if_pos (decide_eq_true h), List.length_cons, List.length_cons, ih]; omega
   · rw [if_neg (by simpa using h), List.length_nil, List.length_cons]; omega
theorem keepP_of (t : Nat) (nums : List Int) : keepP (t : Int) (partsOf nums) = min nums.length ((t + 7) / 8) := keep_parts t nums 0
theorem cutF_holds {ex fs : List Dk.File} {next room : Int} {nums : List Int} {L : List Evt.Entry} (h : Holds ex fs next nums L) (t : Nat) (hlo : 8 * (nums.length - 1) ≤ t) (hr : (300 + 15 * nums.length + 2 * (Seg.bytesB L).length + 15 : Int) ≤ room - (Dk.total ex : Int)) :
   ∃ f, cutF room (t : Int) (stateOf next nums L) fs = ((f, stateOf next nums (L.take t)), 0) ∧ Holds ex f next nums (L.take t) := by
 have e3 : (stateOf next nums L).parts = partsOf nums := rfl
 have e2 : (stateOf next nums L).es = L := rfl
 have hmin : L.take (min L.length t) = L.take t := by
   by_cases h : L.length ≤ t
   · rw [Nat.min_eq_left h, List.take_length, List.take_of_length_le h]
   · rw [Nat.min_eq_right (by omega)]
 unfold cutF
 rw [e3, parts_last, e2, Int.toNat_natCast, hmin]
 cases hl : nums[nums.length - 1]? with
 | none =>
   have hz : nums = [] := by
     rw [List.getElem?_eq_none_iff] at hl
     exact List.eq_nil_of_length_eq_zero (by omega)
   refine ⟨fs, rfl, ?_⟩
   have hL := h.lo hz
   subst hL
   rw [List.take_nil]; exact h
 | some n =>
   obtain ⟨f, hc, hh⟩ := h.cut (room := room) hl t hlo hr
   simp only [Option.map_some]
   rw [hc]
   exact ⟨f, rfl, hh⟩
theorem Holds.trunc {ex fs : List Dk.File} {next room : Int} {nums : List Int} {L : List Evt.Entry} (h : Holds ex fs next nums L) (t : Nat) (hr : (1600 + 2 * (Seg.bytesB L).length : Int) ≤ room - (Dk.total ex : Int)) :
   ∃ f nums2, truncF room (t : Int) (stateOf next nums L) fs = ((f, stateOf next nums2 (L.take t)), 0) ∧ Holds ex f next nums2 (L.take t) ∧ nums2.length ≤ nums.length ∧ (t ≤ L.length → nums2.length ≤ (t + 7) / 8 ∨ nums2.length = nums.length ∧ L.length = t) := by
 have e3 : (stateOf next nums L).parts = partsOf nums := rfl
 have e2 : (stateOf next nums L).es = L := rfl
 have e1 : (stateOf next nums L).next = next := rfl
 have h30 := (Man.right_mem h.right).2.2.1
 have hhigh := h.high
 have hlow := h.low
 unfold truncF
 rw [if_neg (by omega), e2, e3, e1, keepP_of, parts_len]
 by_cases hall : (L.length : Int) ≤ (t : Int)
 · rw [if_pos hall, List.take_of_length_le (by omega)]
   exact ⟨fs, nums, rfl, h, Nat.le_refl _, fun _ => .inr ⟨rfl, by omega⟩⟩
 rw [if_neg hall]
 obtain ⟨K, hK⟩ : ∃ K, min nums.length ((t + 7) / 8) = K := ⟨_, rfl⟩
 rw [hK]
 by_cases hk : K < nums.length
 · rw [if_pos hk]
   have hKt : (t + 7) / 8 = K := by omega
   obtain ⟨f1, g1, g2, g3⟩ := h.drop (room := room) K hk (by omega)
   have en : ((partsOf nums).take K).map (·.1) = nums.take K := by rw [parts_take, parts_nums]
   have ed : ((partsOf nums).drop K).map (·.1) = nums.drop K := by rw [List.map_drop, parts_nums]
   rw [en, ed, g1]
   simp only [ne_eq, not_true_eq_false, if_false]
   have hfirst : firstOf (partsOf nums) K = ((8 * K + 1 : Nat) : Int) := by
     unfold firstOf
     rw [parts_at, List.getElem?_eq_getElem hk]; rfl
   have hst : (stateOf next nums L).upto K = stateOf next (nums.take K) (L.take (8 * K)) := by
     unfold S.upto
     rw [e3, e2, hfirst, parts_take]
     have : (((8 * K + 1 : Nat) : Int) - 1).toNat = 8 * K := by omega
     rw [this, Nat.min_eq_right (by omega)]; rfl
   rw [hst]
   have htl : (nums.take K).length = K := by rw [List.length_take]; omega
   have hbl : (Seg.bytesB (L.take (8 * K))).length ≤ (Seg.bytesB L).length := by
     have := bytesB_mono (L.take (8 * K)) (L.drop (8 * K))
     rwa [List.take_append_drop] at this
   obtain ⟨f2, q1, q2⟩ := cutF_holds (room := room) g3 t (by rw [htl]; omega) (by rw [htl]; omega)
   have htt : (L.take (8 * K)).take t = L.take t := by rw [List.take_take, Nat.min_eq_left (by omega)]
   rw [htt] at q1 q2
   exact ⟨f2, nums.take K, q1, q2, by omega, fun _ => .inl (by omega)⟩
 · rw [if_neg hk]
   obtain ⟨f2, q1, q2⟩ := cutF_holds (room := room) h t (by omega) (by omega)
   exact ⟨f2, nums, q1, q2, Nat.le_refl _, fun _ => .inl (by omega)⟩
end Go.Proofs.YtgddgipjpdjoaaaGreatDoor.Lg
