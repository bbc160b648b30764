/-
  Plain Lean, no program in sight: what a log's functions do on a disk that holds a log, whatever room it has: they do it, or say that there is none.
  Plain Lean, no program in sight: the numbers of a log's parts go on; a disk that holds a log is told by it; what Open reads.
  Plain Lean, no program in sight: a log's disk with the mark of epochs beside it: Raise.
-/
import Derived.Test.YtgddgipjpdjoaaaGreatDoorLogPl
import Derived.Test.YtgddgipjpdjoaaaGreatDoorManP
namespace Go.Proofs.YtgddgipjpdjoaaaGreatDoor.Lg
theorem Holds.temp {ex fs : List Dk.File} {next : Int} {nums : List Int} {L : List Evt.Entry} (h : Holds ex fs next nums L) : Dk.look fs Seg.temp = none := (h.oth _ (fun e => Man.file_ne_temp e.symm) (fun n _ e => Seg.temp_ne n e.symm)).trans h.exs.temp
end Go.Proofs.YtgddgipjpdjoaaaGreatDoor.Lg
namespace Go.Proofs.YtgddgipjpdjoaaaGreatDoor.Lg
def Reads (room : Int) : List Int → S → List Dk.File → S → List Dk.File → Prop
 | [], s, fs, s', fs' => s' = s ∧ fs' = fs
 | n :: l, s, fs, s', fs' => ∃ s1 f1, readF room n s fs = ((f1, s1), true, 0) ∧ Reads room l s1 f1 s' fs'
theorem reads_from {ex fs : List Dk.File} {next room : Int} {nums : List Int} {L : List Evt.Entry} (h : Holds ex fs next nums L) : ∀ (k i : Nat), i + k = nums.length →
   Reads room (nums.drop i) ⟨next, partsOf (nums.take i), L.take (8 * i)⟩ fs (stateOf next nums L) fs
 | 0, i, hk => by
   have e : i = nums.length := by omega
   subst e
   rw [List.drop_length, List.take_length, h.take_all]
   exact ⟨rfl, rfl⟩
 | k + 1, i, hk => by
   have hlt : i < nums.length := by omega
   rw [List.drop_eq_getElem_cons hlt]
   exact ⟨_, _, read_part (room := room) h (List.getElem?_eq_getElem hlt), reads_from h k (i + 1) (by omega)⟩
theorem Holds.reads {ex fs : List Dk.File} {next : Int} {nums : List Int} {L : List Evt.Entry} (room : Int) (h : Holds ex fs next nums L) : Reads room nums ⟨next, [], []⟩ fs (stateOf next nums L) fs := by
 have := reads_from (room := room) h nums.length 0 (by omega)
 simpa [partsOf] using this
end Go.Proofs.YtgddgipjpdjoaaaGreatDoor.Lg
namespace Go.Proofs.YtgddgipjpdjoaaaGreatDoor.Lg
open Go.RowKit
def exM (es : List Int) : List Dk.File := if es = [] then [] else [Man.markF es]
theorem mark_number : Seg.numberOf Man.mark = 0 := by
 unfold Seg.numberOf Man.mark
 simp [Lib.parseUint10]
theorem mark_seg (n : Int) (h1 : 1 ≤ n) (h2 : n ≤ 1073741824) : Man.mark ≠ Seg.nameOf n := fun e => by
 have := mark_number
 rw [e, Seg.number_name n h1 h2] at this
 omega
theorem others_mark (es : List Int) : Others (exM es) := by
 unfold exM
 split
 · exact others_nil
 · refine ⟨by simp [Dk.Sorted], ?_, ?_, fun x hx => ?_, fun x hx => ?_, by simp⟩
   · simp [Dk.look, Man.markF, Man.mark_ne_file]
   · simp [Dk.look, Man.markF, Man.mark_ne_temp]
   · rw [List.mem_singleton.1 hx]; exact mark_number
   · rw [List.mem_singleton.1 hx]; rfl
theorem look_exM (es : List Int) : Dk.look (exM es) Man.mark = if es = [] then none else some (Man.markF es) := by
 unfold exM
 by_cases h : es = []
 · rw [if_pos h, if_pos h]; rfl
 · rw [if_neg h, if_neg h]; simp [Dk.look, Man.markF]
theorem look_exM_other (es : List Int) {k : List UInt8} (h : k ≠ Man.mark) : Dk.look (exM es) k = none := by
 unfold exM
 split
 · rfl
 · simp [Dk.look, Man.markF, Ne.symm h]
theorem total_exM {es : List Int} (h : Man.rises 0 es) : Dk.total (exM es) ≤ 14 * es.length := by
 unfold exM
 split
 · exact Nat.zero_le _
 · have := Man.markB_len h
   simp only [Dk.total, Man.markF]
   rw [Lib.size_eq]
   simpa using this
theorem Holds.mark {es : List Int} {fs : List Dk.File} {next : Int} {nums : List Int} {L : List Evt.Entry} (h : Holds (exM es) fs next nums L) : Dk.look fs Man.mark = if es = [] then none else some (Man.markF es) := by
 rw [← look_exM]
 have hr := Man.right_mem h.right
 exact h.oth _ Man.mark_ne_file (fun n hn => mark_seg n (by have := hr.2.2.2 n hn; omega) (by have := hr.2.2.2 n hn; omega))
theorem Holds.epochs {es : List Int} {fs : List Dk.File} {next : Int} {nums : List Int} {L : List Evt.Entry} (h : Holds (exM es) fs next nums L) (hm : Man.rises 0 es) : Man.epochsD fs = (Man.lastE 0 es, es.length, true) := by
 have hl := h.mark
 by_cases e : es = []
 · subst e
   rw [if_pos rfl] at hl
   exact Man.epochs_none hl
 · rw [if_neg e] at hl
   exact Man.epochs_at hm hl
theorem Holds.put_mark {es es2 : List Int} {fs : List Dk.File} {next : Int} {nums : List Int} {L : List Evt.Entry} (h : Holds (exM es) fs next nums L) (h2 : es2 ≠ []) : Holds (exM es2) (Dk.put (Man.markF es2) fs) next nums L := by
 have hr := Man.right_mem h.right
 have hseg : ∀ n ∈ nums, Seg.nameOf n ≠ Man.mark := fun n hn e => mark_seg n (by have := hr.2.2.2 n hn; omega) (by have := hr.2.2.2 n hn; omega) e.symm
 refine ⟨Dk.sorted_put _ _ h.sorted, h.right, ?_, fun i n hi => ?_, fun k hk hks => ?_, others_mark es2, h.lo, h.low, h.high, h.fol⟩
 · rw [Dk.look_put_other (Man.markF es2) (show Man.file ≠ (Man.markF es2).name from fun e => Man.mark_ne_file e.symm)]; exact h.man
 · rw [Dk.look_put_other (Man.markF es2) (show Seg.nameOf n ≠ (Man.markF es2).name from hseg n (List.mem_of_getElem? hi))]; exact h.seg i n hi
 · by_cases e : k = Man.mark
   · subst e
     rw [look_exM, if_neg h2]
     exact Dk.look_put_same (Man.markF es2) fs
   · rw [Dk.look_put_other (Man.markF es2) (show k ≠ (Man.markF es2).name from e), h.oth k hk hks, look_exM_other es e, look_exM_other es2 e]
theorem rowE_size {e : Int} (h1 : 0 ≤ e) (h2 : e ≤ 274877906944) : (Man.rowE e).size ≤ 14 := by
 have := Num.put_le6 (Num.held e) (Man.held_of h1 h2).2
 rw [Lib.size_eq]
 simp only [Man.rowE, Frm.framed_len]
 omega
theorem mark_more (es : List Int) (e : Int) : (⟨(Man.markB es).toArray⟩ : ByteArray) ++ Man.rowE e = ⟨(Man.markB (es ++ [e])).toArray⟩ := by
 apply ByteArray.ext
 apply Array.toList_inj.1
 rw [ByteArray.data_append, Array.toList_append, Man.markB_snoc]
 simp [Man.rowE]
theorem put_same2 {fs : List Dk.File} {x : Dk.File} {k : List UInt8} {b : ByteArray} {n : Nat} (hs : Dk.Sorted fs) (h : Dk.look fs k = some x) (hx : x = ⟨k, b, n⟩ := by rfl) : Dk.put ⟨k, b, n⟩ fs = fs := by
 subst hx
 refine Dk.sorted_ext _ _ (Dk.sorted_put _ _ hs) hs (fun j => ?_)
 by_cases e : j = k
 · subst e
   have := Dk.look_put_same ⟨j, b, n⟩ fs
   simp only at this
   rw [this, h]
 · rw [Dk.look_put_other ⟨k, b, n⟩ e]
theorem put_put {fs : List Dk.File} {x y : Dk.File} (hs : Dk.Sorted fs) (h : x.name = y.name) : Dk.put y (Dk.put x fs) = Dk.put y fs := by
 refine Dk.sorted_ext _ _ (Dk.sorted_put _ _ (Dk.sorted_put _ _ hs)) (Dk.sorted_put _ _ hs) (fun j => ?_)
 by_cases e : j = y.name
 · subst e
   rw [Dk.look_put_same y, Dk.look_put_same y]
 · rw [Dk.look_put_other y e, Dk.look_put_other y e, Dk.look_put_other x (by rw [h]; exact e)]
theorem Holds.raise {es : List Int} {fs : List Dk.File} {next room e : Int} {nums : List Int} {L : List Evt.Entry} (h : Holds (exM es) fs next nums L) (hm : Man.rises 0 es) (hn : es.length ≤ 21) (h1 : Man.lastE 0 es < e) (h2 : e ≤ 274877906944) (hr : (Dk.total fs : Int) + 14 ≤ room) :
   ∃ es2, Man.raiseF room e fs = (Dk.put (Man.markF es2) fs, 0) ∧ Holds (exM es2) (Dk.put (Man.markF es2) fs) next nums L ∧ Man.rises 0 es2 ∧ es2.length ≤ 21 ∧ Man.lastE 0 es2 = e ∧ es2 ≠ [] := by
 have h0 := (Man.lastE_le es 0 (Int.le_refl _) hm).1
 have hep := h.epochs hm
 have hmk := h.mark
 have hlen := h.len
 have hr30 := (Man.right_mem h.right).2.2.1
 have hrs := rowE_size (e := e) (by omega) h2
 have hsync : ∀ es2 : List Int, Dk.sync Man.mark (Dk.put (Man.markF es2) fs) = (Dk.put (Man.markF es2) fs, 0) := fun es2 => by
   have hl := Dk.look_put_same (Man.markF es2) fs
   have hl : Dk.look (Dk.put (Man.markF es2) fs) Man.mark = some (Man.markF es2) := hl
   unfold Dk.sync
   rw [hl]
   simp only [Prod.mk.injEq, and_true]
   exact put_same2 (Dk.sorted_put _ _ h.sorted) hl
 unfold Man.raiseF
 rw [if_neg (by omega), hep]
 simp only
 rw [if_neg (by omega), if_neg (by omega)]
 have hkp : Man.keepF room e fs = if es.length ≤ 20 then Dk.append room Man.mark (Man.rowE e) fs else Man.writeM room Man.mark (Man.rowE e) fs := by
   unfold Man.keepF
   rw [hep]
   by_cases h : es.length ≤ 20
   · rw [if_pos ⟨rfl, h⟩, if_pos h]
   · rw [if_neg (fun hx => h hx.2), if_neg h]
 rw [hkp]
 by_cases h20 : es.length ≤ 20
 · rw [if_pos h20]
   refine ⟨es ++ [e], ?_, h.put_mark (by simp), Man.rises_snoc es 0 e hm h1 h2, by simp; omega, Man.lastE_snoc es 0 e, by simp⟩
   have ha : ∃ y, Dk.append room Man.mark (Man.rowE e) fs = (y, 0) ∧ Dk.sync Man.mark y = (Dk.put (Man.markF (es ++ [e])) fs, 0) := by
     by_cases he : es = []
     · subst he
       rw [if_pos rfl] at hmk
       refine ⟨Dk.put ⟨Man.mark, Man.rowE e, 0⟩ fs, ?_, ?_⟩
       · unfold Dk.append
         rw [if_neg (by rw [Man.mark_named]; simp), if_neg (by omega), if_neg (by omega), hmk]; rfl
       · have hl := Dk.look_put_same ⟨Man.mark, Man.rowE e, 0⟩ fs
         have hl : Dk.look (Dk.put ⟨Man.mark, Man.rowE e, 0⟩ fs) Man.mark = some ⟨Man.mark, Man.rowE e, 0⟩ := hl
         unfold Dk.sync
         rw [hl]
         simp only [Prod.mk.injEq, and_true]
         have hx : (⟨Man.mark, Man.rowE e, (Man.rowE e).size⟩ : Dk.File) = Man.markF ([] ++ [e]) := by
           have : Man.rowE e = ⟨(Man.markB ([] ++ [e])).toArray⟩ := by rw [← mark_more]; apply ByteArray.ext; simp [Man.markB]
           unfold Man.markF
           rw [← this]
         rw [hx]
         exact put_put h.sorted rfl
     · rw [if_neg he] at hmk
       refine ⟨Dk.put ⟨Man.mark, (Man.markF es).bytes ++ Man.rowE e, (Man.markF es).synced⟩ fs, ?_, ?_⟩
       · unfold Dk.append
         rw [if_neg (by rw [Man.mark_named]; simp), hmk, if_neg (by simp), if_neg (by omega)]; rfl
       · have hl := Dk.look_put_same ⟨Man.mark, (Man.markF es).bytes ++ Man.rowE e, (Man.markF es).synced⟩ fs
         have hl : Dk.look (Dk.put ⟨Man.mark, (Man.markF es).bytes ++ Man.rowE e, (Man.markF es).synced⟩ fs) Man.mark = some ⟨Man.mark, (Man.markF es).bytes ++ Man.rowE e, (Man.markF es).synced⟩ := hl
         unfold Dk.sync
         rw [hl]
         simp only [Prod.mk.injEq, and_true]
         have hx : (⟨Man.mark, (Man.markF es).bytes ++ Man.rowE e, ((Man.markF es).bytes ++ Man.rowE e).size⟩ : Dk.File) = Man.markF (es ++ [e]) := by
           unfold Man.markF
           rw [← mark_more]
         rw [hx]
         exact put_put h.sorted rfl
   obtain ⟨y, q1, q2⟩ := ha
   rw [q1, if_pos rfl]
   exact q2
 · rw [if_neg h20]
   have htemp : Dk.look fs Seg.temp = none := h.temp
   have hw := Man.write_ok (room := room) (k := Man.mark) (s := Man.rowE e) h.sorted Man.mark_named Man.mark_ne_temp htemp (by omega) (by omega)
   have hx : (⟨Man.mark, Man.rowE e, (Man.rowE e).size⟩ : Dk.File) = Man.markF [e] := by
     have : Man.rowE e = ⟨(Man.markB [e]).toArray⟩ := by
       have := mark_more [] e
       rw [List.nil_append] at this
       rw [← this]; apply ByteArray.ext; simp [Man.markB]
     unfold Man.markF
     rw [← this]
   rw [hx] at hw
   rw [hw, if_pos rfl]
   exact ⟨[e], hsync [e], h.put_mark (by simp), ⟨by omega, h2⟩, by simp, rfl, by simp⟩
end Go.Proofs.YtgddgipjpdjoaaaGreatDoor.Lg
