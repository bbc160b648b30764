/-
  Plain: a file renamed, as the document's disk does it.
-/
import Derived.Test.YtiaddfghojdgkaaGreatDoorRDkh
namespace Go.Proofs.YtiaddfghojdgkaaGreatDoor
open Go.RowKit Go.Shelf

theorem Dk.look_del (j k : List UInt8) (fs : List Dk.File) (hs : Dk.Sorted fs) : Dk.look (Dk.del k fs) j = if j = k then none else Dk.look fs j := by
  split
  · rename_i h; subst h; exact Dk.look_del_same j fs hs
  · rename_i h; exact Dk.look_del_other k h fs
theorem Dk.look_put (j : List UInt8) (y : Dk.File) (fs : List Dk.File) : Dk.look (Dk.put y fs) j = if j = y.name then some y else Dk.look fs j := by
  split
  · rename_i h; subst h; exact Dk.look_put_same y fs
  · rename_i h; exact Dk.look_put_other y h fs
theorem Dk.rename_ref {a b : List UInt8} {fs : List Dk.File} {x : Dk.File} (hs : Dk.Sorted fs) (hl : Dk.look fs a = some x) (hn : Txt.name b = true) :
    Dk.rename a b fs = (Dk.put ⟨b, x.bytes, x.synced⟩ (Dk.del b (Dk.del a fs)), 0) := by
  have s1 := Dk.sorted_del b _ (Dk.sorted_del a fs hs)
  have s2 := Dk.sorted_del a _ (Dk.sorted_del b fs hs)
  rw [Dk.rename, hl]
  simp only
  rw [if_neg (by rw [hn]; simp)]
  have hxn := (Dk.look_name hl).1
  split
  · rename_i e
    subst e
    congr 1
    refine Dk.sorted_ext _ _ hs (Dk.sorted_put _ _ s1) (fun k => ?_)
    rw [Dk.look_put, Dk.look_del _ _ _ (Dk.sorted_del a fs hs), Dk.look_del _ _ _ hs]
    by_cases h : k = a
    · subst h; rw [if_pos rfl, hl, ← hxn]
    · simp only [if_neg h]
  · congr 1
    refine Dk.sorted_ext _ _ (Dk.sorted_put _ _ s2) (Dk.sorted_put _ _ s1) (fun k => ?_)
    rw [Dk.look_put, Dk.look_put, Dk.look_del _ _ _ (Dk.sorted_del a fs hs), Dk.look_del _ _ _ hs, Dk.look_del _ _ _ (Dk.sorted_del b fs hs), Dk.look_del _ _ _ hs]
    simp only
    by_cases h : k = b
    · simp only [if_pos h]
    · by_cases h2 : k = a <;> simp [h, h2]
end Go.Proofs.YtiaddfghojdgkaaGreatDoor
