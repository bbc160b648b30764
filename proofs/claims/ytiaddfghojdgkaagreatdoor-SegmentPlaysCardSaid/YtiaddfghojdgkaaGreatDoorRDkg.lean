/-
  The document's disk: a new one; its blocks narrowed; the walk of Crash.
-/
import Derived.Test.YtiaddfghojdgkaaGreatDoorRDkf
import Derived.Test.YtiaddfghojdgkaaGreatDoorSegs
namespace Go.Proofs.YtiaddfghojdgkaaGreatDoor
open Go.RowKit Go.Shelf

theorem isR_new (w : World) (room : Int) (h1 : 1 ≤ room) (h2 : room ≤ 1073741824) : IsR (w.alloc (.cells #[.slice none 0 0, .int .i64 room] 176)) w.heap.size room [] (fun j => j = w.heap.size) :=
  ⟨_, heap_alloc_new w _, World.ownsRow_nil _ _ _ _, by simp, by simp [Dk.Sorted], ⟨h1, h2, by simp [Dk.total]; omega⟩, rfl, (fun b hb => by simp [Value.ownBlock] at hb), (fun x hx => by cases hx)⟩
theorem IsR.narrow {w : World} {d : Nat} {room : Int} {fs : List Dk.File} {ft : Nat → Prop} (h : IsR w d room fs ft) : IsR w d room fs (fun j => ft j ∧ j < w.heap.size) := by
  obtain ⟨v, h1, h2, h3, h4, h5, h6, h7, h8⟩ := h
  exact ⟨v, h1, h2, h3, h4, h5, ⟨h6, (Array.getElem?_eq_some_iff.1 h1).1⟩, fun b hb => ⟨h7 b hb, (h2.lt b hb).2⟩, h8⟩
theorem RStep.open {d : Nat} {room : Int} {fs : List Dk.File} {ft : Nat → Prop} {w w' : World} (h : RStep d room fs ft w w') :
    ∃ ft', IsR w' d room fs ft' ∧ (∀ j, ft' j → ft j ∨ w.heap.size ≤ j) ∧ (∀ j, ft' j → j < w'.heap.size) ∧ Turn ft w w' := by
  obtain ⟨f, h1, h2, h3⟩ := h
  exact ⟨_, h1.narrow, fun j hj => h2 j hj.1, fun j hj => hj.2, h3⟩
theorem RStep.trans {d : Nat} {room : Int} {fs fs2 : List Dk.File} {ft ft1 : Nat → Prop} {w w1 w2 : World} (_h : IsR w1 d room fs ft1) (hf : ∀ j, ft1 j → ft j ∨ w.heap.size ≤ j) (ht : Turn ft w w1) (k : RStep d room fs2 ft1 w1 w2) : RStep d room fs2 ft w w2 := by
  obtain ⟨f2, k1, k2, k3⟩ := k
  exact ⟨f2, k1, fun j hj => (k2 j hj).elim (fun e => hf j e) (fun e => .inr (Nat.le_trans ht.size e)), ht.trans k3 hf⟩
theorem flCells_set3 : ∀ (fs : List Dk.File) (k : Nat) (_ : k < fs.length) (y : Dk.File), (((flCells fs).set (k * 3) (.string ⟨y.name.toArray⟩)).set (k * 3 + 1) (.string y.bytes)).set (k * 3 + 2) (.int .i64 (y.synced : Int)) = flCells (fs.set k y)
  | x :: fs, 0, _, y => rfl
  | x :: fs, k + 1, hk, y => by
    rw [show (k + 1) * 3 = k * 3 + 1 + 1 + 1 by omega, show k * 3 + 1 + 1 + 1 + 1 = (k * 3 + 1) + 1 + 1 + 1 by omega, show k * 3 + 1 + 1 + 1 + 2 = (k * 3 + 2) + 1 + 1 + 1 by omega, flCells_cons]
    simp only [List.set_cons_succ]
    rw [flCells_set3 fs k (by simpa using hk) y]
    rfl
theorem Dk.crashTo_set {ks : List Int} {fs : List Dk.File} {i : Nat} (h : i < fs.length) : Dk.crashTo ks fs (i + 1) = (Dk.crashTo ks fs i).set i (Dk.crashed (ks.getD i 0) fs[i]) := by
  have hl : ((Dk.crash ks fs).take i).length = i := by rw [List.length_take, Dk.crash_len]; omega
  rw [Dk.crashTo_next h, Dk.crashTo_at h, List.set_append_right _ _ (by omega), hl, Nat.sub_self]
  rfl
theorem Dk.crashTo_len {ks : List Int} {fs : List Dk.File} {i : Nat} (h : i ≤ fs.length) : (Dk.crashTo ks fs i).length = fs.length := by
  rw [Dk.crashTo, List.length_append, List.length_take, Dk.crash_len, List.length_drop]; omega
theorem Dk.crashTo_get {ks : List Int} {fs : List Dk.File} {i : Nat} (h : i < fs.length) : (Dk.crashTo ks fs i)[i]? = some fs[i] := by
  have hl : ((Dk.crash ks fs).take i).length = i := by rw [List.length_take, Dk.crash_len]; omega
  rw [Dk.crashTo_at h, List.getElem?_append_right (by omega), hl, Nat.sub_self]; rfl
theorem Dk.crash_names : ∀ (ks : List Int) (fs : List Dk.File), (Dk.crash ks fs).map (·.name) = fs.map (·.name)
  | _, [] => rfl
  | ks, x :: fs => by rw [Dk.crash, List.map_cons, List.map_cons, Dk.crash_names ks.tail fs]; rfl
theorem Dk.sorted_names {a b : List Dk.File} (h : a.map (·.name) = b.map (·.name)) (hs : Dk.Sorted b) : Dk.Sorted a := by
  have : (b.map (·.name)).Pairwise (· < ·) := List.pairwise_map.2 hs
  rw [← h] at this
  exact List.pairwise_map.1 this
theorem Dk.crash_le : ∀ (ks : List Int) (fs : List Dk.File), Dk.total (Dk.crash ks fs) ≤ Dk.total fs
  | _, [] => Nat.le_refl _
  | ks, x :: fs => by
    have h1 := Dk.crash_le ks.tail fs
    have h2 := Dk.crashed_le (ks.headD 0) x
    rw [Dk.crash, Dk.total, Dk.total]; omega
theorem Dk.crash_synced : ∀ (ks : List Int) (fs : List Dk.File) (x : Dk.File), x ∈ Dk.crash ks fs → x.synced ≤ x.bytes.size
  | _, [], _, h => by cases h
  | ks, y :: fs, x, h => by
    rw [Dk.crash] at h
    rcases List.mem_cons.1 h with rfl | h
    · exact Nat.le_refl _
    · exact Dk.crash_synced ks.tail fs x h
theorem Dk.crash_fit {room : Int} {fs : List Dk.File} (ks : List Int) (h : Dk.Fit room fs) : Dk.Fit room (Dk.crash ks fs) :=
  ⟨by rw [Dk.crash_len]; exact h.1, Dk.sorted_names (Dk.crash_names ks fs) h.2.1, ⟨h.2.2.1.1, h.2.2.1.2.1, by have := Dk.crash_le ks fs; have := h.2.2.1.2.2; omega⟩, Dk.crash_synced ks fs⟩
end Go.Proofs.YtiaddfghojdgkaaGreatDoor
