/-
  Plain Lean, no program in sight: a disk as its files, by their names in order (layer 8).
-/
import Derived.Test.YthmblkckpdpjkaaGreatDoorTxtB
namespace Go.Proofs.YthmblkckpdpjkaaGreatDoor.Dk

structure File where
  name : List UInt8
  bytes : ByteArray
  synced : Nat
def look : List File → List UInt8 → Option File
  | [], _ => none
  | x :: fs, k => if x.name = k then some x else look fs k
def put (y : File) : List File → List File
  | [] => [y]
  | x :: fs => if x.name = y.name then y :: fs else if y.name < x.name then y :: x :: fs else x :: put y fs
def del (k : List UInt8) : List File → List File
  | [] => []
  | x :: fs => if x.name = k then fs else x :: del k fs
def total : List File → Nat
  | [] => 0
  | x :: fs => x.bytes.size + total fs
def Sorted (fs : List File) : Prop := fs.Pairwise fun a b => a.name < b.name

theorem look_name : ∀ {fs : List File} {k : List UInt8} {x : File}, look fs k = some x → x.name = k ∧ x ∈ fs
  | [], _, _, h => by cases h
  | y :: fs, k, x, h => by
    rw [look] at h
    split at h
    · rename_i e; cases h; exact ⟨e, by simp⟩
    · have := look_name h; exact ⟨this.1, by simp [this.2]⟩
theorem look_none : ∀ {fs : List File} {k : List UInt8}, look fs k = none → ∀ x ∈ fs, x.name ≠ k
  | [], _, _, x, hx => by cases hx
  | y :: fs, k, h, x, hx => by
    rw [look] at h
    split at h
    · cases h
    · rename_i e
      rcases List.mem_cons.1 hx with rfl | hx
      · exact e
      · exact look_none h x hx
theorem look_put_same (y : File) : ∀ fs : List File, look (put y fs) y.name = some y
  | [] => by simp [put, look]
  | x :: fs => by
    rw [put]
    split
    · simp [look]
    · split
      · simp [look]
      · rename_i h _; rw [look, if_neg h, look_put_same y fs]
theorem look_put_other (y : File) {k : List UInt8} (hk : k ≠ y.name) : ∀ fs : List File, look (put y fs) k = look fs k
  | [] => by simp only [put, look]; rw [if_neg (Ne.symm hk)]
  | x :: fs => by
    rw [put]
    split
    · rename_i h; simp only [look]; rw [if_neg (Ne.symm hk), h, if_neg (Ne.symm hk)]
    · split
      · simp only [look]; rw [if_neg (Ne.symm hk)]
      · simp only [look]; rw [look_put_other y hk fs]
theorem mem_put (y : File) : ∀ (fs : List File) (x : File), x ∈ put y fs → x = y ∨ x ∈ fs
  | [], x, h => by simp [put] at h; exact .inl h
  | z :: fs, x, h => by
    rw [put] at h
    split at h
    · rcases List.mem_cons.1 h with h | h
      · exact .inl h
      · exact .inr (by simp [h])
    · split at h
      · rcases List.mem_cons.1 h with h | h
        · exact .inl h
        · exact .inr h
      · rcases List.mem_cons.1 h with h | h
        · exact .inr (by simp [h])
        · rcases mem_put y fs x h with h | h
          · exact .inl h
          · exact .inr (by simp [h])
theorem lt_of_not {a b : List UInt8} (h1 : a ≠ b) (h2 : ¬ b < a) : a < b :=
   Std.lt_of_le_of_ne (Std.not_lt.1 h2) h1
theorem sorted_put (y : File) : ∀ fs : List File, Sorted fs → Sorted (put y fs)
  | [], _ => by simp [put, Sorted]
  | x :: fs, h => by
    have h' := List.pairwise_cons.1 h
    rw [put]
    split
    · rename_i e
      exact List.pairwise_cons.2 ⟨fun z hz => by rw [← e]; exact h'.1 z hz, h'.2⟩
    · split
      · rename_i e
        refine List.pairwise_cons.2 ⟨fun z hz => ?_, h⟩
        rcases List.mem_cons.1 hz with rfl | hz
        · exact e
        · exact Std.lt_trans e (h'.1 z hz)
      · rename_i e1 e2
        refine List.pairwise_cons.2 ⟨fun z hz => ?_, sorted_put y fs h'.2⟩
        rcases mem_put y fs z hz with rfl | hz
        · exact lt_of_not e1 e2
        · exact h'.1 z hz
theorem look_tail {x : File} {fs : List File} (h : Sorted (x :: fs)) : look fs x.name = none := by
  have h' := (List.pairwise_cons.1 h).1
  cases e : look fs x.name with
  | none => rfl
  | some z =>
    have := look_name e
    have h2 := h' z this.2
    rw [this.1] at h2
    exact absurd h2 (Std.lt_irrefl)
theorem put_len (y : File) : ∀ fs : List File, Sorted fs → (put y fs).length = if (look fs y.name).isSome then fs.length else fs.length + 1
  | [], _ => by simp [put, look]
  | x :: fs, h => by
    have h' := List.pairwise_cons.1 h
    rw [put]
    split
    · rename_i e; simp [look, e]
    · rename_i e1
      split
      · rename_i e2
        have : look fs y.name = none := by
          cases e : look fs y.name with
          | none => rfl
          | some z =>
            have hz := look_name e
            have h3 := Std.lt_trans e2 (h'.1 z hz.2)
            rw [hz.1] at h3
            exact absurd h3 (Std.lt_irrefl)
        simp [look, e1, this]
      · have := put_len y fs h'.2
        simp only [List.length_cons, this, look, if_neg e1]
        split <;> rfl
theorem put_total (y : File) : ∀ fs : List File, Sorted fs → total (put y fs) + (match look fs y.name with | none => 0 | some x => x.bytes.size) = total fs + y.bytes.size
  | [], _ => by simp [put, look, total]
  | x :: fs, h => by
    have h' := List.pairwise_cons.1 h
    rw [put]
    split
    · rename_i e; simp only [look, e, if_true, total]; omega
    · rename_i e1
      split
      · rename_i e2
        have : look fs y.name = none := by
          cases e : look fs y.name with
          | none => rfl
          | some z =>
            have hz := look_name e
            have h3 := Std.lt_trans e2 (h'.1 z hz.2)
            rw [hz.1] at h3
            exact absurd h3 (Std.lt_irrefl)
        simp only [look, if_neg e1, this, total]; omega
      · have := put_total y fs h'.2
        simp only [look, if_neg e1, total]; omega
theorem look_le : ∀ {fs : List File} {k : List UInt8} {x : File}, look fs k = some x → x.bytes.size ≤ total fs
  | [], _, _, h => by cases h
  | y :: fs, k, x, h => by
    rw [look] at h
    split at h
    · cases h; simp only [total]; omega
    · have := look_le h; simp only [total]; omega
theorem mem_del (k : List UInt8) : ∀ (fs : List File) (x : File), x ∈ del k fs → x ∈ fs
  | [], _, h => by cases h
  | z :: fs, x, h => by
    rw [del] at h
    split at h
    · simp [h]
    · rcases List.mem_cons.1 h with h | h
      · simp [h]
      · simp [mem_del k fs x h]
theorem sorted_del (k : List UInt8) : ∀ fs : List File, Sorted fs → Sorted (del k fs)
  | [], _ => by simp [del, Sorted]
  | x :: fs, h => by
    have h' := List.pairwise_cons.1 h
    rw [del]
    split
    · exact h'.2
    · exact List.pairwise_cons.2 ⟨fun z hz => h'.1 z (mem_del k fs z hz), sorted_del k fs h'.2⟩
theorem look_del_same (k : List UInt8) : ∀ fs : List File, Sorted fs → look (del k fs) k = none
  | [], _ => rfl
  | x :: fs, h => by
    have h' := List.pairwise_cons.1 h
    rw [del]
    split
    · rename_i e; subst e; exact look_tail h
    · rename_i e; rw [look, if_neg e, look_del_same k fs h'.2]
theorem look_del_other (k : List UInt8) {j : List UInt8} (hj : j ≠ k) : ∀ fs : List File, look (del k fs) j = look fs j
  | [] => rfl
  | x :: fs => by
    rw [del]
    split
    · rename_i e; rw [look, if_neg (by rw [e]; exact Ne.symm hj)]
    · simp only [look]; rw [look_del_other k hj fs]
theorem del_len (k : List UInt8) : ∀ fs : List File, (del k fs).length + (if (look fs k).isSome then 1 else 0) = fs.length
  | [] => rfl
  | x :: fs => by
    rw [del]
    split
    · rename_i e; simp [look, e]
    · rename_i e; have := del_len k fs; simp only [List.length_cons, look, if_neg e]; omega
theorem del_total (k : List UInt8) : ∀ fs : List File, total (del k fs) + (match look fs k with | none => 0 | some x => x.bytes.size) = total fs
  | [] => rfl
  | x :: fs => by
    rw [del]
    split
    · rename_i e; simp only [look, e, if_true, total]; omega
    · rename_i e; have := del_total k fs; simp only [look, if_neg e, total]; omega
theorem del_none (k : List UInt8) : ∀ fs : List File, look fs k = none → del k fs = fs
  | [], _ => rfl
  | x :: fs, h => by
    rw [look] at h
    split at h
    · cases h
    · rename_i e; rw [del, if_neg e, del_none k fs h]

/-! What the calls do. -/
def more (k : List UInt8) (s : ByteArray) : Option File → File
  | none => ⟨k, s, 0⟩
  | some x => ⟨k, x.bytes ++ s, x.synced⟩
def append (room : Int) (k : List UInt8) (s : ByteArray) (fs : List File) : List File × Nat :=
  if Txt.name k = false then (fs, 1) else
  if look fs k = none ∧ 40 ≤ fs.length then (fs, 4) else
  if room - (total fs : Int) < (s.size : Int) then (fs, 8) else
  (put (more k s (look fs k)) fs, 0)
def sync (k : List UInt8) (fs : List File) : List File × Nat :=
  match look fs k with
  | none => (fs, 6)
  | some x => (put ⟨k, x.bytes, x.bytes.size⟩ fs, 0)
def read (k : List UInt8) (fs : List File) : ByteArray × Nat :=
  match look fs k with
  | none => (⟨#[]⟩, 6)
  | some x => (x.bytes, 0)
def synced (k : List UInt8) (fs : List File) : Nat :=
  match look fs k with
  | none => 0
  | some x => x.synced
def delete (k : List UInt8) (fs : List File) : List File × Nat :=
  match look fs k with
  | none => (fs, 6)
  | some _ => (del k fs, 0)
def rename (a b : List UInt8) (fs : List File) : List File × Nat :=
  match look fs a with
  | none => (fs, 6)
  | some x => if Txt.name b = false then (fs, 1) else if a = b then (fs, 0) else (put ⟨b, x.bytes, x.synced⟩ (del a (del b fs)), 0)
end Go.Proofs.YthmblkckpdpjkaaGreatDoor.Dk
