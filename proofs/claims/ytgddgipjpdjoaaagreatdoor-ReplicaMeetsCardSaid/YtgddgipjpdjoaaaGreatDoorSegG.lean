/-
  Plain Lean: a disk of one segment; the law package's right entry.
  Plain Lean: entries that are added in two steps (the law SegmentRows). Plain Lean, no program in sight: what is taken off the front had been put there: numbers, texts, batches, entries, frames, segments. Plain Lean, no program in sight: segments among other files; a segment that is cut. Plain Lean: what a crash leaves; the laws SegmentTells, SegmentKeeps, SegmentCuts, no program in sight.
-/
import Derived.Test.YtgddgipjpdjoaaaGreatDoorSegs
import Derived.Test.YtgddgipjpdjoaaaGreatDoorPln
namespace Go.Proofs.YtgddgipjpdjoaaaGreatDoor.Seg
open Go.RowKit
theorem toks_all_ascii : ∀ l : List UInt8, (∀ b ∈ l, b.toNat < 128) → Txt.toks l = l.map fun b => ((b.toNat : Int), [b])
 | [], _ => by rw [Txt.toks_nil]; rfl
 | b :: l, h => by
   rw [Txt.toks_ascii b l (h b (by simp)), toks_all_ascii l (fun c hc => h c (by simp [hc]))]; rfl
theorem dec_digits : ∀ (n : Nat), ∀ b ∈ Lib.decDigits n, 48 ≤ b.toNat ∧ b.toNat ≤ 57 := by
 intro n
 induction n using Nat.strongRecOn with
 | ind n ih =>
   intro b hb
   rw [Lib.decDigits] at hb
   by_cases h1 : n < 10
   · rw [dif_pos h1] at hb
     rw [List.mem_singleton.1 hb, digit_nat n h1]; omega
   · rw [dif_neg h1] at hb
     rcases List.mem_append.1 hb with h | h
     · exact ih (n / 10) (by omega) b h
     · rw [List.mem_singleton.1 h, digit_nat (n % 10) (by omega)]; omega
theorem name_named (n : Int) (h1 : 1 ≤ n) (h2 : n ≤ 1073741824) : Txt.name (nameOf n) = true := by
 have e : nameOf n = [115, 101, 103, 45] ++ Lib.decDigits n.toNat := by unfold nameOf; rw [if_pos ⟨h1, h2⟩]
 have hl := name_len n
 have hm := name_min n h1 h2
 have hd := dec_digits n.toNat
 have ha : ∀ b ∈ nameOf n, b.toNat < 128 ∧ Txt.named (b.toNat : Int) = true := by
   intro b hb
   rw [e] at hb
   rcases List.mem_append.1 hb with h | h
   · have : ∀ c ∈ ([115, 101, 103, 45] : List UInt8), c.toNat < 128 ∧ Txt.named (c.toNat : Int) = true := by decide
     exact this b h
   · have := hd b h
     refine ⟨by omega, ?_⟩
     simp only [Txt.named, Bool.or_eq_true, decide_eq_true_eq, beq_iff_eq]; omega
 unfold Txt.name
 rw [toks_all_ascii _ (fun b hb => (ha b hb).1), List.length_map]
 simp only [Bool.and_eq_true, decide_eq_true_eq, List.all_eq_true, List.mem_map]
 refine ⟨⟨by omega, by omega⟩, ?_⟩
 rintro t ⟨b, hb, rfl⟩
 exact (ha b hb).2
end Go.Proofs.YtgddgipjpdjoaaaGreatDoor.Seg
namespace Go.Proofs.YtgddgipjpdjoaaaGreatDoor.Seg
open Go.RowKit
theorem cat_arr (a b : List UInt8) : (⟨a.toArray⟩ : ByteArray) ++ ⟨b.toArray⟩ = ⟨(a ++ b).toArray⟩ := by apply ByteArray.ext; simp
end Go.Proofs.YtgddgipjpdjoaaaGreatDoor.Seg
namespace Go.Proofs.YtgddgipjpdjoaaaGreatDoor
theorem Dk.sorted_ext : ∀ (a b : List Dk.File), Dk.Sorted a → Dk.Sorted b → (∀ k, Dk.look a k = Dk.look b k) → a = b
 | [], [], _, _, _ => rfl
 | [], y :: b, _, _, h => by have := h y.name; simp [Dk.look] at this
 | x :: a, [], _, _, h => by have := h x.name; simp [Dk.look] at this
 | x :: a, y :: b, ha, hb, h => by
   have ha' := List.pairwise_cons.1 ha
   have hb' := List.pairwise_cons.1 hb
   by_cases e : y.name = x.name
   · have hx := h x.name
     simp only [Dk.look, if_true, if_pos e, Option.some.injEq] at hx
     subst hx
     rw [Dk.sorted_ext a b ha'.2 hb'.2 (fun k => by
       by_cases ek : x.name = k
       · subst ek; rw [Dk.look_tail ha, Dk.look_tail hb]
       · have := h k
         simpa only [Dk.look, if_neg ek] using this)]
   · have hx := h x.name
     have hy := h y.name
     simp only [Dk.look, if_true, if_neg e] at hx
     simp only [Dk.look, if_true, if_neg (Ne.symm e)] at hy
     have h1 := hb'.1 x (Dk.look_name hx.symm).2
     have h2 := ha'.1 y (Dk.look_name hy).2
     exact absurd (Std.lt_trans h1 h2) Std.lt_irrefl
theorem Dk.delete_fst (k : List UInt8) (fs : List Dk.File) : (Dk.delete k fs).1 = Dk.del k fs := by
 unfold Dk.delete
 cases h : Dk.look fs k with
 | none => exact (Dk.del_none _ _ h).symm
 | some y => rfl
namespace Seg
def temp : List UInt8 := [116, 101, 109, 112]
def keepN (last : Int) (l : List Evt.Entry) : Nat := (l.takeWhile fun e => decide (e.pos ≤ last)).length
def cutG (room n : Int) (g : Seg) (k : Nat) (fs : List Dk.File) : List Dk.File × Nat :=
 if k = g.entries.length ∧ g.torn = false then (fs, 0) else
 if (writeD room temp ⟨(bytesH g.first ++ bytesB (g.entries.take k)).toArray⟩ (Dk.delete temp fs).1).2 = 0 then Dk.rename temp (nameOf n) (writeD room temp ⟨(bytesH g.first ++ bytesB (g.entries.take k)).toArray⟩ (Dk.delete temp fs).1).1 else
 writeD room temp ⟨(bytesH g.first ++ bytesB (g.entries.take k)).toArray⟩ (Dk.delete temp fs).1
def cutD (room n last : Int) (fs : List Dk.File) : List Dk.File × Nat :=
 if (loadD n fs).2 = 0 then cutG room n (loadD n fs).1 (keepN last (loadD n fs).1.entries) fs else (fs, (loadD n fs).2)
theorem temp_named : Txt.name temp = true := by simp [temp, Txt.name, Txt.toks_ascii, Txt.toks_nil, Txt.named]
theorem temp_ne (n : Int) : nameOf n ≠ temp := by
 unfold nameOf temp
 split
 · intro h; simp at h
 · simp
theorem loadD_look {n : Int} {fs : List Dk.File} {x : Dk.File} (h : Dk.look fs (nameOf n) = some x) : loadD n fs = load x.bytes.data.toList := by
 unfold loadD Dk.read; rw [h]; simp
theorem write_new {room : Int} {k : List UInt8} {s : ByteArray} {fs : List Dk.File} (hs : Dk.Sorted fs) (hk : Txt.name k = true) (h0 : Dk.look fs k = none) (h40 : fs.length < 40) (hr : (Dk.total fs : Int) + s.size ≤ room) : writeD room k s fs = (Dk.put ⟨k, s, s.size⟩ fs, 0) := by
 have ha : Dk.append room k s fs = (Dk.put ⟨k, s, 0⟩ fs, 0) := by
   unfold Dk.append
   rw [if_neg (by rw [hk]; simp), if_neg (by omega), if_neg (by omega), h0]; rfl
 unfold writeD
 rw [ha, if_pos rfl]
 have hl := Dk.look_put_same ⟨k, s, 0⟩ fs
 simp only at hl
 unfold Dk.sync
 rw [hl]
 simp only [Prod.mk.injEq, and_true]
 refine Dk.sorted_ext _ _ (Dk.sorted_put _ _ (Dk.sorted_put _ _ hs)) (Dk.sorted_put _ _ hs) (fun j => ?_)
 by_cases e : j = k
 · subst e
   have e1 := Dk.look_put_same ⟨j, s, s.size⟩ (Dk.put ⟨j, s, 0⟩ fs)
   have e2 := Dk.look_put_same ⟨j, s, s.size⟩ fs
   simp only at e1 e2
   rw [e1, e2]
 · rw [Dk.look_put_other ⟨k, s, s.size⟩ e, Dk.look_put_other ⟨k, s, s.size⟩ e, Dk.look_put_other ⟨k, s, 0⟩ e]
theorem cut_same {room n last : Int} {fs : List Dk.File} {g : Seg} (hg : loadD n fs = (g, 0)) (hk : keepN last g.entries = g.entries.length) (ht : g.torn = false) : cutD room n last fs = (fs, 0) := by
 unfold cutD cutG
 rw [hg, if_pos rfl, if_pos ⟨hk, ht⟩]
theorem cut_new {room n last : Int} {fs : List Dk.File} {g : Seg} {s : ByteArray} (h1 : 1 ≤ n) (h2 : n ≤ 1073741824) (hs : Dk.Sorted fs) (hg : loadD n fs = (g, 0)) (hk : ¬ (keepN last g.entries = g.entries.length ∧ g.torn = false)) (ht : Dk.look fs temp = none) (h40 : fs.length < 40)
   (hb : s = ⟨(bytesH g.first ++ bytesB (g.entries.take (keepN last g.entries))).toArray⟩) (hr : (Dk.total fs : Int) + s.size ≤ room) :
   cutD room n last fs = (Dk.put ⟨nameOf n, s, s.size⟩ fs, 0) := by
 unfold cutD cutG
 rw [hg, if_pos rfl, if_neg hk, Dk.delete_fst, Dk.del_none _ _ ht, ← hb, write_new hs temp_named ht h40 hr, if_pos rfl]
 have hl := Dk.look_put_same ⟨temp, s, s.size⟩ fs
 simp only at hl
 unfold Dk.rename
 rw [hl]
 simp only
 rw [if_neg (by rw [name_named n h1 h2]; simp), if_neg (fun e => temp_ne n e.symm)]
 simp only [Prod.mk.injEq, and_true]
 have q1 := Dk.sorted_put ⟨temp, s, s.size⟩ fs hs
 have q2 := Dk.sorted_del (nameOf n) _ q1
 have q3 := Dk.sorted_del temp _ q2
 refine Dk.sorted_ext _ _ (Dk.sorted_put _ _ q3) (Dk.sorted_put _ _ hs) (fun j => ?_)
 by_cases e : j = nameOf n
 · subst e
   have e1 := Dk.look_put_same ⟨nameOf n, s, s.size⟩ (Dk.del temp (Dk.del (nameOf n) (Dk.put ⟨temp, s, s.size⟩ fs)))
   have e2 := Dk.look_put_same ⟨nameOf n, s, s.size⟩ fs
   simp only at e1 e2
   rw [e1, e2]
 · rw [Dk.look_put_other ⟨nameOf n, s, s.size⟩ e, Dk.look_put_other ⟨nameOf n, s, s.size⟩ e]
   by_cases e2 : j = temp
   · subst e2; rw [Dk.look_del_same _ _ q2, ht]
   · rw [Dk.look_del_other _ e2, Dk.look_del_other _ e, Dk.look_put_other ⟨temp, s, s.size⟩ e2]
theorem add_look {room n : Int} {l : List Evt.Entry} {fs : List Dk.File} {g : Seg} (hg : loadD n fs = (g, 0)) :
   addD room n l fs = if g.torn = true then (fs, 2) else if Evt.follows l (last g).1 (last g).2 = false then (fs, 11) else if l = [] then (fs, 0) else
     if (Dk.append room (nameOf n) ⟨(bytesB l).toArray⟩ fs).2 = 0 then Dk.sync (nameOf n) (Dk.append room (nameOf n) ⟨(bytesB l).toArray⟩ fs).1 else Dk.append room (nameOf n) ⟨(bytesB l).toArray⟩ fs := by
 unfold addD; rw [hg, if_pos rfl]
theorem more_sync {room : Int} {k : List UInt8} {s : ByteArray} {fs : List Dk.File} {x : Dk.File} (hs : Dk.Sorted fs) (hk : Txt.name k = true) (hl : Dk.look fs k = some x) (hr : (Dk.total fs : Int) + s.size ≤ room) :
   Dk.append room k s fs = (Dk.put ⟨k, x.bytes ++ s, x.synced⟩ fs, 0) ∧ Dk.sync k (Dk.append room k s fs).1 = (Dk.put ⟨k, x.bytes ++ s, (x.bytes ++ s).size⟩ fs, 0) := by
 have ha : Dk.append room k s fs = (Dk.put ⟨k, x.bytes ++ s, x.synced⟩ fs, 0) := by
   unfold Dk.append
   rw [if_neg (by rw [hk]; simp), if_neg (by rw [hl]; simp), if_neg (by omega), hl]; rfl
 refine ⟨ha, ?_⟩
 rw [ha]
 have hl := Dk.look_put_same ⟨k, x.bytes ++ s, x.synced⟩ fs
 simp only at hl
 unfold Dk.sync
 simp only
 rw [hl]
 simp only [Prod.mk.injEq, and_true]
 refine Dk.sorted_ext _ _ (Dk.sorted_put _ _ (Dk.sorted_put _ _ hs)) (Dk.sorted_put _ _ hs) (fun j => ?_)
 by_cases e : j = k
 · subst e
   have e1 := Dk.look_put_same ⟨j, x.bytes ++ s, (x.bytes ++ s).size⟩ (Dk.put ⟨j, x.bytes ++ s, x.synced⟩ fs)
   have e2 := Dk.look_put_same ⟨j, x.bytes ++ s, (x.bytes ++ s).size⟩ fs
   simp only at e1 e2
   rw [e1, e2]
 · rw [Dk.look_put_other ⟨k, x.bytes ++ s, (x.bytes ++ s).size⟩ e, Dk.look_put_other ⟨k, x.bytes ++ s, (x.bytes ++ s).size⟩ e, Dk.look_put_other ⟨k, x.bytes ++ s, x.synced⟩ e]
end Seg
end Go.Proofs.YtgddgipjpdjoaaaGreatDoor
namespace Go.Proofs.YtgddgipjpdjoaaaGreatDoor
namespace Seg
theorem create_look {room n first : Int} {fs : List Dk.File} (h1 : 1 ≤ n) (h2 : n ≤ 1073741824) (h3 : 1 ≤ first) (h4 : first ≤ 274877906944) (hs : Dk.Sorted fs) (hl : Dk.look fs (nameOf n) = none) (h40 : fs.length < 40) (hr : (Dk.total fs : Int) + 15 ≤ room) :
   create room n first fs = (Dk.put ⟨nameOf n, ⟨(bytesH first).toArray⟩, (⟨(bytesH first).toArray⟩ : ByteArray).size⟩ fs, 0) := by
 have hb : (⟨(bytesH first).toArray⟩ : ByteArray).size ≤ 15 := by rw [Lib.size_eq]; exact bytesH_len first
 unfold create
 rw [if_neg (by rintro (h | h | h) <;> first | exact name_ne n h1 h2 h | omega), if_neg (by simp [Dk.read, hl]), write_new hs (name_named n h1 h2) hl h40 (by omega)]
def whole (first : Int) (l : List Evt.Entry) : ByteArray := ⟨(bytesH first ++ bytesB l).toArray⟩
theorem whole_append (first : Int) (l m : List Evt.Entry) : whole first (l ++ m) = whole first l ++ ⟨(bytesB m).toArray⟩ := by
 unfold whole; rw [cat_arr, bytesB_append, List.append_assoc]
end Seg
end Go.Proofs.YtgddgipjpdjoaaaGreatDoor
