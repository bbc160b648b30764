/-
  Plain Lean, no program in sight: what a file of entries has (layer 9).
-/
import Derived.Test.YthmblkckpdpjkaaGreatDoorFrmA
import Derived.Test.YthmblkckpdpjkaaGreatDoorEvtA
namespace Go.Proofs.YthmblkckpdpjkaaGreatDoor.Seg
open Evt

def headP (first : Int) : List UInt8 := 115 :: Num.put (Num.held first)
def bytesH (first : Int) : List UInt8 := Frm.framed (headP first)
def member (e : Entry) : List UInt8 := 101 :: Evt.put e
def bytesB (l : List Entry) : List UInt8 := (l.map member).flatMap Frm.framed
theorem headP_good (first : Int) : Frm.good (headP first) := by
  have := Num.put_le6 _ (Num.held_le first)
  exact ⟨by simp [headP], by simp only [headP, List.length_cons]; omega⟩
theorem member_good (e : Entry) : Frm.good (member e) := by
  have := Evt.put_len e
  exact ⟨by simp [member], by simp only [member, List.length_cons]; omega⟩
theorem bytesB_row (l : List Entry) : Frm.rowF (l.map member) = (bytesB l, 0) :=
  Frm.row_good _ (fun p hp => by obtain ⟨e, _, rfl⟩ := List.mem_map.1 hp; exact member_good e)
theorem bytesB_append (a b : List Entry) : bytesB (a ++ b) = bytesB a ++ bytesB b := by simp [bytesB]
theorem bytesB_nil : bytesB [] = [] := rfl
theorem bytesB_len : ∀ (l : List Entry), (bytesB l).length ≤ 3021 * l.length
  | [] => by simp [bytesB]
  | e :: l => by
    have h1 := Evt.put_len e
    have h2 := bytesB_len l
    have h3 : bytesB (e :: l) = Frm.framed (member e) ++ bytesB l := rfl
    rw [h3, List.length_append, Frm.framed_len, member, List.length_cons, List.length_cons]; omega
theorem bytesH_len (first : Int) : (bytesH first).length ≤ 15 := by
  have := Num.put_le6 _ (Num.held_le first)
  rw [bytesH, Frm.framed_len, headP, List.length_cons]; omega
/-- One entry of a row, behind a place and an epoch. -/
def goes (pos epoch : Int) (s : List UInt8) : Bool :=
  (s.head? == some 101) && ((Evt.take (s.drop 1)).2.2 == 0) && ((Evt.take (s.drop 1)).2.1.isEmpty) && ((Evt.take (s.drop 1)).1.pos == pos + 1) && decide (epoch ≤ (Evt.take (s.drop 1)).1.epoch)
def entF : Int → Int → List (List UInt8) → List Entry
  | _, _, [] => []
  | pos, epoch, s :: l => if goes pos epoch s then (Evt.take (s.drop 1)).1 :: entF (Evt.take (s.drop 1)).1.pos (Evt.take (s.drop 1)).1.epoch l else []
structure Seg where
  first : Int
  entries : List Entry
  torn : Bool
def zeroS : Seg := ⟨0, [], false⟩
def opens (h : List UInt8) : Bool :=
  (h.head? == some 115) && ((Num.take (h.drop 1)).2.2 == 0) && ((Num.take (h.drop 1)).2.1.isEmpty) && decide (1 ≤ (Num.take (h.drop 1)).1) && decide ((Num.take (h.drop 1)).1 ≤ 274877906944)
def loaded (first : Int) (l : List Entry) (s : List UInt8) : Seg := ⟨first, l, bytesH first ++ bytesB l != s⟩
def load (s : List UInt8) : Seg × Nat :=
  match (Frm.scan s).1 with
  | [] => (zeroS, 2)
  | h :: l => if opens h then (loaded (Num.take (h.drop 1)).1 (entF ((Num.take (h.drop 1)).1 - 1) 0 l) s, 0) else (zeroS, 2)
def last (g : Seg) : Int × Int := match g.entries.getLast? with | none => (g.first - 1, 0) | some e => (e.pos, e.epoch)

/-! ### Laws -/
theorem follows_cons {e : Entry} {l : List Entry} {pos epoch : Int} : follows (e :: l) pos epoch = true ↔ e.pos = pos + 1 ∧ epoch ≤ e.epoch ∧ rightN e = true ∧ follows l e.pos e.epoch = true := by
  rw [follows]
  split
  · rename_i h
    simp only [Bool.false_eq_true, false_iff]
    rintro ⟨h1, h2, h3, _⟩
    rcases h with h | h | h
    · exact h h1
    · omega
    · rw [h3] at h; cases h
  · rename_i h
    have h1 : ¬ (rightN e = false) := fun g => h (.inr (.inr g))
    constructor
    · intro g; exact ⟨by omega, by omega, by simpa using h1, g⟩
    · rintro ⟨_, _, _, g⟩; exact g
/-- Where a row ends that began behind a place. -/
def endOf (pos epoch : Int) : List Entry → Int × Int
  | [] => (pos, epoch)
  | e :: l => endOf e.pos e.epoch l
theorem follows_append : ∀ (a b : List Entry) (pos epoch : Int), follows (a ++ b) pos epoch = true ↔ follows a pos epoch = true ∧ follows b (endOf pos epoch a).1 (endOf pos epoch a).2 = true
  | [], b, pos, epoch => by simp [follows, endOf]
  | e :: a, b, pos, epoch => by
    rw [List.cons_append, follows_cons, follows_cons, follows_append a b, endOf]; simp [and_assoc]
theorem endOf_last : ∀ (l : List Entry) (pos epoch : Int), endOf pos epoch l = match l.getLast? with | none => (pos, epoch) | some e => (e.pos, e.epoch)
  | [], pos, epoch => rfl
  | [e], pos, epoch => rfl
  | e :: f :: l, pos, epoch => by
    rw [endOf, endOf_last (f :: l)]
    simp [List.getLast?_cons]
theorem last_end (g : Seg) : last g = endOf (g.first - 1) 0 g.entries := by
  rw [endOf_last, last]
theorem goes_member {e : Entry} {pos epoch : Int} (h : rightN e = true) (h1 : e.pos = pos + 1) (h2 : epoch ≤ e.epoch) : goes pos epoch (member e) = true ∧ (Evt.take ((member e).drop 1)).1 = e := by
  have ht : Evt.take ((member e).drop 1) = (e, [], 0) := by
    have := Evt.take_put e [] h
    simpa [member] using this
  refine ⟨?_, by rw [ht]⟩
  unfold goes
  rw [ht]
  simp [member, h1, h2]
theorem entF_members : ∀ (l : List Entry) (r : List (List UInt8)) (pos epoch : Int), follows l pos epoch = true → entF pos epoch (l.map member ++ r) = l ++ entF (endOf pos epoch l).1 (endOf pos epoch l).2 r
  | [], r, pos, epoch, _ => rfl
  | e :: l, r, pos, epoch, h => by
    obtain ⟨h1, h2, h3, h4⟩ := follows_cons.1 h
    obtain ⟨g1, g2⟩ := goes_member h3 h1 h2
    rw [List.map_cons, List.cons_append, entF, if_pos g1, g2, entF_members l r _ _ h4, endOf, List.cons_append]
theorem entF_follows : ∀ (l : List (List UInt8)) (pos epoch : Int), follows (entF pos epoch l) pos epoch = true
  | [], _, _ => rfl
  | s :: l, pos, epoch => by
    rw [entF]
    split
    · rename_i h
      simp only [goes, Bool.and_eq_true, beq_iff_eq, decide_eq_true_eq] at h
      obtain ⟨⟨⟨⟨h1, h2⟩, h3⟩, h4⟩, h5⟩ := h
      exact follows_cons.2 ⟨h4, h5, Evt.take_right _ h2, entF_follows l _ _⟩
    · rfl
theorem entF_len : ∀ (l : List (List UInt8)) (pos epoch : Int), (entF pos epoch l).length ≤ l.length
  | [], _, _ => Nat.le_refl _
  | s :: l, pos, epoch => by
    rw [entF]
    split
    · have := entF_len l (Evt.take (s.drop 1)).1.pos (Evt.take (s.drop 1)).1.epoch
      simp only [List.length_cons]; omega
    · simp
theorem headP_opens (first : Int) (h1 : 1 ≤ first) (h2 : first ≤ 274877906944) : opens (headP first) = true ∧ (((Num.take ((headP first).drop 1)).1 : Nat) : Int) = first := by
  have e : Num.held first = first.toNat := by unfold Num.held; rw [if_neg (by omega), if_pos (by omega)]
  have ht : Num.take ((headP first).drop 1) = (first.toNat, [], 0) := by
    have := Num.take_put first.toNat (by omega) []
    simpa [headP, e] using this
  unfold opens
  rw [ht]
  refine ⟨?_, by simp only; omega⟩
  simp [headP]; omega
/-- What is read of a beginning of a segment's bytes. -/
theorem load_prefix (first : Int) (l : List Entry) (q r : List UInt8) (h1 : 1 ≤ first) (h2 : first ≤ 274877906944) (hf : follows l (first - 1) 0 = true) (he : bytesH first ++ bytesB l = q ++ r) (hq : (bytesH first).length ≤ q.length) :
    ∃ k, k ≤ l.length ∧ load q = (loaded first (l.take k) q, 0) ∧ (∀ j, j ≤ l.length → (bytesH first ++ bytesB (l.take j)).length ≤ q.length → j ≤ k) := by
  have hall : ∀ p ∈ headP first :: l.map member, Frm.good p := by
    intro p hp
    rcases List.mem_cons.1 hp with rfl | hp
    · exact headP_good first
    · obtain ⟨e, _, rfl⟩ := List.mem_map.1 hp; exact member_good e
  obtain ⟨k, hk1, hk2, hk3⟩ := Frm.scan_prefix (headP first :: l.map member) q r hall (by simpa [bytesH, bytesB] using he)
  have hk0 : 1 ≤ k := hk3 1 (by simp) (by simpa [bytesH] using hq)
  obtain ⟨k, rfl⟩ : ∃ m, k = m + 1 := ⟨k - 1, by omega⟩
  simp only [List.length_cons, List.length_map] at hk1
  obtain ⟨o1, o2⟩ := headP_opens first h1 h2
  have hs : (Frm.scan q).1 = headP first :: (l.take k).map member := by rw [hk2]; simp [List.map_take]
  have hft : follows (l.take k) (first - 1) 0 = true := by
    have := (follows_append (l.take k) (l.drop k) (first - 1) 0).1 (by rw [List.take_append_drop]; exact hf)
    exact this.1
  refine ⟨k, by omega, ?_, ?_⟩
  · unfold load
    rw [hs]
    simp only [o1, if_true, o2]
    have := entF_members (l.take k) [] (first - 1) 0 hft
    simp only [List.append_nil] at this
    rw [this, entF, List.append_nil]
  · intro j hj hl
    have := hk3 (j + 1) (by simp; omega) (by
      simp only [List.take_succ_cons, List.flatMap_cons, ← List.map_take]
      simpa [bytesH, bytesB] using hl)
    omega
theorem load_bytes (first : Int) (l : List Entry) (h1 : 1 ≤ first) (h2 : first ≤ 274877906944) (hf : follows l (first - 1) 0 = true) : load (bytesH first ++ bytesB l) = (⟨first, l, false⟩, 0) := by
  obtain ⟨k, k1, k2, k3⟩ := load_prefix first l (bytesH first ++ bytesB l) [] h1 h2 hf (by simp) (by simp)
  have := k3 l.length (Nat.le_refl _) (by simp)
  have e : l.take k = l := List.take_of_length_le (by omega)
  rw [k2, e, loaded]
  simp
theorem load_le (s : List UInt8) : (load s).2 ≤ 2 ∧ ((load s).2 ≠ 0 → load s = (zeroS, 2)) ∧
    ((load s).2 = 0 → 1 ≤ (load s).1.first ∧ (load s).1.first ≤ 274877906944 ∧ follows (load s).1.entries ((load s).1.first - 1) 0 = true ∧ (load s).1.torn = (bytesH (load s).1.first ++ bytesB (load s).1.entries != s) ∧ 9 * (load s).1.entries.length ≤ s.length) := by
  have hc := Frm.scan_count s.length s (Nat.le_refl _)
  unfold load
  split
  · simp
  · rename_i h l hs
    rw [hs] at hc
    split
    · rename_i g
      simp only [opens, Bool.and_eq_true, beq_iff_eq, decide_eq_true_eq] at g
      have := entF_len l (((Num.take (h.drop 1)).1 : Nat) - 1 : Int) 0
      simp only [List.length_cons] at hc
      refine ⟨by simp, by simp, fun _ => ⟨?_, ?_, entF_follows _ _ _, rfl, ?_⟩⟩
      · simp only [loaded]; omega
      · simp only [loaded]; omega
      · simp only [loaded]; omega
    · simp
end Go.Proofs.YthmblkckpdpjkaaGreatDoor.Seg
