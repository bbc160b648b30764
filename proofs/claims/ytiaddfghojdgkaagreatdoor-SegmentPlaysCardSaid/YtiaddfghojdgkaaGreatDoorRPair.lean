/-
  A disk and the document's, apart, and what else is to be kept.
-/
import Derived.Test.YtiaddfghojdgkaaGreatDoorRSam
import Derived.Test.YtiaddfghojdgkaaGreatDoorCut
namespace Go.Proofs.YtiaddfghojdgkaaGreatDoor
open Go.RowKit Go.Shelf

/-- What is kept by whatever turns no more than X. -/
def Firm (R : (Nat → Prop) → World → Prop) : Prop := ∀ (X X' : Nat → Prop) (w w' : World), R X w → Turn X w w' → (∀ j, X' j → X j ∨ w.heap.size ≤ j) → R X' w'
theorem firm_true : Firm (fun _ _ => True) := fun _ _ _ _ _ _ _ => trivial
theorem firm_and {R S : (Nat → Prop) → World → Prop} (hR : Firm R) (hS : Firm S) : Firm (fun X w => R X w ∧ S X w) := fun X X' w w' h ht hX => ⟨hR X X' w w' h.1 ht hX, hS X X' w w' h.2 ht hX⟩
theorem Turn.more {f g : Nat → Prop} {w w' : World} (h : Turn f w w') (hg : ∀ j, f j → g j) : Turn g w w' := ⟨h.os, h.tape, h.output, h.size, fun j hj hn => h.block j hj (fun hf => hn (hg j hf))⟩
structure PRx (R : (Nat → Prop) → World → Prop) (a : World) (d m : Nat) (room : Int) (fs gs : List Dk.File) (ft fu : Nat → Prop) (w : World) : Prop where
  env : Env a
  below : Below a.heap.size a w
  disk : IsDisk w d room fs ft
  ref : IsR w m room gs fu
  dis : ∀ j, ft j → ¬ fu j
  lt : ∀ j, ft j ∨ fu j → a.heap.size ≤ j ∧ j < w.heap.size
  rest : R (fun j => ft j ∨ fu j) w
def PR (R : (Nat → Prop) → World → Prop) (a : World) (d m : Nat) (room : Int) (fs gs : List Dk.File) (w : World) : Prop := ∃ ft fu, PRx R a d m room fs gs ft fu w
variable {R : (Nat → Prop) → World → Prop} {a w w' : World} {d m : Nat} {room : Int} {fs gs fs' gs' : List Dk.File} {ft fu : Nat → Prop}
theorem PRx.base (h : PRx R a d m room fs gs ft fu w) : Base a w ft := ⟨h.env, h.below, fun j hj => (h.lt j (.inl hj)).1⟩
theorem PRx.next (h : PRx R a d m room fs gs ft fu w) (hR : Firm R) (hb : Below w.heap.size w w') : PRx R a d m room fs gs ft fu w' :=
  ⟨h.env, Below.up h.below (Nat.le_refl _) hb, h.disk.next hb, h.ref.next hb, h.dis, fun j hj => ⟨(h.lt j hj).1, Nat.lt_of_lt_of_le (h.lt j hj).2 hb.size⟩, hR _ _ w w' h.rest (Turn.of_below hb) (fun _ hj => .inl hj)⟩
theorem PR.next (h : PR R a d m room fs gs w) (hR : Firm R) (hb : Below w.heap.size w w') : PR R a d m room fs gs w' := by
  obtain ⟨ft, fu, h⟩ := h; exact ⟨ft, fu, h.next hR hb⟩
theorem PRx.stepD (h : PRx R a d m room fs gs ft fu w) (hR : Firm R) (hd : DStep d room fs' ft w w') : PR R a d m room fs' gs w' := by
  obtain ⟨g, q1, q2, q3, q4⟩ := hd.open
  have hb := q4.below (fun j hj => (h.lt j (.inl hj)).1) h.below.size
  refine ⟨g, fu, h.env, h.below.trans hb, q1, h.ref.other q4 (fun j hu ht => h.dis j ht hu), fun j hj hu => ?_, fun j hj => ?_, hR _ _ w w' h.rest (q4.more fun j hj => .inl hj) (fun j hj => ?_)⟩
  · rcases q2 j hj with e | e
    · exact h.dis j e hu
    · have := (h.lt j (.inr hu)).2; omega
  · rcases hj with hj | hj
    · refine ⟨?_, q3 j hj⟩
      rcases q2 j hj with e | e
      · exact (h.lt j (.inl e)).1
      · exact Nat.le_trans h.below.size e
    · exact ⟨(h.lt j (.inr hj)).1, Nat.lt_of_lt_of_le (h.lt j (.inr hj)).2 q4.size⟩
  · rcases hj with hj | hj
    · rcases q2 j hj with e | e
      · exact .inl (.inl e)
      · exact .inr e
    · exact .inl (.inr hj)
theorem PRx.stepR (h : PRx R a d m room fs gs ft fu w) (hR : Firm R) (hd : RStep m room gs' fu w w') : PR R a d m room fs gs' w' := by
  obtain ⟨g, q1, q2, q3, q4⟩ := hd.open
  have hb := q4.below (fun j hj => (h.lt j (.inr hj)).1) h.below.size
  refine ⟨ft, g, h.env, h.below.trans hb, h.disk.kept (fun j hj hf => q4.block j hj (h.dis j hf)), q1, fun j hj hu => ?_, fun j hj => ?_, hR _ _ w w' h.rest (q4.more fun j hj => .inr hj) (fun j hj => ?_)⟩
  · rcases q2 j hu with e | e
    · exact h.dis j hj e
    · have := (h.lt j (.inl hj)).2; omega
  · rcases hj with hj | hj
    · exact ⟨(h.lt j (.inl hj)).1, Nat.lt_of_lt_of_le (h.lt j (.inl hj)).2 q4.size⟩
    · refine ⟨?_, q3 j hj⟩
      rcases q2 j hj with e | e
      · exact (h.lt j (.inr e)).1
      · exact Nat.le_trans h.below.size e
  · rcases hj with hj | hj
    · exact .inl (.inl hj)
    · rcases q2 j hj with e | e
      · exact .inl (.inr e)
      · exact .inr e
theorem PR.below (h : PR R a d m room fs gs w) : Below a.heap.size a w := by obtain ⟨_, _, h⟩ := h; exact h.below
theorem PR.env (h : PR R a d m room fs gs w) : Env w := by obtain ⟨_, _, h⟩ := h; exact h.env.next h.below
end Go.Proofs.YtiaddfghojdgkaaGreatDoor
