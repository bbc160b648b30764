/-
  Two disks side by side.
-/
import Derived.Test.YthmblkckpdpjkaaGreatDoorShown
namespace Go.Proofs.YthmblkckpdpjkaaGreatDoor
open Go.RowKit Go.Shelf

structure Two (a : World) (P1 d1 : Nat) (m1 : Value) (fs1 : List Dk.File) (P2 d2 : Nat) (m2 : Value) (fs2 : List Dk.File) (room : Int) (w : World) (f1 f2 : Nat → Prop) : Prop where
  k1 : IsDisk w d1 room fs1 f1
  k2 : IsDisk w d2 room fs2 f2
  b1 : Base a w f1
  b2 : Base a w f2
  l1 : ∀ j, f1 j → j < w.heap.size
  l2 : ∀ j, f2 j → j < w.heap.size
  dis : ∀ j, f1 j → ¬ f2 j
  p1 : PB P1 (.pointer (some ⟨d1, 0, none⟩)) m1 w
  p2 : PB P2 (.pointer (some ⟨d2, 0, none⟩)) m2 w
  n11 : ¬ f1 P1
  n12 : ¬ f1 P2
  n21 : ¬ f2 P1
  n22 : ¬ f2 P2
def St2 (a : World) (P1 d1 : Nat) (m1 : Value) (fs1 : List Dk.File) (P2 d2 : Nat) (m2 : Value) (fs2 : List Dk.File) (room : Int) (w : World) : Prop := ∃ f1 f2, Two a P1 d1 m1 fs1 P2 d2 m2 fs2 room w f1 f2
variable {a w w' : World} {P1 d1 P2 d2 : Nat} {m1 m2 : Value} {fs1 fs2 : List Dk.File} {room : Int}
theorem St2.next (h : St2 a P1 d1 m1 fs1 P2 d2 m2 fs2 room w) (hb : Below w.heap.size w w') : St2 a P1 d1 m1 fs1 P2 d2 m2 fs2 room w' := by
  obtain ⟨f1, f2, h⟩ := h
  exact ⟨f1, f2, h.k1.next hb, h.k2.next hb, h.b1.next hb, h.b2.next hb, fun j hj => Nat.lt_of_lt_of_le (h.l1 j hj) hb.size, fun j hj => Nat.lt_of_lt_of_le (h.l2 j hj) hb.size, h.dis, h.p1.next hb, h.p2.next hb, h.n11, h.n12, h.n21, h.n22⟩
theorem St2.swap (h : St2 a P1 d1 m1 fs1 P2 d2 m2 fs2 room w) : St2 a P2 d2 m2 fs2 P1 d1 m1 fs1 room w := by
  obtain ⟨f1, f2, h⟩ := h
  exact ⟨f2, f1, h.k2, h.k1, h.b2, h.b1, h.l2, h.l1, fun j h2 h1 => h.dis j h1 h2, h.p2, h.p1, h.n22, h.n21, h.n12, h.n11⟩
theorem Two.step {f1 f2 : Nat → Prop} {fs' : List Dk.File} (h : Two a P1 d1 m1 fs1 P2 d2 m2 fs2 room w f1 f2) (hd : DStep d1 room fs' f1 w w') : St2 a P1 d1 m1 fs' P2 d2 m2 fs2 room w' := by
  obtain ⟨g, q1, q2, q3, q4⟩ := hd.open
  have hP1 := (Array.getElem?_eq_some_iff.1 h.p1).1
  have hP2 := (Array.getElem?_eq_some_iff.1 h.p2).1
  have hB := h.b1.turn q4 q2
  refine ⟨g, f2, q1, h.k2.other q4 (fun j h2 h1 => h.dis j h1 h2), hB, ⟨h.b2.env, hB.below, h.b2.out⟩, q3, fun j hj => Nat.lt_of_lt_of_le (h.l2 j hj) q4.size, ?_,
    (q4.block P1 hP1 h.n11).trans h.p1, (q4.block P2 hP2 h.n12).trans h.p2, ?_, ?_, h.n21, h.n22⟩
  · intro j hj h2
    rcases q2 j hj with e | e
    · exact h.dis j e h2
    · have := h.l2 j h2; omega
  · intro e
    rcases q2 P1 e with e | e
    · exact h.n11 e
    · omega
  · intro e
    rcases q2 P2 e with e | e
    · exact h.n12 e
    · omega
theorem St2.env (h : St2 a P1 d1 m1 fs1 P2 d2 m2 fs2 room w) : Env w := by obtain ⟨f1, f2, h⟩ := h; exact h.b1.envW
theorem St2.below (h : St2 a P1 d1 m1 fs1 P2 d2 m2 fs2 room w) : Below a.heap.size a w := by obtain ⟨f1, f2, h⟩ := h; exact h.b1.below
theorem St2.cells (h : St2 a P1 d1 m1 fs1 P2 d2 m2 fs2 room w) : w.cell? ⟨P1, 0, none⟩ = some (.pointer (some ⟨d1, 0, none⟩)) ∧ w.cell? ⟨P2, 0, none⟩ = some (.pointer (some ⟨d2, 0, none⟩)) := by
  obtain ⟨f1, f2, h⟩ := h; exact ⟨h.p1.cells.1, h.p2.cells.1⟩
theorem create_st2 {n first : Int} {fs' : List Dk.File} {c : Nat} (h : St2 a P1 d1 m1 fs1 P2 d2 m2 fs2 room w) (hc : Seg.create room n first fs1 = (fs', c)) :
    Calls Tryz.prog 17 #[.pointer (some ⟨d1, 0, none⟩), .int .i64 n, .int .i64 first] w fun e w' => e = .returned (.int .i64 (c : Nat)) ∧ St2 a P1 d1 m1 fs' P2 d2 m2 fs2 room w' := by
  obtain ⟨f1, f2, h⟩ := h
  refine (segCreate_any a d1 room n first fs1 f1 w h.b1 h.k1).mono ?_
  rintro e w' ⟨rfl, hd⟩
  rw [hc] at hd ⊢
  exact ⟨rfl, h.step hd⟩
theorem add_st2 {n : Int} {fs' : List Dk.File} {c : Nat} {lv : Value} {qs : List EnX} (h : St2 a P1 d1 m1 fs1 P2 d2 m2 fs2 room w) (hroom : room ≤ 1048576) (hq : Ents w lv qs) (hqn : qs.length ≤ 1000) (hc : Seg.addD room n (plainE qs) fs1 = (fs', c)) :
    Calls Tryz.prog 18 #[.pointer (some ⟨d1, 0, none⟩), .int .i64 n, lv] w fun e w' => e = .returned (.int .i64 (c : Nat)) ∧ St2 a P1 d1 m1 fs' P2 d2 m2 fs2 room w' := by
  obtain ⟨f1, f2, h⟩ := h
  refine (segAdd_any a d1 room n fs1 f1 lv qs w h.b1 h.k1 hroom hq hqn).mono ?_
  rintro e w' ⟨rfl, hd⟩
  rw [hc] at hd ⊢
  exact ⟨rfl, h.step hd⟩
/-- Two disks that were made one behind the other, each with its pair. -/
theorem two_begun {w2 w3 w5 : World} {f1 f2 : Nat → Prop} (hE : Env a) (b2 : Below a.heap.size a w2) (h1 : IsDisk w3 d1 room [] f1) (hf1 : ∀ j, f1 j → w2.heap.size ≤ j ∧ j < w3.heap.size) (b3 : Below w2.heap.size w2 w3)
    (h2 : IsDisk w5 d2 room [] f2) (hf2 : ∀ j, f2 j → (w3.alloc (.cells #[.pointer (some ⟨d1, 0, none⟩), m1] 31)).heap.size ≤ j ∧ j < w5.heap.size)
    (b5 : Below (w3.alloc (.cells #[.pointer (some ⟨d1, 0, none⟩), m1] 31)).heap.size (w3.alloc (.cells #[.pointer (some ⟨d1, 0, none⟩), m1] 31)) w5) :
    St2 a w3.heap.size d1 m1 [] w5.heap.size d2 m2 [] room (w5.alloc (.cells #[.pointer (some ⟨d2, 0, none⟩), m2] 31)) := by
  have hb4 : Below w3.heap.size w3 (w3.alloc (.cells #[.pointer (some ⟨d1, 0, none⟩), m1] 31)) := (Below.refl _ _).alloc (Nat.le_refl _) _
  have hb6 : Below w5.heap.size w5 (w5.alloc (.cells #[.pointer (some ⟨d2, 0, none⟩), m2] 31)) := (Below.refl _ _).alloc (Nat.le_refl _) _
  have p1 : PB w3.heap.size (.pointer (some ⟨d1, 0, none⟩)) m1 (w3.alloc (.cells #[.pointer (some ⟨d1, 0, none⟩), m1] 31)) := heap_alloc_new w3 _
  have s2 := b2.size
  have s3 := b3.size
  have s5 := b5.size
  simp only [World.size_alloc] at hf2 s5
  have hba : Below a.heap.size a (w5.alloc (.cells #[.pointer (some ⟨d2, 0, none⟩), m2] 31)) :=
    (b2.trans (b3.mono s2)).trans (((hb4.mono (by omega)).trans (b5.mono (by simp; omega))).trans (hb6.mono (by omega)))
  refine ⟨f1, f2, ((h1.next hb4).next b5).next hb6, h2.next hb6, ⟨hE, hba, fun j hj => by have := (hf1 j hj).1; omega⟩, ⟨hE, hba, fun j hj => by have := (hf2 j hj).1; omega⟩, fun j hj => by have := (hf1 j hj).2; simp; omega, fun j hj => by have := (hf2 j hj).2; simp; omega,
    fun j hj hk => by have := (hf1 j hj).2; have := (hf2 j hk).1; omega, (p1.next b5).next hb6, heap_alloc_new w5 _, fun h => by have := (hf1 _ h).2; omega, fun h => by have := (hf1 _ h).2; omega, fun h => by have := (hf2 _ h).1; omega, fun h => by have := (hf2 _ h).2; omega⟩
end Go.Proofs.YthmblkckpdpjkaaGreatDoor
