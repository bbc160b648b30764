/-
  A state at a block; a replica: its log, its state; what is kept beside it.
-/
import Derived.Test.YtgddgipjpdjoaaaGreatDoorSta1
import Derived.Test.YtgddgipjpdjoaaaGreatDoorLogW4
namespace Go.Proofs.YtgddgipjpdjoaaaGreatDoor
open Go.RowKit Go.Shelf
def SB17 (w : World) (sb x t : Nat) (app : Int) : Prop := w.heap[sb]? = some (.cells #[.pointer (some ⟨x, 0, none⟩), .pointer (some ⟨t, 0, none⟩), .int .i64 app] 138 (0, 0))
structure IsSt (w : World) (sb x t : Nat) (st : Stat) (ft fx fq : Nat → Prop) : Prop where
 box : SB17 w sb x t st.app
 ix : IsX w x st.f st.n fx
 tb : IsT w t st.S st.m fq
 own : ft sb ∧ ¬ fx sb ∧ ¬ fq sb
 sx : ∀ j, fx j → ft j ∧ ¬ fq j
 st : ∀ j, fq j → ft j
 lt : ∀ j, ft j → j < w.heap.size
def IsS (w : World) (sb : Nat) (st : Stat) (ft : Nat → Prop) : Prop := ∃ x t fx fq, IsSt w sb x t st ft fx fq
theorem IsS.lt {w : World} {sb : Nat} {st : Stat} {ft : Nat → Prop} (h : IsS w sb st ft) : ∀ j, ft j → j < w.heap.size := by
 obtain ⟨x, t, fx, fq, h⟩ := h; exact h.lt
theorem IsSt.kept {w w' : World} {sb x t : Nat} {st : Stat} {ft fx fq : Nat → Prop} (h : IsSt w sb x t st ft fx fq) (hk : ∀ j, j < w.heap.size → ft j → w'.heap[j]? = w.heap[j]?) (hs : w.heap.size ≤ w'.heap.size) : IsSt w' sb x t st ft fx fq :=
 ⟨(hk sb (Array.getElem?_eq_some_iff.1 h.box).1 h.own.1).trans h.box, h.ix.kept fun j hj hf => hk j hj (h.sx j hf).1, h.tb.kept fun j hj hf => hk j hj (h.st j hf), h.own, h.sx, h.st, fun j hj => Nat.lt_of_lt_of_le (h.lt j hj) hs⟩
theorem IsS.other {w w' : World} {sb : Nat} {st : Stat} {ft f2 : Nat → Prop} (h : IsS w sb st ft) (ht : Turn f2 w w') (hd : ∀ j, ft j → ¬ f2 j) : IsS w' sb st ft := by
 obtain ⟨x, t, fx, fq, h⟩ := h
 exact ⟨x, t, fx, fq, h.kept (fun j hj hf => ht.block j hj (hd j hf)) ht.size⟩
theorem IsS.next {w w' : World} {sb : Nat} {st : Stat} {ft : Nat → Prop} (h : IsS w sb st ft) (hb : Below w.heap.size w w') : IsS w' sb st ft :=
 h.other (f2 := fun _ => False) (Turn.of_below hb) (fun _ _ h => h)
theorem IsS.app {w : World} {sb : Nat} {st : Stat} {ft : Nat → Prop} (h : IsS w sb st ft) : w.cell? ⟨sb, 2, none⟩ = some (.int .i64 st.app) := by
 obtain ⟨x, t, fx, fq, h⟩ := h
 rw [Lib.cell_of_heap h.box]; rfl
def RB17 (w : World) (r d lg sb : Nat) : Prop := w.heap[r]? = some (.cells #[.pointer (some ⟨d, 0, none⟩), .pointer (some ⟨lg, 0, none⟩), .pointer (some ⟨sb, 0, none⟩)] 93 (0, 0))
theorem RB17.cells {w : World} {r d lg sb : Nat} (h : RB17 w r d lg sb) : w.cell? ⟨r, 0, none⟩ = some (.pointer (some ⟨d, 0, none⟩)) ∧ w.cell? ⟨r, 1, none⟩ = some (.pointer (some ⟨lg, 0, none⟩)) ∧ w.cell? ⟨r, 2, none⟩ = some (.pointer (some ⟨sb, 0, none⟩)) := by
 refine ⟨?_, ?_, ?_⟩ <;> (rw [Lib.cell_of_heap h]; rfl)
theorem RB17.turn {w w' : World} {r d lg sb : Nat} {f : Nat → Prop} (h : RB17 w r d lg sb) (hf : ¬ f r) (ht : Turn f w w') : RB17 w' r d lg sb := (ht.block r (Array.getElem?_eq_some_iff.1 h).1 hf).trans h
theorem RB17.next {w w' : World} {r d lg sb : Nat} (h : RB17 w r d lg sb) (hb : Below w.heap.size w w') : RB17 w' r d lg sb := h.turn (f := fun _ => False) (fun h => h) (Turn.of_below hb)
structure Repl (a : World) (r lg d sb : Nat) (room : Int) (s : Lg.S) (fs : List Dk.File) (st : Stat) (TL TS : Nat → Prop) (J : List (Nat × Obj)) (X : Nat → Prop) (w : World) : Prop where
 log : LAt a lg d room s fs TL X w
 sta : IsS w sb st TS
 box : RB17 w r d lg sb
 dis : ∀ j, TL j → ¬ TS j
 subX : ∀ j, TS j → X j
 nr : ¬ X r
 out : ∀ j, X j → a.heap.size ≤ j
 ok : st.Ok
 ju : ∀ p ∈ J, w.heap[p.1]? = some p.2 ∧ X p.1 ∧ ¬ TL p.1 ∧ ¬ TS p.1
def JB (J : List (Nat × Obj)) (j : Nat) : Prop := ∃ p ∈ J, p.1 = j
def Stable2 (a : World) (R : (Nat → Prop) → (Nat → Prop) → World → Prop) : Prop :=
 ∀ (T T' X X' : Nat → Prop) (w w' : World), R T X w → Turn T w w' → (∀ j, T j → X j) → (∀ j, T' j → T j ∨ w.heap.size ≤ j) → (∀ j, X' j → X j ∨ w.heap.size ≤ j) → (∀ j, X j → X' j) → (∀ j, X' j → j < w'.heap.size) → Below a.heap.size a w' → R T' X' w'
def RR (R : (Nat → Prop) → (Nat → Prop) → World → Prop) (J : List (Nat × Obj)) (a : World) (r lg d sb : Nat) (room : Int) (s : Lg.S) (fs : List Dk.File) (st : Stat) (w : World) : Prop :=
 ∃ TL TS X, Repl a r lg d sb room s fs st TL TS J X w ∧ R (fun j => TL j ∨ TS j ∨ JB J j) X w
theorem LAt.besideT {a w w' : World} {lg d : Nat} {room : Int} {s : Lg.S} {fs : List Dk.File} {T1 T2 X X' : Nat → Prop} (h : LAt a lg d room s fs T2 X w) (ht : Turn T1 w w') (hT : ∀ j, T1 j → X j) (hd : ∀ j, T2 j → ¬ T1 j) (hX : ∀ j, X' j → X j ∨ w.heap.size ≤ j) (hlt : ∀ j, X' j → j < w'.heap.size) (hs : ∀ j, X j → X' j) (hb : Below a.heap.size a w') :
   LAt a lg d room s fs T2 X' w' := by
 obtain ⟨ft, pv, ev, ps, h⟩ := h
 have h' := h.other ht ⟨h.base.env, hb, h.base.out⟩ hd hT
 exact ⟨ft, pv, ev, ps, h'.disk, h'.base, hlt, h'.sub, fun j hj => hs j (h'.subX j hj), h'.log, h'.parts, h'.ents, h'.plain, fun p hp => ⟨(h'.evs p hp).1, (h'.evs p hp).2.1, (h.evs p hp).2.2.step (h.evs p hp).1 hX⟩, h'.tl, h'.tp, h'.te, h'.ne⟩
section
variable {R : (Nat → Prop) → (Nat → Prop) → World → Prop} {a w w' : World} {r lg d sb : Nat} {room : Int} {s s' : Lg.S} {fs fs' : List Dk.File} {st st' : Stat} {TL TS X : Nat → Prop} {J : List (Nat × Obj)}
theorem Repl.TX (h : Repl a r lg d sb room s fs st TL TS J X w) : ∀ j, (TL j ∨ TS j ∨ JB J j) → X j := fun j hj => by
 rcases hj with hj | hj | ⟨p, hp, rfl⟩
 · exact h.log.subX j hj
 · exact h.subX j hj
 · exact (h.ju p hp).2.1
theorem Repl.go {TL' TS' X' T : Nat → Prop} {J' : List (Nat × Obj)} (h : Repl a r lg d sb room s fs st TL TS J X w) (hR : Stable2 a R) (hw : R (fun j => TL j ∨ TS j ∨ JB J j) X w) (hT : Turn T w w') (hTT : ∀ j, T j → TL j ∨ TS j ∨ JB J j)
   (q1 : LAt a lg d room s' fs' TL' X' w') (q2 : IsS w' sb st' TS') (nL : ∀ j, TL' j → TL j ∨ w.heap.size ≤ j) (nS : ∀ j, TS' j → TS j ∨ w.heap.size ≤ j) (nLS : ∀ j, TL' j → ¬ TS' j) (sS : ∀ j, TS' j → X' j)
   (nX : ∀ j, X' j → X j ∨ w.heap.size ≤ j) (sX : ∀ j, X j → X' j) (hok : st'.Ok) (hJ : ∀ j, JB J' j → JB J j) (hJw : ∀ p ∈ J', w'.heap[p.1]? = some p.2) : RR R J' a r lg d sb room s' fs' st' w' := by
 have hr := (Array.getElem?_eq_some_iff.1 h.box).1
 have hbl := h.log.below.size
 refine ⟨TL', TS', X', ⟨q1, q2, h.box.turn (fun e => h.nr (h.TX r (hTT r e))) hT, nLS, sS, fun e => ?_, fun j hj => ?_, hok, fun p hp => ?_⟩, ?_⟩
 · rcases nX r e with e | e
   · exact h.nr e
   · omega
 · rcases nX j hj with e | e
   · exact h.out j e
   · omega
 · obtain ⟨p0, hp0, e0⟩ := hJ p.1 ⟨p, hp, rfl⟩
   obtain ⟨g1, g2, g3, g4⟩ := h.ju p0 hp0
   rw [e0] at g1 g2 g3 g4
   have hlt := (Array.getElem?_eq_some_iff.1 g1).1
   refine ⟨hJw p hp, sX _ g2, fun e => ?_, fun e => ?_⟩
   · rcases nL _ e with e | e
     · exact g3 e
     · omega
   · rcases nS _ e with e | e
     · exact g4 e
     · omega
 · exact hR _ _ X X' w w' hw (hT.wide hTT) h.TX (fun j hj => by
     rcases hj with hj | hj | hj
     · rcases nL j hj with e | e
       · exact .inl (.inl e)
       · exact .inr e
     · rcases nS j hj with e | e
       · exact .inl (.inr (.inl e))
       · exact .inr e
     · exact .inl (.inr (.inr (hJ j hj)))) nX sX q1.lt q1.below
theorem Repl.juT {T : Nat → Prop} (h : Repl a r lg d sb room s fs st TL TS J X w) (hT : Turn T w w') (hd : ∀ j, T j → TL j ∨ TS j) : ∀ p ∈ J, w'.heap[p.1]? = some p.2 := fun p hp => by
 obtain ⟨g1, g2, g3, g4⟩ := h.ju p hp
 exact (hT.block p.1 (Array.getElem?_eq_some_iff.1 g1).1 (fun e => (hd _ e).elim g3 g4)).trans g1
theorem Repl.logged (h : Repl a r lg d sb room s fs st TL TS J X w) (hR : Stable2 a R) (hw : R (fun j => TL j ∨ TS j ∨ JB J j) X w) (hs : LStep a lg d room s' fs' TL X w w') : RR R J a r lg d sb room s' fs' st w' := by
 obtain ⟨T', q1, q2, q3, q4⟩ := hs
 refine h.go hR hw q4 (fun j hj => .inl hj) q1 (h.sta.other q4 (fun j h1 h2 => h.dis j h2 h1)) q3 (fun j hj => .inl hj) (fun j h1 h2 => ?_) (fun j hj => .inl (h.subX j hj)) (fun j hj => ?_) (fun j hj => .inl hj) h.ok (fun j hj => hj) (h.juT q4 (fun j hj => .inl hj))
 · rcases q3 j h1 with e | e
   · exact h.dis j e h2
   · have := h.sta.lt j h2; omega
 · rcases hj with hj | hj
   · exact .inl hj
   · rcases q3 j hj with e | e
     · exact .inl (h.log.subX j e)
     · exact .inr e
theorem Repl.stated {TS' : Nat → Prop} (h : Repl a r lg d sb room s fs st TL TS J X w) (hR : Stable2 a R) (hw : R (fun j => TL j ∨ TS j ∨ JB J j) X w) (q1 : IsS w' sb st' TS') (q3 : ∀ j, TS' j → TS j ∨ w.heap.size ≤ j) (q4 : Turn TS w w') (hok : st'.Ok) : RR R J a r lg d sb room s fs st' w' := by
 have hX : ∀ j, (X j ∨ TS' j) → X j ∨ w.heap.size ≤ j := fun j hj => by
   rcases hj with hj | hj
   · exact .inl hj
   · rcases q3 j hj with e | e
     · exact .inl (h.subX j e)
     · exact .inr e
 have hb : Below a.heap.size a w' := h.log.below.trans (q4.below (fun j hj => h.out j (h.subX j hj)) h.log.below.size)
 have hlt : ∀ j, (X j ∨ TS' j) → j < w'.heap.size := fun j hj => by
   rcases hj with hj | hj
   · exact Nat.lt_of_lt_of_le (h.log.lt j hj) q4.size
   · exact q1.lt j hj
 refine h.go hR hw q4 (fun j hj => .inr (.inl hj)) (h.log.besideT q4 h.subX h.dis hX hlt (fun j hj => .inl hj) hb) q1 (fun j hj => .inl hj) q3 (fun j h1 h2 => ?_) (fun j hj => .inr hj) hX (fun j hj => .inl hj) hok (fun j hj => hj) (h.juT q4 (fun j hj => .inr hj))
 rcases q3 j h2 with e | e
 · exact h.dis j h1 e
 · have := h.log.lt j (h.log.subX j h1); omega
theorem RR.next (h : RR R J a r lg d sb room s fs st w) (hR : Stable2 a R) (hb : Below w.heap.size w w') : RR R J a r lg d sb room s fs st w' := by
 obtain ⟨TL, TS, X, h, hw⟩ := h
 exact h.go hR hw (T := fun _ => False) (Turn.of_below hb) (fun _ hj => hj.elim) (h.log.next hb) (h.sta.next hb) (fun j hj => .inl hj) (fun j hj => .inl hj) h.dis h.subX (fun j hj => .inl hj) (fun j hj => hj) h.ok (fun j hj => hj) (h.juT (T := fun _ => False) (Turn.of_below hb) (fun _ hj => hj.elim))
theorem RR.turnJ {J' : List (Nat × Obj)} (h : RR R J a r lg d sb room s fs st w) (hR : Stable2 a R) (ht : Turn (JB J) w w') (hJ : ∀ j, JB J' j → JB J j) (hJw : ∀ p ∈ J', w'.heap[p.1]? = some p.2) : RR R J' a r lg d sb room s fs st w' := by
 obtain ⟨TL, TS, X, h, hw⟩ := h
 have hJX : ∀ j, JB J j → X j := fun j hj => h.TX j (.inr (.inr hj))
 have hb : Below a.heap.size a w' := h.log.below.trans (ht.below (fun j hj => h.out j (hJX j hj)) h.log.below.size)
 exact h.go hR hw ht (fun j hj => .inr (.inr hj)) (h.log.besideT ht hJX (fun j h1 ⟨p, hp, e⟩ => (h.ju p hp).2.2.1 (e ▸ h1)) (fun j hj => .inl hj) (fun j hj => Nat.lt_of_lt_of_le (h.log.lt j hj) ht.size) (fun j hj => hj) hb) (h.sta.other ht (fun j h1 ⟨p, hp, e⟩ => (h.ju p hp).2.2.2 (e ▸ h1))) (fun j hj => .inl hj) (fun j hj => .inl hj) h.dis h.subX (fun j hj => .inl hj) (fun j hj => hj) h.ok hJ hJw
theorem RR.enter {R' : (Nat → Prop) → (Nat → Prop) → World → Prop} {J2 : List (Nat × Obj)} (h : RR R J a r lg d sb room s fs st w) (hR : Stable2 a R) (hb : Below w.heap.size w w') (hJ : ∀ p ∈ J2, w.heap.size ≤ p.1 ∧ w'.heap[p.1]? = some p.2)
   (hRR : ∀ T X', (∀ j, X' j → a.heap.size ≤ j ∧ (j < w.heap.size ∨ JB J2 j)) → R T X' w' → R' T X' w') : RR R' (J ++ J2) a r lg d sb room s fs st w' := by
 obtain ⟨TL, TS, X, h, hw⟩ := h
 have hJlt : ∀ j, JB J2 j → w.heap.size ≤ j ∧ j < w'.heap.size := fun j ⟨p, hp, e⟩ => by
   subst e
   exact ⟨(hJ p hp).1, (Array.getElem?_eq_some_iff.1 (hJ p hp).2).1⟩
 have hX : ∀ j, (X j ∨ JB J2 j) → X j ∨ w.heap.size ≤ j := fun j hj => hj.imp id (fun e => (hJlt j e).1)
 have hlt : ∀ j, (X j ∨ JB J2 j) → j < w'.heap.size := fun j hj => by
   rcases hj with hj | hj
   · exact Nat.lt_of_lt_of_le (h.log.lt j hj) hb.size
   · exact (hJlt j hj).2
 have hbb : Below a.heap.size a w' := Below.up h.log.below (Nat.le_refl _) hb
 have hr := (Array.getElem?_eq_some_iff.1 h.box).1
 have hbl := h.log.below.size
 have hout : ∀ j, (X j ∨ JB J2 j) → a.heap.size ≤ j := fun j hj => by
   rcases hj with e | e
   · exact h.out j e
   · have := hJlt j e; omega
 refine ⟨TL, TS, fun j => X j ∨ JB J2 j, ⟨h.log.besideT (T1 := fun _ => False) (Turn.of_below hb) (fun _ hj => hj.elim) (fun _ _ hj => hj) hX hlt (fun j hj => .inl hj) hbb, h.sta.next hb, h.box.next hb, h.dis, fun j hj => .inl (h.subX j hj), fun e => ?_, hout, h.ok, fun p hp => ?_⟩,
   hRR _ _ (fun j hj => ⟨hout j hj, hj.imp (fun e => h.log.lt j e) id⟩) (hR _ _ X _ w w' hw (Turn.of_below hb) h.TX (fun j hj => ?_) hX (fun j hj => .inl hj) hlt hbb)⟩
 · rcases e with e | e
   · exact h.nr e
   · have := hJlt r e; omega
 · rcases List.mem_append.1 hp with hp | hp
   · obtain ⟨g1, g2, g3, g4⟩ := h.ju p hp
     exact ⟨(hb.block p.1 (Array.getElem?_eq_some_iff.1 g1).1).trans g1, .inl g2, g3, g4⟩
   · obtain ⟨g1, g2⟩ := hJ p hp
     exact ⟨g2, .inr ⟨p, hp, rfl⟩, fun x => by have := h.log.lt _ (h.log.subX _ x); omega, fun x => by have := h.sta.lt _ x; omega⟩
 · rcases hj with e | e | ⟨p, hp, e⟩
   · exact .inl (.inl e)
   · exact .inl (.inr (.inl e))
   · rcases List.mem_append.1 hp with hp | hp
     · exact .inl (.inr (.inr ⟨p, hp, e⟩))
     · exact .inr (e ▸ (hJ p hp).1)
theorem RR.turnE {R' : (Nat → Prop) → (Nat → Prop) → World → Prop} {J' : List (Nat × Obj)} (h : RR R J a r lg d sb room s fs st w) (hR : Stable2 a R) (ht : Turn (JB J) w w') (hJ : ∀ p ∈ J', (JB J p.1 ∨ w.heap.size ≤ p.1) ∧ w'.heap[p.1]? = some p.2)
   (hRR : ∀ T X', (∀ j, X' j → a.heap.size ≤ j ∧ (j < w.heap.size ∨ JB J' j)) → R T X' w' → R' T X' w') : RR R' J' a r lg d sb room s fs st w' := by
 obtain ⟨TL, TS, X, h, hw⟩ := h
 have hJX : ∀ j, JB J j → X j := fun j hj => h.TX j (.inr (.inr hj))
 have hJn : ∀ j, JB J' j → (JB J j ∨ w.heap.size ≤ j) ∧ j < w'.heap.size := fun j ⟨p, hp, e⟩ => by
   subst e
   exact ⟨(hJ p hp).1, (Array.getElem?_eq_some_iff.1 (hJ p hp).2).1⟩
 have hX : ∀ j, (X j ∨ JB J' j) → X j ∨ w.heap.size ≤ j := fun j hj => by
   rcases hj with hj | hj
   · exact .inl hj
   · rcases (hJn j hj).1 with e | e
     · exact .inl (hJX j e)
     · exact .inr e
 have hlt : ∀ j, (X j ∨ JB J' j) → j < w'.heap.size := fun j hj => by
   rcases hj with hj | hj
   · exact Nat.lt_of_lt_of_le (h.log.lt j hj) ht.size
   · exact (hJn j hj).2
 have hbl := h.log.below.size
 have hout : ∀ j, (X j ∨ JB J' j) → a.heap.size ≤ j := fun j hj => by
   rcases hX j hj with e | e
   · exact h.out j e
   · omega
 have hbb : Below a.heap.size a w' := h.log.below.trans (ht.below (fun j hj => h.out j (hJX j hj)) h.log.below.size)
 have hr := (Array.getElem?_eq_some_iff.1 h.box).1
 refine ⟨TL, TS, fun j => X j ∨ JB J' j, ⟨h.log.besideT ht hJX (fun j h1 ⟨p, hp, e⟩ => (h.ju p hp).2.2.1 (e ▸ h1)) hX hlt (fun j hj => .inl hj) hbb, h.sta.other ht (fun j h1 ⟨p, hp, e⟩ => (h.ju p hp).2.2.2 (e ▸ h1)), h.box.turn (fun e => h.nr (hJX r e)) ht, h.dis, fun j hj => .inl (h.subX j hj), fun e => ?_, hout, h.ok, fun p hp => ?_⟩,
   hRR _ _ (fun j hj => ⟨hout j hj, ?_⟩) (hR _ _ X _ w w' hw (ht.wide fun j hj => .inr (.inr hj)) h.TX (fun j hj => ?_) hX (fun j hj => .inl hj) hlt hbb)⟩
 · rcases hX r e with e | e
   · exact h.nr e
   · omega
 · obtain ⟨g1, g2⟩ := hJ p hp
   refine ⟨g2, .inr ⟨p, hp, rfl⟩, fun x => ?_, fun x => ?_⟩
   · rcases g1 with ⟨q, hq, e⟩ | e
     · exact (h.ju q hq).2.2.1 (by rw [e]; exact x)
     · have := h.log.lt _ (h.log.subX _ x); omega
   · rcases g1 with ⟨q, hq, e⟩ | e
     · exact (h.ju q hq).2.2.2 (by rw [e]; exact x)
     · have := h.sta.lt _ x; omega
 · rcases hj with e | e
   · exact .inl (h.log.lt j e)
   · exact .inr e
 · rcases hj with e | e | e
   · exact .inl (.inl e)
   · exact .inl (.inr (.inl e))
   · rcases (hJn j e).1 with e | e
     · exact .inl (.inr (.inr e))
     · exact .inr e
theorem Repl.next (h : Repl a r lg d sb room s fs st TL TS J X w) (hb : Below w.heap.size w w') : Repl a r lg d sb room s fs st TL TS J X w' :=
 ⟨h.log.next hb, h.sta.next hb, h.box.next hb, h.dis, h.subX, h.nr, h.out, h.ok, fun p hp => ⟨(hb.block p.1 (Array.getElem?_eq_some_iff.1 (h.ju p hp).1).1).trans (h.ju p hp).1, (h.ju p hp).2⟩⟩
theorem RR.junk (h : RR R J a r lg d sb room s fs st w) : ∀ p ∈ J, w.heap[p.1]? = some p.2 := by
 obtain ⟨TL, TS, X, h, hw⟩ := h
 exact fun p hp => (h.ju p hp).1
theorem RR.env (h : RR R J a r lg d sb room s fs st w) : Env w := by obtain ⟨TL, TS, X, h, _⟩ := h; exact h.log.env
theorem RR.below (h : RR R J a r lg d sb room s fs st w) : Below a.heap.size a w := by obtain ⟨TL, TS, X, h, _⟩ := h; exact h.log.below
theorem RR.box (h : RR R J a r lg d sb room s fs st w) : RB17 w r d lg sb := by obtain ⟨TL, TS, X, h, _⟩ := h; exact h.box
theorem RR.sta (h : RR R J a r lg d sb room s fs st w) : ∃ ft, IsS w sb st ft := by obtain ⟨TL, TS, X, h, _⟩ := h; exact ⟨TS, h.sta⟩
theorem RR.ok (h : RR R J a r lg d sb room s fs st w) : st.Ok := by obtain ⟨TL, TS, X, h, _⟩ := h; exact h.ok
theorem RR.appC (h : RR R J a r lg d sb room s fs st w) : w.cell? ⟨sb, 2, none⟩ = some (.int .i64 st.app) := by obtain ⟨ft, h⟩ := h.sta; exact h.app
theorem RR.mono {R' : (Nat → Prop) → (Nat → Prop) → World → Prop} (h : RR R J a r lg d sb room s fs st w) (hm : ∀ T X, (∀ j, X j → a.heap.size ≤ j ∧ j < w.heap.size) → R T X w → R' T X w) : RR R' J a r lg d sb room s fs st w := by
 obtain ⟨TL, TS, X, h, hw⟩ := h
 exact ⟨TL, TS, X, h, hm _ X (fun j hj => ⟨h.out j hj, h.log.lt j hj⟩) hw⟩
end
def WithRow (R : (Nat → Prop) → (Nat → Prop) → World → Prop) (lv : Value) (qs : List EnX) : (Nat → Prop) → (Nat → Prop) → World → Prop := fun T X w => R T X w ∧ Apart X w lv qs
theorem stable2_row {a : World} {R : (Nat → Prop) → (Nat → Prop) → World → Prop} (hR : Stable2 a R) (lv : Value) (qs : List EnX) : Stable2 a (WithRow R lv qs) :=
 fun T T' X X' w w' h ht h1 h2 h3 h4 h5 h6 => ⟨hR T T' X X' w w' h.1 ht h1 h2 h3 h4 h5 h6, h.2.step (ht.wide h1) h3⟩
def EB17 (w : World) (b : Nat) (p ep : Int) (S : ByteArray) (ex se sq : Int) (v : Value) : Prop := w.heap[b]? = some (.cells #[.int .i64 p, .int .i64 ep, .string S, .int .i64 ex, .int .i64 se, .int .i64 sq, v] 40 (0, 0))
def BB17 (w : World) (b : Nat) (S : ByteArray) (ex se sq : Int) (v : Value) : Prop := w.heap[b]? = some (.cells #[.string S, .int .i64 ex, .int .i64 se, .int .i64 sq, v] 38 (0, 0))
theorem BB17.cells {w : World} {b : Nat} {S : ByteArray} {ex se sq : Int} {v : Value} (h : BB17 w b S ex se sq v) : w.cell? ⟨b, 0, none⟩ = some (.string S) ∧ w.cell? ⟨b, 1, none⟩ = some (.int .i64 ex) ∧ w.cell? ⟨b, 2, none⟩ = some (.int .i64 se) ∧ w.cell? ⟨b, 3, none⟩ = some (.int .i64 sq) ∧ w.cell? ⟨b, 4, none⟩ = some v := by
 refine ⟨?_, ?_, ?_, ?_, ?_⟩ <;> (rw [Lib.cell_of_heap h]; rfl)
theorem EB17.cells {w : World} {b : Nat} {p ep : Int} {S : ByteArray} {ex se sq : Int} {v : Value} (h : EB17 w b p ep S ex se sq v) : w.cell? ⟨b, 0, none⟩ = some (.int .i64 p) ∧ w.cell? ⟨b, 1, none⟩ = some (.int .i64 ep) ∧ w.cell? ⟨b, 2, none⟩ = some (.string S) ∧ w.cell? ⟨b, 3, none⟩ = some (.int .i64 ex) ∧ w.cell? ⟨b, 4, none⟩ = some (.int .i64 se) ∧ w.cell? ⟨b, 5, none⟩ = some (.int .i64 sq) ∧ w.cell? ⟨b, 6, none⟩ = some v := by
 refine ⟨?_, ?_, ?_, ?_, ?_, ?_, ?_⟩ <;> (rw [Lib.cell_of_heap h]; rfl)
theorem EB17.frozen {w : World} {b : Nat} {p ep : Int} {S : ByteArray} {ex se sq : Int} {v : Value} (h : EB17 w b p ep S ex se sq v) : ∀ i, w.frozen? ⟨b, i, none⟩ = false := fun i => Lib.frozen_of_heap h i
theorem EB17.next {w w' : World} {b : Nat} {p ep : Int} {S : ByteArray} {ex se sq : Int} {v : Value} (h : EB17 w b p ep S ex se sq v) (hb : Below w.heap.size w w') : EB17 w' b p ep S ex se sq v := (hb.block b (Array.getElem?_eq_some_iff.1 h).1).trans h
theorem BB17.next {w w' : World} {b : Nat} {S : ByteArray} {ex se sq : Int} {v : Value} (h : BB17 w b S ex se sq v) (hb : Below w.heap.size w w') : BB17 w' b S ex se sq v := (hb.block b (Array.getElem?_eq_some_iff.1 h).1).trans h
def zeroEn : Value := .agg #[.int .i64 0, .int .i64 0, .string ⟨#[]⟩, .int .i64 0, .int .i64 0, .int .i64 0, .slice none 0 0]
theorem entry_size17 : (Tryz.prog.info? 40).map (·.size) = some 7 := by kernel_rfl
set_option maxHeartbeats 2000000 in
theorem entry_store {b : Nat} {u0 u1 u2 u3 u4 u5 u6 : Value} {w : World} (h : w.heap[b]? = some (.cells #[u0, u1, u2, u3, u4, u5, u6] 40 (0, 0))) (v0 v1 v2 v3 v4 v5 v6 : Value) :
   (((((((w.setCell ⟨b, 0, none⟩ v0).setCell ⟨b, 1, none⟩ v1).setCell ⟨b, 2, none⟩ v2).setCell ⟨b, 3, none⟩ v3).setCell ⟨b, 4, none⟩ v4).setCell ⟨b, 5, none⟩ v5).setCell ⟨b, 6, none⟩ v6).heap[b]? = some (.cells #[v0, v1, v2, v3, v4, v5, v6] 40 (0, 0)) := by
 have h0 : (w.setCell ⟨b, 0, none⟩ v0).heap[b]? = some (.cells #[v0, u1, u2, u3, u4, u5, u6] 40 (0, 0)) := setCell_at (i := 0) h _
 have h1 := setCell_at (i := 1) h0 v1
 have h1 : _ = some (Obj.cells #[v0, v1, u2, u3, u4, u5, u6] 40 (0, 0)) := h1
 have h2 := setCell_at (i := 2) h1 v2
 have h2 : _ = some (Obj.cells #[v0, v1, v2, u3, u4, u5, u6] 40 (0, 0)) := h2
 have h3 := setCell_at (i := 3) h2 v3
 have h3 : _ = some (Obj.cells #[v0, v1, v2, v3, u4, u5, u6] 40 (0, 0)) := h3
 have h4 := setCell_at (i := 4) h3 v4
 have h4 : _ = some (Obj.cells #[v0, v1, v2, v3, v4, u5, u6] 40 (0, 0)) := h4
 have h5 := setCell_at (i := 5) h4 v5
 have h5 : _ = some (Obj.cells #[v0, v1, v2, v3, v4, v5, u6] 40 (0, 0)) := h5
 exact setCell_at (i := 6) h5 v6
theorem below_set {b : Nat} {B : Nat} {w W : World} (h : Below B w W) (hb : B ≤ b) (hs : B ≤ w.heap.size) (i : Nat) (v : Value) : Below B w (W.setCell ⟨b, i, none⟩ v) :=
 grown_below h (by have := h.size; omega) hb (grown_set W b i v)
set_option maxHeartbeats 2000000 in
theorem grown_set7 (w : World) (b : Nat) (v0 v1 v2 v3 v4 v5 v6 : Value) : w.grownBy (((((((w.setCell ⟨b, 0, none⟩ v0).setCell ⟨b, 1, none⟩ v1).setCell ⟨b, 2, none⟩ v2).setCell ⟨b, 3, none⟩ v3).setCell ⟨b, 4, none⟩ v4).setCell ⟨b, 5, none⟩ v5).setCell ⟨b, 6, none⟩ v6) (some b) :=
 grown_trans (grown_trans (grown_trans (grown_trans (grown_trans (grown_trans (grown_set w b 0 v0) (grown_set _ b 1 v1)) (grown_set _ b 2 v2)) (grown_set _ b 3 v3)) (grown_set _ b 4 v4)) (grown_set _ b 5 v5)) (grown_set _ b 6 v6)
theorem below_set7 {b B : Nat} {w W : World} (h : Below B w W) (hb : B ≤ b) (hs : B ≤ w.heap.size) (v0 v1 v2 v3 v4 v5 v6 : Value) :
   Below B w (((((((W.setCell ⟨b, 0, none⟩ v0).setCell ⟨b, 1, none⟩ v1).setCell ⟨b, 2, none⟩ v2).setCell ⟨b, 3, none⟩ v3).setCell ⟨b, 4, none⟩ v4).setCell ⟨b, 5, none⟩ v5).setCell ⟨b, 6, none⟩ v6) :=
 below_set (below_set (below_set (below_set (below_set (below_set (below_set h hb hs 0 v0) hb hs 1 v1) hb hs 2 v2) hb hs 3 v3) hb hs 4 v4) hb hs 5 v5) hb hs 6 v6
def enO (p ep : Int) (S : ByteArray) (ex se sq : Int) (v : Value) : Obj := .cells #[.int .i64 p, .int .i64 ep, .string S, .int .i64 ex, .int .i64 se, .int .i64 sq, v] 40 (0, 0)
end Go.Proofs.YtgddgipjpdjoaaaGreatDoor
