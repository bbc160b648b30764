/-
  Two logs side by side, on two disks: T1, T2 what they turn, X whatever either may turn.
-/
import Derived.Test.YtbknlffebcbjfaaGreatDoorLogH
import Derived.Test.YtbknlffebcbjfaaGreatDoorLogY
namespace Go.Proofs.YtbknlffebcbjfaaGreatDoor
open Go.RowKit Go.Shelf

theorem LAt.beside {a w w' : World} {lg d : Nat} {room : Int} {s : Lg.S} {fs : List Dk.File} {T1 T2 X X' : Nat → Prop} (h : LAt a lg d room s fs T2 X w) (ht : Turn T1 w w') (hT : ∀ j, T1 j → X j) (hd : ∀ j, T2 j → ¬ T1 j) (hX : ∀ j, X' j → X j ∨ w.heap.size ≤ j) (hlt : ∀ j, X' j → j < w'.heap.size) (hs : ∀ j, X j → X' j) (hb : Below a.heap.size a w') :
    LAt a lg d room s fs T2 X' w' := by
  obtain ⟨ft, pv, ev, ps, h⟩ := h
  have h' := h.other ht ⟨h.base.env, hb, h.base.out⟩ hd hT
  exact ⟨ft, pv, ev, ps, h'.disk, h'.base, hlt, h'.sub, fun j hj => hs j (h'.subX j hj), h'.log, h'.parts, h'.ents, h'.plain, fun p hp => ⟨(h'.evs p hp).1, (h'.evs p hp).2.1, (h.evs p hp).2.2.step (h.evs p hp).1 hX⟩, h'.tl, h'.tp, h'.te, h'.ne⟩
/-- A row of the caller's, that may turn as well: never with a log. -/
structure Row3 (a : World) (lv : Value) (qs : List EnX) (T1 T2 X : Nat → Prop) (w : World) : Prop where
  own : w.ownsRow a.heap.size 58 7 lv qs.length (enCells qs)
  out : ∀ b, lv.ownBlock = some b → X b ∧ ¬ T1 b ∧ ¬ T2 b
  evs : ∀ p ∈ qs, Evs w p.2 p.1.b.events ∧ Fine p.1 ∧ OutE X p
theorem Row3.swap {a w : World} {lv : Value} {qs : List EnX} {T1 T2 X : Nat → Prop} (h : Row3 a lv qs T1 T2 X w) : Row3 a lv qs T2 T1 X w := ⟨h.own, fun b hb => ⟨(h.out b hb).1, (h.out b hb).2.2, (h.out b hb).2.1⟩, h.evs⟩
theorem own_block {w : World} {base sz n : Nat} {e : TypeId} {v : Value} {xs : List Value} (h : w.ownsRow base e sz v n xs) {b : Nat} (hb : v.ownBlock = some b) : b < w.heap.size := by
  rcases h.2 with ⟨rfl, _⟩ | ⟨g, cap, cur, rfl, hg, hw, hr⟩
  · cases hb
  · cases hb; exact (Array.getElem?_eq_some_iff.1 hw).1
theorem Row3.go {a w w' : World} {lv : Value} {qs : List EnX} {Tt T1 T1' T2 X X' : Nat → Prop} (h : Row3 a lv qs T1 T2 X w) (ht : Turn Tt w w') (hTt : ∀ j, Tt j → T1 j) (hT : ∀ j, T1 j → X j) (hn : ∀ j, T1' j → T1 j ∨ w.heap.size ≤ j) (hX : ∀ j, X' j → X j ∨ w.heap.size ≤ j) (hs : ∀ j, X j → X' j) : Row3 a lv qs T1' T2 X' w' :=
  ⟨owns_turn h.own (fun b hb e => (h.out b hb).2.1 (hTt b e)) ht, fun b hb => ⟨hs b (h.out b hb).1, fun e => by
    rcases hn b e with e | e
    · exact (h.out b hb).2.1 e
    · have := own_block h.own hb; omega, (h.out b hb).2.2⟩,
    fun p hp => ⟨evs_turn (h.evs p hp).1 (fun b hb hne hf => (h.evs p hp).2.2 b hb hne (hT b (hTt b hf))) ht, (h.evs p hp).2.1, (h.evs p hp).2.2.step (h.evs p hp).1 hX⟩⟩
structure Log2 (lv : Value) (qs : List EnX) (a : World) (room : Int) (P1 d1 : Nat) (m1 : Value) (lg1 : Nat) (s1 : Lg.S) (fs1 : List Dk.File) (P2 d2 : Nat) (m2 : Value) (lg2 : Nat) (s2 : Lg.S) (fs2 : List Dk.File) (w : World) (T1 T2 X : Nat → Prop) : Prop where
  l1 : LAt a lg1 d1 room s1 fs1 T1 X w
  l2 : LAt a lg2 d2 room s2 fs2 T2 X w
  dis : ∀ j, T1 j → ¬ T2 j
  p1 : PB11 P1 (.pointer (some ⟨d1, 0, none⟩)) m1 w
  p2 : PB11 P2 (.pointer (some ⟨d2, 0, none⟩)) m2 w
  n1 : ¬ X P1
  n2 : ¬ X P2
  r : Row3 a lv qs T1 T2 X w
def L2 (lv : Value) (qs : List EnX) (a : World) (room : Int) (P1 d1 : Nat) (m1 : Value) (lg1 : Nat) (s1 : Lg.S) (fs1 : List Dk.File) (P2 d2 : Nat) (m2 : Value) (lg2 : Nat) (s2 : Lg.S) (fs2 : List Dk.File) (w : World) : Prop :=
  ∃ T1 T2 X, Log2 lv qs a room P1 d1 m1 lg1 s1 fs1 P2 d2 m2 lg2 s2 fs2 w T1 T2 X
section
variable {lv : Value} {qs : List EnX} {a w w0 w' : World} {room : Int} {P1 d1 lg1 P2 d2 lg2 : Nat} {m1 m2 : Value} {s1 s2 s' : Lg.S} {fs1 fs2 fs' : List Dk.File} {T1 T2 X : Nat → Prop}
theorem L2.swap (h : L2 lv qs a room P1 d1 m1 lg1 s1 fs1 P2 d2 m2 lg2 s2 fs2 w) : L2 lv qs a room P2 d2 m2 lg2 s2 fs2 P1 d1 m1 lg1 s1 fs1 w := by
  obtain ⟨T1, T2, X, h⟩ := h
  exact ⟨T2, T1, X, h.l2, h.l1, fun j h2 h1 => h.dis j h1 h2, h.p2, h.p1, h.n2, h.n1, h.r.swap⟩
theorem Log2.next (h : Log2 lv qs a room P1 d1 m1 lg1 s1 fs1 P2 d2 m2 lg2 s2 fs2 w T1 T2 X) (hb : Below w.heap.size w w') : Log2 lv qs a room P1 d1 m1 lg1 s1 fs1 P2 d2 m2 lg2 s2 fs2 w' T1 T2 X :=
  ⟨h.l1.next hb, h.l2.next hb, h.dis, h.p1.next hb, h.p2.next hb, h.n1, h.n2, h.r.go (Tt := fun _ => False) (Turn.of_below hb) (fun _ hj => hj.elim) h.l1.subX (fun _ hj => .inl hj) (fun _ hj => .inl hj) (fun _ hj => hj)⟩
theorem L2.next (h : L2 lv qs a room P1 d1 m1 lg1 s1 fs1 P2 d2 m2 lg2 s2 fs2 w) (hb : Below w.heap.size w w') : L2 lv qs a room P1 d1 m1 lg1 s1 fs1 P2 d2 m2 lg2 s2 fs2 w' := by
  obtain ⟨T1, T2, X, h⟩ := h
  exact ⟨T1, T2, X, h.next hb⟩
/-- A step of the first log. -/
theorem Log2.go {lg' : Nat} {Tt T' : Nat → Prop} (h : Log2 lv qs a room P1 d1 m1 lg1 s1 fs1 P2 d2 m2 lg2 s2 fs2 w T1 T2 X) (q1 : LAt a lg' d1 room s' fs' T' (fun j => X j ∨ T' j) w') (hTt : ∀ j, Tt j → T1 j) (q3 : ∀ j, T' j → T1 j ∨ w.heap.size ≤ j) (q4 : Turn Tt w w') :
    L2 lv qs a room P1 d1 m1 lg' s' fs' P2 d2 m2 lg2 s2 fs2 w' := by
  have hX1 : ∀ j, Tt j → X j := fun j hj => h.l1.subX j (hTt j hj)
  have hX : ∀ j, (X j ∨ T' j) → X j ∨ w.heap.size ≤ j := fun j hj => by
    rcases hj with hj | hj
    · exact .inl hj
    · rcases q3 j hj with e | e
      · exact .inl (h.l1.subX j e)
      · exact .inr e
  have hP1 := (Array.getElem?_eq_some_iff.1 h.p1).1
  have hP2 := (Array.getElem?_eq_some_iff.1 h.p2).1
  refine ⟨T', T2, _, q1, h.l2.beside q4 hX1 (fun j h2 h1 => h.dis j (hTt j h1) h2) hX q1.lt (fun j hj => .inl hj) q1.below, fun j h1 h2 => ?_, h.p1.turn (fun e => h.n1 (hX1 _ e)) q4, h.p2.turn (fun e => h.n2 (hX1 _ e)) q4, fun e => ?_, fun e => ?_, h.r.go q4 hTt h.l1.subX q3 hX (fun j hj => .inl hj)⟩
  · rcases q3 j h1 with e | e
    · exact h.dis j e h2
    · have := h.l2.lt j (h.l2.subX j h2); omega
  · rcases hX P1 e with e | e
    · exact h.n1 e
    · omega
  · rcases hX P2 e with e | e
    · exact h.n2 e
    · omega
theorem Log2.step (h : Log2 lv qs a room P1 d1 m1 lg1 s1 fs1 P2 d2 m2 lg2 s2 fs2 w T1 T2 X) (hs : LStep a lg1 d1 room s' fs' T1 X w w') : L2 lv qs a room P1 d1 m1 lg1 s' fs' P2 d2 m2 lg2 s2 fs2 w' := by
  obtain ⟨T', q1, _, q3, q4⟩ := hs
  exact h.go q1 (fun _ h => h) q3 q4
theorem L2.left (h : L2 lv qs a room P1 d1 m1 lg1 s1 fs1 P2 d2 m2 lg2 s2 fs2 w) : LL (fun _ _ => True) a P1 d1 m1 room lg1 s1 fs1 w := by
  obtain ⟨T1, T2, X, h⟩ := h
  exact ⟨T1, X, h.l1, h.p1, h.n1, trivial⟩
theorem append_l2 {xv : Value} {xs : List EnX} {c : Nat} (h : L2 lv qs a room P1 d1 m1 lg1 s1 fs1 P2 d2 m2 lg2 s2 fs2 w) (hb : Below w.heap.size w w0) (hE : Ents w0 xv xs) (g1 : ∀ b, xv.ownBlock = some b → w.heap.size ≤ b) (g2 : ∀ p ∈ xs, p ∈ qs) (hroom : room ≤ 1048576) (hB : Lg.BK xs.length s1) (hcap : CapOk xv) (hqn : xs.length ≤ 1000) (hr : Lg.appendF room (plainE xs) s1 fs1 = ((fs', s'), c)) :
    Calls Tryz.prog 23 #[.pointer (some ⟨lg1, 0, none⟩), xv] w0 fun e w' => e = .returned (.int .i64 (c : Int)) ∧ L2 lv qs a room P1 d1 m1 lg1 s' fs' P2 d2 m2 lg2 s2 fs2 w' := by
  obtain ⟨T1, T2, X, h⟩ := h
  have hlt := h.l1.lt
  have h := h.next hb
  obtain ⟨ft, pv, ev, ps, hL⟩ := h.l1
  refine (logAppend_any hL hroom hB ⟨hE, fun b hb _ hx => by have := hlt b hx; have := g1 b hb; omega, fun p hp => (h.r.evs p (g2 p hp)).2.2⟩ hcap hqn hr).mono ?_
  rintro e w' ⟨rfl, hs⟩
  exact ⟨rfl, h.step hs⟩
theorem open_l2 {next : Int} {nums : List Int} {L : List Evt.Entry} (h : L2 lv qs a room P1 d1 m1 lg1 s1 fs1 P2 d2 m2 lg2 s2 fs2 w) (hroom : room ≤ 1048576) (hH : Lg.Holds fs1 next nums L) (hL : L.length ≤ 500000) :
    Calls Tryz.prog 20 #[.pointer (some ⟨d1, 0, none⟩)] w fun e w' => ∃ lg, e = .returned (.tuple #[.pointer (some ⟨lg, 0, none⟩), .int .i64 0]) ∧ L2 lv qs a room P1 d1 m1 lg (Lg.stateOf next nums L) fs1 P2 d2 m2 lg2 s2 fs2 w' := by
  obtain ⟨T1, T2, X, h⟩ := h
  obtain ⟨ft, pv, ev, ps, hL1⟩ := h.l1
  have hf : ∀ j, ft j → X j := fun j hj => hL1.subX j (hL1.sub j hj)
  refine (logOpen_any hL1.baseD hL1.disk hL1.lt hf hroom hH.man_load (by have := (Man.right_mem hH.right).2.2.1; omega) (hH.reads room) hL hH.named).mono ?_
  rintro e w' ⟨lg, T', rfl, q1, q2, q3, q4⟩
  refine ⟨lg, rfl, h.go q1 hL1.sub (fun j hj => ?_) q3⟩
  rcases q2 j hj with e | e
  · exact .inl (hL1.sub j e)
  · exact .inr e
/-- A disk, and another one: the first is opened. -/
theorem open_first {ft1 ft2 : Nat → Prop} (hA1 : Base a w ft1) (hA2 : Base a w ft2) (h1 : IsDisk w d1 room [] ft1) (h2 : IsDisk w d2 room [] ft2) (hl1 : ∀ j, ft1 j → j < w.heap.size) (hl2 : ∀ j, ft2 j → j < w.heap.size) (hd : ∀ j, ft1 j → ¬ ft2 j) (hroom : room ≤ 1048576) :
    Calls Tryz.prog 20 #[.pointer (some ⟨d1, 0, none⟩)] w fun e w' => ∃ lg T1, e = .returned (.tuple #[.pointer (some ⟨lg, 0, none⟩), .int .i64 0]) ∧ LAt a lg d1 room (Lg.stateOf 1 [] []) [] T1 (fun j => (ft1 j ∨ ft2 j) ∨ T1 j) w' ∧ (∀ j, T1 j → ft1 j ∨ w.heap.size ≤ j) ∧ Turn ft1 w w' ∧ Base a w' ft2 ∧ IsDisk w' d2 room [] ft2 ∧ (∀ j, T1 j → ¬ ft2 j) := by
  refine (logOpen_any (X := fun j => ft1 j ∨ ft2 j) hA1 h1 (fun j hj => hj.elim (hl1 j) (hl2 j)) (fun _ h => .inl h) hroom Lg.held_nil.man_load (by simp) (Lg.held_nil.reads room) (by simp [Lg.stateOf]) Lg.held_nil.named).mono ?_
  rintro e w' ⟨lg, T', rfl, q1, q2, q3, q4⟩
  refine ⟨lg, T', rfl, q1, q2, q3, ⟨hA2.env, q1.below, hA2.out⟩, h2.other q3 (fun j h2 h1 => hd j h1 h2), fun j hj h2 => ?_⟩
  rcases q2 j hj with e | e
  · exact hd j e h2
  · have := hl2 j h2; omega
/-- A disk of a log beside: the second is opened. -/
theorem open_second {ft2 : Nat → Prop} {s1 : Lg.S} {fs1 : List Dk.File} (hL1 : LAt a lg1 d1 room s1 fs1 T1 X w) (hA2 : Base a w ft2) (h2 : IsDisk w d2 room [] ft2) (hf : ∀ j, ft2 j → X j) (hd : ∀ j, T1 j → ¬ ft2 j) (hp1 : PB11 P1 (.pointer (some ⟨d1, 0, none⟩)) m1 w) (hp2 : PB11 P2 (.pointer (some ⟨d2, 0, none⟩)) m2 w) (n1 : ¬ X P1) (n2 : ¬ X P2) (hroom : room ≤ 1048576) :
    Calls Tryz.prog 20 #[.pointer (some ⟨d2, 0, none⟩)] w fun e w' => ∃ lg2, e = .returned (.tuple #[.pointer (some ⟨lg2, 0, none⟩), .int .i64 0]) ∧ L2 (.slice none 0 0) [] a room P1 d1 m1 lg1 s1 fs1 P2 d2 m2 lg2 (Lg.stateOf 1 [] []) [] w' := by
  refine (logOpen_any hA2 h2 hL1.lt hf hroom Lg.held_nil.man_load (by simp) (Lg.held_nil.reads room) (by simp [Lg.stateOf]) Lg.held_nil.named).mono ?_
  rintro e w' ⟨lg, T', rfl, q1, q2, q3, q4⟩
  have hX : ∀ j, (X j ∨ T' j) → X j ∨ w.heap.size ≤ j := fun j hj => by
    rcases hj with hj | hj
    · exact .inl hj
    · rcases q2 j hj with e | e
      · exact .inl (hf j e)
      · exact .inr e
  have hP1 := (Array.getElem?_eq_some_iff.1 hp1).1
  have hP2 := (Array.getElem?_eq_some_iff.1 hp2).1
  refine ⟨lg, rfl, T1, T', _, hL1.beside q3 hf hd hX q1.lt (fun j hj => .inl hj) q1.below, q1, fun j h1 h2 => ?_, hp1.turn (fun e => n1 (hf _ e)) q3, hp2.turn (fun e => n2 (hf _ e)) q3, fun e => ?_, fun e => ?_, ⟨World.ownsRow_nil _ _ _ _, (fun b hb => by cases hb), (fun p hp => by cases hp)⟩⟩
  · rcases q2 j h2 with e | e
    · exact hd j h1 e
    · have := hL1.lt j (hL1.subX j h1); omega
  · rcases hX P1 e with e | e
    · exact n1 e
    · omega
  · rcases hX P2 e with e | e
    · exact n2 e
    · omega
/-- The row grows by an entry. -/
theorem L2.push {v' : Value} {x : EnX} (h0 : L2 lv qs a room P1 d1 m1 lg1 s1 fs1 P2 d2 m2 lg2 s2 fs2 w0) (hb : Below w0.heap.size w0 w) (hx : Evs w x.2 x.1.b.events) (hfx : Fine x.1) (hg : ∀ b, x.2.ownBlock = some b → w0.heap.size ≤ b)
    (ho : w'.ownsRow a.heap.size 58 7 v' (qs.length + 1) (enCells qs ++ enCells [x])) (hgr : w.grownBy w' lv.ownBlock) (hv : v'.ownBlock = lv.ownBlock ∨ v'.ownBlock = some w.heap.size) :
    L2 v' (qs ++ [x]) a room P1 d1 m1 lg1 s1 fs1 P2 d2 m2 lg2 s2 fs2 w' := by
  obtain ⟨T1, T2, X, h0⟩ := h0
  have hlt := h0.l1.lt
  have h := h0.next hb
  have ht : Turn (fun j => lv.ownBlock = some j) w w' := Turn.of_grownO hgr (fun b e => e)
  have hTX : ∀ j, lv.ownBlock = some j → X j := fun j hj => (h.r.out j hj).1
  have hX : ∀ j, (X j ∨ v'.ownBlock = some j) → X j ∨ w.heap.size ≤ j := fun j hj => by
    rcases hj with hj | hj
    · exact .inl hj
    · rcases hv with e | e
      · exact .inl (hTX j (e.symm.trans hj))
      · rw [e] at hj; cases hj; exact .inr (Nat.le_refl _)
  have hlt' : ∀ j, (X j ∨ v'.ownBlock = some j) → j < w'.heap.size := fun j hj => by
    rcases hj with hj | hj
    · exact Nat.lt_of_lt_of_le (h.l1.lt j hj) ht.size
    · exact own_block ho hj
  have hbl : Below a.heap.size a w' := h.l1.below.trans (ht.below (fun j hj => (h.r.own.lt j hj).1) h.l1.below.size)
  have hP1 := (Array.getElem?_eq_some_iff.1 h.p1).1
  have hP2 := (Array.getElem?_eq_some_iff.1 h.p2).1
  have hox : OutE X x := fun b hb' _ hx' => by have := hlt b hx'; have := hg b hb'; omega
  refine ⟨T1, T2, fun j => X j ∨ v'.ownBlock = some j, h.l1.beside ht hTX (fun j h1 h2 => (h.r.out j h2).2.1 h1) hX hlt' (fun j hj => .inl hj) hbl, h.l2.beside ht hTX (fun j h1 h2 => (h.r.out j h2).2.2 h1) hX hlt' (fun j hj => .inl hj) hbl, h.dis,
    h.p1.turn (fun e => h.n1 (hTX _ e)) ht, h.p2.turn (fun e => h.n2 (hTX _ e)) ht, fun e => ?_, fun e => ?_, ⟨by rw [List.length_append, enCells_append]; exact ho, fun b hb' => ⟨.inr hb', ?_⟩, fun p hp => ?_⟩⟩
  · rcases hX P1 e with e | e
    · exact h.n1 e
    · omega
  · rcases hX P2 e with e | e
    · exact h.n2 e
    · omega
  · rcases hv with e | e
    · exact (h.r.out b (e.symm.trans hb')).2
    · rw [e] at hb'; cases hb'
      exact ⟨fun e => by have := h.l1.lt _ (h.l1.subX _ e); omega, fun e => by have := h.l2.lt _ (h.l2.subX _ e); omega⟩
  · have go : ∀ p : EnX, Evs w p.2 p.1.b.events → Fine p.1 → OutE X p → Evs w' p.2 p.1.b.events ∧ Fine p.1 ∧ OutE (fun j => X j ∨ v'.ownBlock = some j) p := fun p h1 h2 h3 =>
      ⟨evs_turn h1 (fun b hb' hne hf => h3 b hb' hne (hTX b hf)) ht, h2, h3.step h1 hX⟩
    rcases List.mem_append.1 hp with hp | hp
    · exact go p (h.r.evs p hp).1 (h.r.evs p hp).2.1 (h.r.evs p hp).2.2
    · rw [List.mem_singleton.1 hp]; exact go x hx hfx hox
/-- The row itself is handed to the second log: nobody else turns it. -/
theorem append_row {c : Nat} (h : L2 lv qs a room P1 d1 m1 lg1 s1 fs1 P2 d2 m2 lg2 s2 fs2 w) (hroom : room ≤ 1048576) (hB : Lg.BK qs.length s2) (hcap : CapOk lv) (hqn : qs.length ≤ 1000) (hr : Lg.appendF room (plainE qs) s2 fs2 = ((fs', s'), c)) :
    Calls Tryz.prog 23 #[.pointer (some ⟨lg2, 0, none⟩), lv] w fun e w' => e = .returned (.int .i64 (c : Int)) ∧ L2 (.slice none 0 0) [] a room P1 d1 m1 lg1 s1 fs1 P2 d2 m2 lg2 s' fs' w' := by
  obtain ⟨T1, T2, X, h⟩ := h
  have h1 := h.l1.wide (X' := fun j => X j ∧ lv.ownBlock ≠ some j) (fun j hj => hj.1) (fun j hj => ⟨h.l1.subX j hj, fun e => (h.r.out j e).2.1 hj⟩)
  have h2 := h.l2.wide (X' := fun j => X j ∧ lv.ownBlock ≠ some j) (fun j hj => hj.1) (fun j hj => ⟨h.l2.subX j hj, fun e => (h.r.out j e).2.2 hj⟩)
  have hs : Log2 (.slice none 0 0) [] a room P2 d2 m2 lg2 s2 fs2 P1 d1 m1 lg1 s1 fs1 w T2 T1 (fun j => X j ∧ lv.ownBlock ≠ some j) := ⟨h2, h1, fun j e1 e2 => h.dis j e2 e1, h.p2, h.p1, fun e => h.n2 e.1, fun e => h.n1 e.1, ⟨World.ownsRow_nil _ _ _ _, (fun b hb => by cases hb), (fun p hp => by cases hp)⟩⟩
  obtain ⟨ft, pv, ev, ps, hL⟩ := h2
  refine (logAppend_any hL hroom hB ⟨⟨cells_of_owns h.r.own, fun p hp => ⟨(h.r.evs p hp).1, (h.r.evs p hp).2.1⟩⟩, fun b hb _ hx => hx.2 hb, fun p hp b hb hne hx => (h.r.evs p hp).2.2 b hb hne hx.1⟩ hcap hqn hr).mono ?_
  rintro e w' ⟨rfl, hst⟩
  exact ⟨rfl, (hs.step hst).swap⟩
theorem L2.below (h : L2 lv qs a room P1 d1 m1 lg1 s1 fs1 P2 d2 m2 lg2 s2 fs2 w) : Below a.heap.size a w := by obtain ⟨_, _, _, h⟩ := h; exact h.l1.below
theorem L2.cells (h : L2 lv qs a room P1 d1 m1 lg1 s1 fs1 P2 d2 m2 lg2 s2 fs2 w) : w.cell? ⟨P1, 0, none⟩ = some (.pointer (some ⟨d1, 0, none⟩)) ∧ w.cell? ⟨P2, 0, none⟩ = some (.pointer (some ⟨d2, 0, none⟩)) := by obtain ⟨_, _, _, h⟩ := h; exact ⟨h.p1.cells.1, h.p2.cells.1⟩
theorem L2.row (h : L2 lv qs a room P1 d1 m1 lg1 s1 fs1 P2 d2 m2 lg2 s2 fs2 w) : w.ownsRow a.heap.size 58 7 lv qs.length (enCells qs) := by obtain ⟨_, _, _, h⟩ := h; exact h.r.own
end
end Go.Proofs.YtbknlffebcbjfaaGreatDoor
