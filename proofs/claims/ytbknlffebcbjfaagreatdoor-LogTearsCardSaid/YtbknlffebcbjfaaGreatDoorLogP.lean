/-
  A log at a block: its rows grow, its fields are written.
-/
import Derived.Test.YtbknlffebcbjfaaGreatDoorLogS
namespace Go.Proofs.YtbknlffebcbjfaaGreatDoor
open Go.RowKit Go.Shelf

theorem step_append_at {P : Program} {ops : Array Oper} {o : Oper} {a : Act} {w : World} {K : Act → World → Prop} {Q : Exit → Act → World → Prop} {EE : Prop} (hwd : Region.wanted o (yielded ops a.tmps) = true) (s x : Operand) {t e : TypeId} {sz : Nat}
    (ho : o.op = .call { callee := .builtin .append, args := #[s, x], argTypes := #[t, t] }) (E : ElemT P t e sz) (base : Nat) (v : Value) (n : Nat) (xs : List Value) (hs : a.eval s = v) (hown : w.ownsRow base e sz v n xs) (y : Value) (m : Nat) (news : List Value) (hy : a.eval x = y) (hx : Cells w y sz m news)
    (h1 : ∀ u ∈ news, u.oneCell' = true) (hn : n + m ≤ 1000000000) (hbase : base ≤ w.heap.size)
    (h : ∀ v' w', w'.ownsRow base e sz v' (n + m) (xs ++ news) → w.grownBy w' v.ownBlock → (v'.ownBlock = v.ownBlock ∨ v'.ownBlock = some w.heap.size) → K (a.put o.dst v') w') :
    if Region.wanted o (yielded ops a.tmps) = true then Oper.wp P o a w K Q else EE := by
  rw [if_pos hwd]
  obtain ⟨v', w', hr, h2, h3, h4⟩ := run_append_at E w base o.type v n xs hown y m news hx h1 hn hbase
  unfold Oper.wp execOp
  simp only [ho, resolve, invoke, builtin, Sem.run_bind, Sem.run_pure, Result.andThen_ok, List.map_toArray, List.map_cons, List.map_nil, hs, hy, hr]
  exact h _ _ h2 h3 h4
theorem Turn.of_grownO {f : Nat → Prop} {w w' : World} {r : Option Nat} (h : w.grownBy w' r) (hf : ∀ b, r = some b → f b) : Turn f w w' :=
  ⟨h.os, h.tape, h.output, h.size, fun j hj hn => h.block j hj (fun e => hn (hf j e.symm))⟩
theorem partCells_append (a b : List (Int × Int)) : partCells (a ++ b) = partCells a ++ partCells b := by simp [partCells]
theorem plainE_cat (ps ms : List EnX) : plainE (ps ++ ms) = plainE ps ++ plainE ms := by simp [plainE]
variable {a w w' : World} {lg d : Nat} {room : Int} {s s' : Lg.S} {fs fs' : List Dk.File} {T X ft : Nat → Prop} {pv ev pv' ev' : Value} {ps ps' : List EnX}
theorem Lay.logLt (h : Lay a lg d room s fs T X ft pv ev ps w) : lg < w.heap.size := (Array.getElem?_eq_some_iff.1 h.log).1
theorem LStep.of2 (h : ∃ T' ft', Lay a lg d room s' fs' T' (fun j => X j ∨ T' j) ft' pv' ev' ps' w' ∧ (∀ j, T j → T' j) ∧ (∀ j, T' j → T j ∨ w.heap.size ≤ j) ∧ Turn T w w') : LStep a lg d room s' fs' T X w w' := by
  obtain ⟨T', ft', h1, h2⟩ := h
  exact LStep.of ⟨T', h1, h2⟩
/-- What is new since is the log's. -/
theorem Lay.more (h : Lay a lg d room s fs T X ft pv ev ps w) (hb : Below w.heap.size w w') :
    ∃ T', Lay a lg d room s fs T' (fun j => X j ∨ T' j) ft pv ev ps w' ∧ (∀ j, T j → T' j) ∧ (∀ j, T' j → T j ∨ w.heap.size ≤ j) ∧ Turn T w w' ∧ (∀ j, w.heap.size ≤ j → j < w'.heap.size → T' j ∧ ¬ ft j ∧ j ≠ lg) := by
  have hx : ∀ j, (X j ∨ T j ∨ (w.heap.size ≤ j ∧ j < w'.heap.size)) → X j ∨ w.heap.size ≤ j := fun j hj => by
    rcases hj with hj | hj | hj
    · exact .inl hj
    · exact .inl (h.subX j hj)
    · exact .inr hj.1
  have hT : Turn T w w' := Turn.of_below hb
  have hlg := h.logLt
  refine ⟨fun j => T j ∨ (w.heap.size ≤ j ∧ j < w'.heap.size), ⟨h.disk.next hb, h.base.turn hT (fun j hj => hj.imp id (·.1)), fun j hj => ?_, fun j hj => .inl (h.sub j hj), fun j hj => .inr hj, heap_kept hb (Nat.le_refl _) h.log, owns_next h.parts hb, owns_next h.ents hb, h.plain,
    fun p hp => ⟨Cells.next (h.evs p hp).1 hb, (h.evs p hp).2.1, (h.evs p hp).2.2.step (h.evs p hp).1 hx⟩, ⟨.inl h.tl.1, h.tl.2⟩, fun b hb' => ⟨.inl (h.tp b hb').1, (h.tp b hb').2⟩, fun b hb' => ⟨.inl (h.te b hb').1, (h.te b hb').2⟩, h.ne⟩,
    fun j hj => .inl hj, fun j hj => hj.imp id (·.1), hT, fun j h1 h2 => ⟨.inr ⟨h1, h2⟩, fun hf => ?_, fun e => by omega⟩⟩
  · rcases hj with hj | hj | hj
    · exact Nat.lt_of_lt_of_le (h.lt j hj) hb.size
    · exact Nat.lt_of_lt_of_le (h.lt j (h.subX j hj)) hb.size
    · exact hj.2
  · have := h.lt j (h.subX j (h.sub j hf)); omega
/-- The row of parts grows. -/
theorem Lay.partsPut {v' : Value} {wa : World} {n f : Int} (h : Lay a lg d room s fs T X ft pv ev ps w) (hown : wa.ownsRow a.heap.size 130 2 v' (s.parts.length + 1) (partCells s.parts ++ [.int .i64 n, .int .i64 f])) (hg : w.grownBy wa pv.ownBlock) (hb : v'.ownBlock = pv.ownBlock ∨ v'.ownBlock = some w.heap.size) :
    wa.heap[lg]? = w.heap[lg]? ∧ ∃ T' ft', Lay a lg d room ⟨s.next, s.parts ++ [(n, f)], s.es⟩ fs T' (fun j => X j ∨ T' j) ft' v' ev ps (wa.setCell ⟨lg, 2, none⟩ v') ∧ (∀ j, T j → T' j) ∧ (∀ j, T' j → T j ∨ w.heap.size ≤ j) ∧ Turn T w (wa.setCell ⟨lg, 2, none⟩ v') := by
  have hlg := h.logLt
  have t1 : Turn (fun j => pv.ownBlock = some j) w wa := Turn.of_grownO hg (fun b e => e)
  have t2 : Turn (fun j => j = lg) wa (wa.setCell ⟨lg, 2, none⟩ v') := Turn.of_grownO (grown_set wa lg 2 v') (fun b e => by cases e; rfl)
  have hl : wa.heap[lg]? = w.heap[lg]? := t1.block lg hlg (fun e => (h.tp lg e).2.2 rfl)
  have hlog := setCell_at (i := 2) (hl.trans h.log) v'
  have hbl : ∀ b, v'.ownBlock = some b → (T b ∧ ¬ ft b ∧ b ≠ lg) ∨ w.heap.size ≤ b := fun b e => by
    rcases hb with hb | hb
    · exact .inl (h.tp b (by rw [← hb]; exact e))
    · rw [hb] at e; cases e; exact .inr (Nat.le_refl _)
  refine ⟨hl, ?_⟩
  obtain ⟨T', q1, q2, q3, q4⟩ := h.put (s' := ⟨s.next, s.parts ++ [(n, f)], s.es⟩) (pv' := v') (ev' := ev) (ps' := ps) (w' := wa.setCell ⟨lg, 2, none⟩ v')
    ((t1.wide (fun j e => ⟨(h.tp j e).1, (h.tp j e).2.1⟩)).trans (t2.wide (f2 := fun j => T j ∧ ¬ ft j) (fun j e => by subst e; exact h.tl)) (fun j hj => .inl hj)) hlog
    (owns_turn (by rw [partCells_append]; simpa [partCells] using hown) (fun b e e2 => by subst e2; rcases hbl _ e with q | q; exact q.2.2 rfl; omega) t2)
    (owns_turn (owns_turn h.ents (fun b e e2 => h.ne b e2 e) t1) (fun b e e2 => (h.te b e).2.2 e2) t2) h.plain h.evs hbl (fun b e => .inl (h.te b e))
    (fun b e e2 => by
      rcases hb with hb | hb
      · exact h.ne b (by rw [← hb]; exact e) e2
      · rw [hb] at e; cases e
        have := h.lt _ (h.subX _ (h.te _ e2).1); omega)
  exact ⟨T', _, q1, q2, q3, q4⟩
/-- The row of entries grows. -/
theorem Lay.entsPut {v' : Value} {wa : World} {qs : List EnX} (h : Lay a lg d room s fs T X ft pv ev ps w) (hq : ∀ p ∈ qs, Evs w p.2 p.1.b.events ∧ Fine p.1 ∧ OutE X p) (hown : wa.ownsRow a.heap.size 58 7 v' (ps.length + qs.length) (enCells ps ++ enCells qs)) (hg : w.grownBy wa ev.ownBlock) (hb : v'.ownBlock = ev.ownBlock ∨ v'.ownBlock = some w.heap.size) :
    wa.heap[lg]? = w.heap[lg]? ∧ ∃ T' ft', Lay a lg d room (s.plus (plainE qs)) fs T' (fun j => X j ∨ T' j) ft' pv v' (ps ++ qs) (wa.setCell ⟨lg, 3, none⟩ v') ∧ (∀ j, T j → T' j) ∧ (∀ j, T' j → T j ∨ w.heap.size ≤ j) ∧ Turn T w (wa.setCell ⟨lg, 3, none⟩ v') := by
  have hlg := h.logLt
  have t1 : Turn (fun j => ev.ownBlock = some j) w wa := Turn.of_grownO hg (fun b e => e)
  have t2 : Turn (fun j => j = lg) wa (wa.setCell ⟨lg, 3, none⟩ v') := Turn.of_grownO (grown_set wa lg 3 v') (fun b e => by cases e; rfl)
  have hl : wa.heap[lg]? = w.heap[lg]? := t1.block lg hlg (fun e => (h.te lg e).2.2 rfl)
  have hlog := setCell_at (i := 3) (hl.trans h.log) v'
  have hbl : ∀ b, v'.ownBlock = some b → (T b ∧ ¬ ft b ∧ b ≠ lg) ∨ w.heap.size ≤ b := fun b e => by
    rcases hb with hb | hb
    · exact .inl (h.te b (by rw [← hb]; exact e))
    · rw [hb] at e; cases e; exact .inr (Nat.le_refl _)
  refine ⟨hl, ?_⟩
  obtain ⟨T', q1, q2, q3, q4⟩ := h.put (s' := s.plus (plainE qs)) (pv' := pv) (ev' := v') (ps' := ps ++ qs) (w' := wa.setCell ⟨lg, 3, none⟩ v')
    ((t1.wide (fun j e => ⟨(h.te j e).1, (h.te j e).2.1⟩)).trans (t2.wide (f2 := fun j => T j ∧ ¬ ft j) (fun j e => by subst e; exact h.tl)) (fun j hj => .inl hj)) hlog
    (owns_turn (owns_turn h.parts (fun b e e2 => h.ne b e e2) t1) (fun b e e2 => (h.tp b e).2.2 e2) t2)
    (owns_turn (by rw [enCells_append, List.length_append]; exact hown) (fun b e e2 => by subst e2; rcases hbl _ e with q | q; exact q.2.2 rfl; omega) t2) (by rw [plainE_cat, h.plain]; rfl)
    (fun p hp => by rcases List.mem_append.1 hp with hp | hp; exact h.evs p hp; exact hq p hp) (fun b e => .inl (h.tp b e)) hbl
    (fun b e e2 => by
      rcases hb with hb | hb
      · exact h.ne b e (by rw [← hb]; exact e2)
      · rw [hb] at e2; cases e2
        have := h.lt _ (h.subX _ (h.tp _ e).1); omega)
  exact ⟨T', _, q1, q2, q3, q4⟩
/-- A log on its way: since a world w. -/
structure LMid (a : World) (lg d : Nat) (room : Int) (T X : Nat → Prop) (w : World) (s : Lg.S) (fs : List Dk.File) (T2 ft2 : Nat → Prop) (pv ev : Value) (ps : List EnX) (wx : World) : Prop where
  lay : Lay a lg d room s fs T2 (fun j => X j ∨ T2 j) ft2 pv ev ps wx
  mono : ∀ j, T j → T2 j
  new : ∀ j, T2 j → T j ∨ w.heap.size ≤ j
  turn : Turn T w wx
variable {T2 ft2 : Nat → Prop} {wx wy : World}
theorem LMid.start (h : Lay a lg d room s fs T X ft pv ev ps w) : LMid a lg d room T X w s fs T ft pv ev ps w :=
  ⟨h.wide (fun j hj => by rcases hj with hj | hj; exact hj; exact h.subX j hj) (fun j hj => .inr hj), fun _ h => h, fun _ h => .inl h, Turn.refl _ _⟩
theorem LMid.next (h : LMid a lg d room T X w s fs T2 ft2 pv ev ps wx) (hb : Below wx.heap.size wx wy) : LMid a lg d room T X w s fs T2 ft2 pv ev ps wy :=
  ⟨h.lay.next hb, h.mono, h.new, h.turn.trans (Turn.of_below (ft := T) hb) (fun _ hj => .inl hj)⟩
theorem LMid.of {T3 ft3 : Nat → Prop} (h : LMid a lg d room T X w s fs T2 ft2 pv ev ps wx) (h1 : Lay a lg d room s' fs' T3 (fun j => (X j ∨ T2 j) ∨ T3 j) ft3 pv' ev' ps' wy) (h2 : ∀ j, T2 j → T3 j) (h3 : ∀ j, T3 j → T2 j ∨ wx.heap.size ≤ j) (h4 : Turn T2 wx wy) : LMid a lg d room T X w s' fs' T3 ft3 pv' ev' ps' wy :=
  ⟨h1.wide (fun j hj => by rcases hj with hj | hj; exact .inl (.inl hj); exact .inr hj) (fun j hj => .inr hj), fun j hj => h2 j (h.mono j hj), fun j hj => by
    rcases h3 j hj with q | q
    · exact h.new j q
    · exact .inr (Nat.le_trans h.turn.size q), h.turn.trans h4 h.new⟩
theorem LMid.disked (h : LMid a lg d room T X w s fs T2 ft2 pv ev ps wx) (hd : DStep d room fs' ft2 wx wy) :
    ∃ T3 ft3, LMid a lg d room T X w s fs' T3 ft3 pv ev ps wy ∧ (∀ j, T2 j → T3 j) ∧ (∀ j, ft3 j → ft2 j ∨ wx.heap.size ≤ j) := by
  obtain ⟨T3, ft3, q1, q2, q3, q4, q5⟩ := h.lay.disked hd
  exact ⟨T3, ft3, h.of q1 q2 q3 q4, q2, q5⟩
theorem LMid.disked2 (h : LMid a lg d room T X w s fs T2 ft2 pv ev ps wx) (hd : DStep d room fs' ft2 wx wy) :
    ∃ T3 ft3, LMid a lg d room T X w s fs' T3 ft3 pv ev ps wy ∧ (∀ j, T2 j → T3 j) ∧ (∀ j, T3 j → T2 j ∨ wx.heap.size ≤ j) ∧ Turn T2 wx wy := by
  obtain ⟨T3, ft3, q1, q2, q3, q4, q5⟩ := h.lay.disked hd
  exact ⟨T3, ft3, h.of q1 q2 q3 q4, q2, q3, q4⟩
theorem Apart.mid {T3 : Nat → Prop} {lv : Value} {qs : List EnX} (h : Apart (fun j => X j ∨ T2 j) wx lv qs) (ht : Turn T2 wx wy) (hn : ∀ j, T3 j → T2 j ∨ wx.heap.size ≤ j) : Apart (fun j => X j ∨ T3 j) wy lv qs :=
  h.step (ht.wide (fun j hj => .inr hj)) (fun j hj => by
    rcases hj with hj | hj
    · exact .inl (.inl hj)
    · rcases hn j hj with h | h
      · exact .inl (.inr h)
      · exact .inr h)
theorem LMid.more (h : LMid a lg d room T X w s fs T2 ft2 pv ev ps wx) (hb : Below wx.heap.size wx wy) :
    ∃ T3, LMid a lg d room T X w s fs T3 ft2 pv ev ps wy ∧ (∀ j, T2 j → T3 j) ∧ (∀ j, wx.heap.size ≤ j → j < wy.heap.size → T3 j ∧ ¬ ft2 j ∧ j ≠ lg) := by
  obtain ⟨T3, q1, q2, q3, q4, q5⟩ := h.lay.more hb
  exact ⟨T3, h.of q1 q2 q3 q4, q2, q5⟩
theorem LMid.step (h : LMid a lg d room T X w s fs T2 ft2 pv ev ps wx) : LStep a lg d room s fs T X w wx := ⟨T2, ⟨ft2, pv, ev, ps, h.lay⟩, h.mono, h.new, h.turn⟩
/-- A block that was not there is no file's. -/
theorem LMid.notF (h : LMid a lg d room T X w s fs T2 ft2 pv ev ps wx) {j : Nat} (hj : wx.heap.size ≤ j) : ¬ ft2 j := fun hf => by
  have := h.lay.lt j (h.lay.subX j (h.lay.sub j hf)); omega
end Go.Proofs.YtbknlffebcbjfaaGreatDoor
