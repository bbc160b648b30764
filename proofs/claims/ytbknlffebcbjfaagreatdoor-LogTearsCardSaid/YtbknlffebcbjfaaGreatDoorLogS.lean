/-
  A log at a block: its disk, its parts, its entries; what a step of it leaves. append that tells where the new row lies.
-/
import Derived.Test.YtbknlffebcbjfaaGreatDoorAt
import Derived.Test.YtbknlffebcbjfaaGreatDoorLogM
import Derived.Maps.AppendAt
import Derived.Test.YtbknlffebcbjfaaGreatDoorMan
namespace Go.Proofs.YtbknlffebcbjfaaGreatDoor
open Go.RowKit Go.Shelf

theorem run_append_at {P : Program} {t e : TypeId} {sz : Nat} (E : ElemT P t e sz) (w : World) (base : Nat) (ty : TypeId) (v : Value) (n : Nat) (xs : List Value) (hown : w.ownsRow base e sz v n xs) (x : Value) (m : Nat) (news : List Value) (hx : Cells w x sz m news) (h1 : ∀ u ∈ news, u.oneCell' = true)
    (hn : n + m ≤ 1000000000) (hbase : base ≤ w.heap.size) :
    ∃ v' w', (Builtin.append_ #[t, t] ty #[v, x]).run P w = .ok v' w' ∧ w'.ownsRow base e sz v' (n + m) (xs ++ news) ∧ w.grownBy w' v.ownBlock ∧ (v'.ownBlock = v.ownBlock ∨ v'.ownBlock = some w.heap.size) := by
  obtain ⟨i, z, bytes, h2, h3, h4, h5, h6, h7⟩ := E.info
  rcases hx.2 with ⟨rfl, a, c, rfl⟩ | ⟨b, o, c, rfl, hx2⟩
  · have hnn : news = [] := List.eq_nil_of_length_eq_zero (by have := hx.1; omega)
    subst hnn
    obtain ⟨bs, sl, sc, rfl, hle⟩ : ∃ bs sl sc, v = .slice bs sl sc ∧ sl ≤ sc := by
      rcases hown.2 with ⟨rfl, _⟩ | ⟨g, cap, cur, rfl, _, _, hc, _⟩
      · exact ⟨_, _, _, rfl, Nat.le_refl _⟩
      · exact ⟨_, _, _, rfl, hc⟩
    have hs : Src P i.size t (.slice a 0 c) 0 [] w := by
      cases a with
      | none => exact Src.ofNil w E.und c
      | some a => exact Src.ofSlice w E.und a 0 c [] (by simp) (fun j u h => by simp at h) (fun u h => by cases h)
    exact ⟨_, _, run_append_nothing w t t ty e i E.und h2 bs sl sc hle _ hs, by simpa using hown, grown_refl _ _, .inl rfl⟩
  · have hb : (n + m) * bytes ≤ (n + m) * 128 := Nat.mul_le_mul_left _ h7
    obtain ⟨v', w', hr, h8, h9, _, h10⟩ := run_append_own_at (P := P) w base t ty e i z sz bytes E.und h2 h3 h4 h5 h6 E.pos v n xs hown ⟨b, o, none⟩ m c news hx.1
      (fun j u hj => by rw [show ((⟨b, o, none⟩ : Addr).add j) = ⟨b, o + j, none⟩ by unfold Addr.add; split <;> simp_all]; exact hx2 j u hj) h1 (by unfold maxLen; omega) (by omega) hbase
    exact ⟨v', w', hr, h8, h9, h10⟩
theorem wpList_append_at {P : Program} {ops : Array Oper} {rest : List Oper} {o : Oper} {a : Act} {w : World} {Q : Exit → Act → World → Prop} (hwd : Region.wanted o (yielded ops a.tmps) = true) (s x : Operand) {t e : TypeId} {sz : Nat}
    (ho : o.op = .call { callee := .builtin .append, args := #[s, x], argTypes := #[t, t] }) (E : ElemT P t e sz) (base : Nat) (v : Value) (n : Nat) (xs : List Value) (hs : a.eval s = v) (hown : w.ownsRow base e sz v n xs) (y : Value) (m : Nat) (news : List Value) (hy : a.eval x = y) (hx : Cells w y sz m news)
    (h1 : ∀ u ∈ news, u.oneCell' = true) (hn : n + m ≤ 1000000000) (hbase : base ≤ w.heap.size)
    (h : ∀ v' w', w'.ownsRow base e sz v' (n + m) (xs ++ news) → w.grownBy w' v.ownBlock → (v'.ownBlock = v.ownBlock ∨ v'.ownBlock = some w.heap.size) → wpList P ops Q rest (a.put o.dst v') w') :
    wpList P ops Q (o :: rest) a w := by
  refine wpList_step fun K hK => ?_
  rw [if_pos hwd]
  obtain ⟨v', w', hr, h2, h3, h4⟩ := run_append_at E w base o.type v n xs hown y m news hx h1 hn hbase
  unfold Oper.wp execOp
  simp only [ho, resolve, invoke, builtin, Sem.run_bind, Sem.run_pure, Result.andThen_ok, List.map_toArray, List.map_cons, List.map_nil, hs, hy, hr]
  exact hK _ _ (h v' w' h2 h3 h4)

def partCells (ps : List (Int × Int)) : List Value := ps.flatMap fun p => [.int .i64 p.1, .int .i64 p.2]
/-- An entry's events lie in no block of a set. -/
def OutE (X : Nat → Prop) (p : EnX) : Prop := ∀ b, p.2.ownBlock = some b → p.1.b.events ≠ [] → ¬ X b
theorem evs_block {w : World} {v : Value} {es : List Evt.Event} (h : Evs w v es) {b : Nat} (hb : v.ownBlock = some b) (hne : es ≠ []) : b < w.heap.size := by
  rcases h.2 with ⟨h0, a, c, rfl⟩ | ⟨b', o, c, rfl, h2⟩
  · exact absurd (List.eq_nil_of_length_eq_zero h0) hne
  · simp only [Value.ownBlock, Option.some.injEq] at hb
    subst hb
    cases es with
    | nil => exact absurd rfl hne
    | cons e es => exact World.block_lt_of_cell? _ _ (h2 0 (.string ⟨e.kind.toArray⟩) rfl)
theorem evs_turn {T : Nat → Prop} {w w' : World} {p : EnX} (h : Evs w p.2 p.1.b.events) (ho : OutE T p) (ht : Turn T w w') : Evs w' p.2 p.1.b.events := by
  refine ⟨h.1, ?_⟩
  rcases h.2 with ⟨h0, a, c, e⟩ | ⟨b, o, c, e, h2⟩
  · exact .inl ⟨h0, a, c, e⟩
  · refine .inr ⟨b, o, c, e, fun j u hj => ?_⟩
    have hne : p.1.b.events ≠ [] := fun h0 => by rw [h0] at hj; simp [evCells] at hj
    have hc := h2 j u hj
    rw [World.cell?_of_block (w := w) (w' := w') (ht.block b (World.block_lt_of_cell? _ _ hc) (ho b (by rw [e]; rfl) hne))]
    exact hc
theorem OutE.step {X X' : Nat → Prop} {w : World} {p : EnX} (ho : OutE X p) (h : Evs w p.2 p.1.b.events) (hX : ∀ j, X' j → X j ∨ w.heap.size ≤ j) : OutE X' p := by
  intro b hb hne hx
  rcases hX b hx with h1 | h1
  · exact ho b hb hne h1
  · have := evs_block h hb hne; omega
/-- Entries in a row of a caller's, apart from a set of blocks. -/
structure Apart (X : Nat → Prop) (w : World) (v : Value) (qs : List EnX) : Prop where
  ents : Ents w v qs
  row : ∀ b, v.ownBlock = some b → qs ≠ [] → ¬ X b
  out : ∀ p ∈ qs, OutE X p
theorem enCells_ne {qs : List EnX} {j : Nat} {u : Value} (h : (enCells qs)[j]? = some u) : qs ≠ [] := fun h0 => by rw [h0] at h; simp [enCells] at h
theorem ents_block {w : World} {v : Value} {qs : List EnX} (h : Ents w v qs) {b : Nat} (hb : v.ownBlock = some b) (hne : qs ≠ []) : b < w.heap.size := by
  rcases h.1.2 with ⟨h0, a, c, rfl⟩ | ⟨b', o, c, rfl, h2⟩
  · exact absurd (List.eq_nil_of_length_eq_zero h0) hne
  · simp only [Value.ownBlock, Option.some.injEq] at hb
    subst hb
    cases qs with
    | nil => exact absurd rfl hne
    | cons e es => exact World.block_lt_of_cell? _ _ (h2 0 (.int .i64 e.1.pos) rfl)
theorem Apart.step {X X' : Nat → Prop} {w w' : World} {v : Value} {qs : List EnX} (h : Apart X w v qs) (ht : Turn X w w') (hX : ∀ j, X' j → X j ∨ w.heap.size ≤ j) : Apart X' w' v qs := by
  refine ⟨⟨⟨h.ents.1.1, ?_⟩, fun p hp => ⟨evs_turn (h.ents.2 p hp).1 (h.out p hp) ht, (h.ents.2 p hp).2⟩⟩, fun b hb hne hx => ?_, fun p hp => (h.out p hp).step (h.ents.2 p hp).1 hX⟩
  · rcases h.ents.1.2 with ⟨h0, a, c, e⟩ | ⟨b, o, c, e, h2⟩
    · exact .inl ⟨h0, a, c, e⟩
    · refine .inr ⟨b, o, c, e, fun j u hj => ?_⟩
      have hc := h2 j u hj
      rw [World.cell?_of_block (w := w) (w' := w') (ht.block b (World.block_lt_of_cell? _ _ hc) (h.row b (by rw [e]; rfl) (enCells_ne hj)))]
      exact hc
  · rcases hX b hx with h1 | h1
    · exact h.row b hb hne h1
    · have := ents_block h.ents hb hne; omega
theorem Apart.next {X : Nat → Prop} {w w' : World} {v : Value} {qs : List EnX} (h : Apart X w v qs) (hb : Below w.heap.size w w') : Apart X w' v qs := h.step (Turn.of_below hb) (fun _ h => .inl h)

/-- A log at a block. -/
structure Lay (a : World) (lg d : Nat) (room : Int) (s : Lg.S) (fs : List Dk.File) (T X ft : Nat → Prop) (pv ev : Value) (ps : List EnX) (w : World) : Prop where
  disk : IsDisk w d room fs ft
  base : Base a w T
  lt : ∀ j, X j → j < w.heap.size
  sub : ∀ j, ft j → T j
  subX : ∀ j, T j → X j
  log : w.heap[lg]? = some (.cells #[.pointer (some ⟨d, 0, none⟩), .int .i64 s.next, pv, ev] 123 (0, 0))
  parts : w.ownsRow a.heap.size 130 2 pv s.parts.length (partCells s.parts)
  ents : w.ownsRow a.heap.size 58 7 ev ps.length (enCells ps)
  plain : plainE ps = s.es
  evs : ∀ p ∈ ps, Evs w p.2 p.1.b.events ∧ Fine p.1 ∧ OutE X p
  tl : T lg ∧ ¬ ft lg
  tp : ∀ b, pv.ownBlock = some b → T b ∧ ¬ ft b ∧ b ≠ lg
  te : ∀ b, ev.ownBlock = some b → T b ∧ ¬ ft b ∧ b ≠ lg
  ne : ∀ b, pv.ownBlock = some b → ev.ownBlock ≠ some b
def LAt (a : World) (lg d : Nat) (room : Int) (s : Lg.S) (fs : List Dk.File) (T X : Nat → Prop) (w : World) : Prop := ∃ ft pv ev ps, Lay a lg d room s fs T X ft pv ev ps w
/-- A step of a log. -/
def LStep (a : World) (lg d : Nat) (room : Int) (s : Lg.S) (fs : List Dk.File) (T X : Nat → Prop) (w w' : World) : Prop :=
  ∃ T', LAt a lg d room s fs T' (fun j => X j ∨ T' j) w' ∧ (∀ j, T j → T' j) ∧ (∀ j, T' j → T j ∨ w.heap.size ≤ j) ∧ Turn T w w'
variable {a w w' : World} {lg d : Nat} {room : Int} {s s' : Lg.S} {fs fs' : List Dk.File} {T X ft : Nat → Prop} {pv ev pv' ev' : Value} {ps ps' : List EnX}
theorem owns_turn {base sz n : Nat} {e : TypeId} {v : Value} {xs : List Value} (h : w.ownsRow base e sz v n xs) (hf : ∀ b, v.ownBlock = some b → ¬ T b) (ht : Turn T w w') : w'.ownsRow base e sz v n xs := by
  refine ⟨h.1, ?_⟩
  rcases h.2 with h | ⟨g, cap, cur, rfl, hg, hw, hr⟩
  · exact .inl h
  · refine .inr ⟨g, cap, cur, rfl, hg, ?_, hr⟩
    rw [ht.block g (Array.getElem?_eq_some_iff.1 hw).1 (hf g rfl)]; exact hw
theorem Lay.other {f2 : Nat → Prop} (h : Lay a lg d room s fs T X ft pv ev ps w) (ht : Turn f2 w w') (hb : Base a w' T) (hd : ∀ j, T j → ¬ f2 j) (hX : ∀ j, f2 j → X j) : Lay a lg d room s fs T X ft pv ev ps w' :=
  ⟨h.disk.other ht (fun j hj => hd j (h.sub j hj)), hb, fun j hj => Nat.lt_of_lt_of_le (h.lt j hj) ht.size, h.sub, h.subX,
    (ht.block lg (Array.getElem?_eq_some_iff.1 h.log).1 (hd lg h.tl.1)).trans h.log, owns_turn h.parts (fun b hb => hd b (h.tp b hb).1) ht, owns_turn h.ents (fun b hb => hd b (h.te b hb).1) ht, h.plain,
    fun p hp => ⟨evs_turn (h.evs p hp).1 (fun b hb hne hf => (h.evs p hp).2.2 b hb hne (hX b hf)) ht, (h.evs p hp).2⟩, h.tl, h.tp, h.te, h.ne⟩
theorem Lay.next (h : Lay a lg d room s fs T X ft pv ev ps w) (hb : Below w.heap.size w w') : Lay a lg d room s fs T X ft pv ev ps w' :=
  h.other (f2 := fun _ => False) (Turn.of_below hb) (h.base.next hb) (fun _ _ h => h) (fun _ h => h.elim)
theorem Lay.wide {X' : Nat → Prop} (h : Lay a lg d room s fs T X ft pv ev ps w) (h1 : ∀ j, X' j → X j) (h2 : ∀ j, T j → X' j) : Lay a lg d room s fs T X' ft pv ev ps w :=
  ⟨h.disk, h.base, fun j hj => h.lt j (h1 j hj), h.sub, h2, h.log, h.parts, h.ents, h.plain, fun p hp => ⟨(h.evs p hp).1, (h.evs p hp).2.1, fun b hb hne hx => (h.evs p hp).2.2 b hb hne (h1 b hx)⟩, h.tl, h.tp, h.te, h.ne⟩
theorem Lay.env (h : Lay a lg d room s fs T X ft pv ev ps w) : Env w := h.base.envW
theorem Lay.baseD (h : Lay a lg d room s fs T X ft pv ev ps w) : Base a w ft := ⟨h.base.env, h.base.below, fun j hj => h.base.out j (h.sub j hj)⟩
theorem Lay.cells (h : Lay a lg d room s fs T X ft pv ev ps w) : w.cell? ⟨lg, 0, none⟩ = some (.pointer (some ⟨d, 0, none⟩)) ∧ w.cell? ⟨lg, 1, none⟩ = some (.int .i64 s.next) ∧ w.cell? ⟨lg, 2, none⟩ = some pv ∧ w.cell? ⟨lg, 3, none⟩ = some ev := by
  refine ⟨?_, ?_, ?_, ?_⟩ <;> (rw [Lib.cell_of_heap h.log]; rfl)
theorem Lay.frozen (h : Lay a lg d room s fs T X ft pv ev ps w) : ∀ i, w.frozen? ⟨lg, i, none⟩ = false := fun i => Lib.frozen_of_heap h.log i
theorem Lay.entsE (h : Lay a lg d room s fs T X ft pv ev ps w) : Ents w ev ps := ⟨cells_of_owns h.ents, fun p hp => ⟨(h.evs p hp).1, (h.evs p hp).2.1⟩⟩
theorem Lay.len (h : Lay a lg d room s fs T X ft pv ev ps w) : ps.length = s.es.length := by rw [← h.plain]; simp [plainE]
/-- The log's disk goes on. -/
theorem Lay.disked (h : Lay a lg d room s fs T X ft pv ev ps w) (hd : DStep d room fs' ft w w') :
    ∃ T' ft', Lay a lg d room s fs' T' (fun j => X j ∨ T' j) ft' pv ev ps w' ∧ (∀ j, T j → T' j) ∧ (∀ j, T' j → T j ∨ w.heap.size ≤ j) ∧ Turn T w w' ∧ (∀ j, ft' j → ft j ∨ w.heap.size ≤ j) := by
  obtain ⟨g, q1, q2, q3, q4⟩ := hd.open
  have hT : Turn T w w' := q4.wide h.sub
  have hg : ∀ j, (T j ∨ g j) → T j ∨ w.heap.size ≤ j := fun j hj => by
    rcases hj with hj | hj
    · exact .inl hj
    · rcases q2 j hj with h1 | h1
      · exact .inl (h.sub j h1)
      · exact .inr h1
  have hlt : ∀ j, T j → j < w.heap.size := fun j hj => h.lt j (h.subX j hj)
  have hgn : ∀ j, j < w.heap.size → ¬ ft j → ¬ g j := fun j h1 h2 h3 => by
    rcases q2 j h3 with h4 | h4
    · exact h2 h4
    · omega
  have hX : ∀ j, (X j ∨ T j ∨ g j) → X j ∨ w.heap.size ≤ j := fun j hj => by
    rcases hj with hj | hj
    · exact .inl hj
    · rcases hg j hj with h1 | h1
      · exact .inl (h.subX j h1)
      · exact .inr h1
  refine ⟨fun j => T j ∨ g j, g, ⟨q1, h.base.turn hT hg, fun j hj => ?_, fun j hj => .inr hj, fun j hj => .inr hj, (q4.block lg (hlt lg h.tl.1) h.tl.2).trans h.log,
    owns_turn h.parts (fun b hb => (h.tp b hb).2.1) q4, owns_turn h.ents (fun b hb => (h.te b hb).2.1) q4, h.plain, fun p hp => ⟨evs_turn (h.evs p hp).1 (fun b hb hne hf => (h.evs p hp).2.2 b hb hne (h.subX b (h.sub b hf))) q4, (h.evs p hp).2.1, (h.evs p hp).2.2.step (h.evs p hp).1 hX⟩,
    ⟨.inl h.tl.1, hgn lg (hlt lg h.tl.1) h.tl.2⟩, fun b hb => ?_, fun b hb => ?_, h.ne⟩, fun j hj => .inl hj, hg, hT, q2⟩
  · rcases hj with hj | hj | hj
    · exact Nat.lt_of_lt_of_le (h.lt j hj) q4.size
    · exact Nat.lt_of_lt_of_le (hlt j hj) q4.size
    · exact q3 j hj
  · obtain ⟨h1, h2, h3⟩ := h.tp b hb
    exact ⟨.inl h1, hgn b (hlt b h1) h2, h3⟩
  · obtain ⟨h1, h2, h3⟩ := h.te b hb
    exact ⟨.inl h1, hgn b (hlt b h1) h2, h3⟩
/-- The log's own cells are written, its rows too. -/
theorem Lay.put (h : Lay a lg d room s fs T X ft pv ev ps w) (hT : Turn (fun j => T j ∧ ¬ ft j) w w')
    (hlog : w'.heap[lg]? = some (.cells #[.pointer (some ⟨d, 0, none⟩), .int .i64 s'.next, pv', ev'] 123 (0, 0)))
    (hp : w'.ownsRow a.heap.size 130 2 pv' s'.parts.length (partCells s'.parts)) (he : w'.ownsRow a.heap.size 58 7 ev' ps'.length (enCells ps')) (hpl : plainE ps' = s'.es)
    (hev : ∀ p ∈ ps', Evs w p.2 p.1.b.events ∧ Fine p.1 ∧ OutE X p)
    (bp : ∀ b, pv'.ownBlock = some b → (T b ∧ ¬ ft b ∧ b ≠ lg) ∨ w.heap.size ≤ b) (be : ∀ b, ev'.ownBlock = some b → (T b ∧ ¬ ft b ∧ b ≠ lg) ∨ w.heap.size ≤ b) (hne : ∀ b, pv'.ownBlock = some b → ev'.ownBlock ≠ some b) :
    ∃ T', Lay a lg d room s' fs T' (fun j => X j ∨ T' j) (fun j => ft j ∧ j < w.heap.size) pv' ev' ps' w' ∧ (∀ j, T j → T' j) ∧ (∀ j, T' j → T j ∨ w.heap.size ≤ j) ∧ Turn T w w' := by
  have hT2 : Turn T w w' := hT.wide (fun j hj => hj.1)
  have hlt : ∀ j, T j → j < w.heap.size := fun j hj => h.lt j (h.subX j hj)
  have hg : ∀ j, (T j ∨ (w.heap.size ≤ j ∧ j < w'.heap.size)) → T j ∨ w.heap.size ≤ j := fun j hj => by
    rcases hj with hj | hj
    · exact .inl hj
    · exact .inr hj.1
  have hX : ∀ j, (X j ∨ T j ∨ (w.heap.size ≤ j ∧ j < w'.heap.size)) → X j ∨ w.heap.size ≤ j := fun j hj => by
    rcases hj with hj | hj
    · exact .inl hj
    · rcases hg j hj with h1 | h1
      · exact .inl (h.subX j h1)
      · exact .inr h1
  have hll := hlt lg h.tl.1
  refine ⟨fun j => T j ∨ (w.heap.size ≤ j ∧ j < w'.heap.size), ⟨h.disk.narrow.other hT (fun j hj hn => hn.2 hj.1), h.base.turn hT2 hg, fun j hj => ?_, fun j hj => .inl (h.sub j hj.1), fun j hj => .inr hj, hlog, hp, he, hpl,
    fun p hp' => ⟨evs_turn (hev p hp').1 (fun b hb hn hf => (hev p hp').2.2 b hb hn (h.subX b hf)) hT2, (hev p hp').2.1, (hev p hp').2.2.step (hev p hp').1 hX⟩, ⟨.inl h.tl.1, fun hf => h.tl.2 hf.1⟩, fun b hb => ?_, fun b hb => ?_, hne⟩, fun j hj => .inl hj, hg, hT2⟩
  · rcases hj with hj | hj | hj
    · exact Nat.lt_of_lt_of_le (h.lt j hj) hT.size
    · exact Nat.lt_of_lt_of_le (hlt j hj) hT.size
    · exact hj.2
  · rcases bp b hb with h1 | h1
    · obtain ⟨q1, q2, q3⟩ := h1
      exact ⟨.inl q1, fun hf => q2 hf.1, q3⟩
    · exact ⟨.inr ⟨h1, (hp.lt b hb).2⟩, fun hf => by omega, fun e => by omega⟩
  · rcases be b hb with h1 | h1
    · obtain ⟨q1, q2, q3⟩ := h1
      exact ⟨.inl q1, fun hf => q2 hf.1, q3⟩
    · exact ⟨.inr ⟨h1, (he.lt b hb).2⟩, fun hf => by omega, fun e => by omega⟩
theorem LAt.next (h : LAt a lg d room s fs T X w) (hb : Below w.heap.size w w') : LAt a lg d room s fs T X w' := by
  obtain ⟨ft, pv, ev, ps, h⟩ := h; exact ⟨ft, pv, ev, ps, h.next hb⟩
theorem LAt.env (h : LAt a lg d room s fs T X w) : Env w := by obtain ⟨ft, pv, ev, ps, h⟩ := h; exact h.env
theorem LAt.subX (h : LAt a lg d room s fs T X w) : ∀ j, T j → X j := by obtain ⟨ft, pv, ev, ps, h⟩ := h; exact h.subX
theorem LAt.lt (h : LAt a lg d room s fs T X w) : ∀ j, X j → j < w.heap.size := by obtain ⟨ft, pv, ev, ps, h⟩ := h; exact h.lt
theorem LAt.below (h : LAt a lg d room s fs T X w) : Below a.heap.size a w := by obtain ⟨ft, pv, ev, ps, h⟩ := h; exact h.base.below
theorem LAt.wide {X' : Nat → Prop} (h : LAt a lg d room s fs T X w) (h1 : ∀ j, X' j → X j) (h2 : ∀ j, T j → X' j) : LAt a lg d room s fs T X' w := by
  obtain ⟨ft, pv, ev, ps, h⟩ := h; exact ⟨ft, pv, ev, ps, h.wide h1 h2⟩
theorem LStep.of {ft' : Nat → Prop} (h : ∃ T', Lay a lg d room s' fs' T' (fun j => X j ∨ T' j) ft' pv' ev' ps' w' ∧ (∀ j, T j → T' j) ∧ (∀ j, T' j → T j ∨ w.heap.size ≤ j) ∧ Turn T w w') : LStep a lg d room s' fs' T X w w' := by
  obtain ⟨T', h1, h2, h3, h4⟩ := h
  exact ⟨T', ⟨_, _, _, _, h1⟩, h2, h3, h4⟩
theorem LStep.refl (h : LAt a lg d room s fs T X w) (hb : Below w.heap.size w w') : LStep a lg d room s fs T X w w' :=
  ⟨T, (h.next hb).wide (fun j hj => by rcases hj with hj | hj; exact hj; exact h.subX j hj) (fun j hj => .inr hj), fun _ h => h, fun _ h => .inl h, Turn.of_below hb⟩
theorem LStep.under {w1 : World} (hb : Below w.heap.size w w1) (h : LStep a lg d room s fs T X w1 w') : LStep a lg d room s fs T X w w' := by
  obtain ⟨T', h1, h2, h3, h4⟩ := h
  have := hb.size
  exact ⟨T', h1, h2, fun j hj => by rcases h3 j hj with h | h; exact .inl h; exact .inr (by omega), (Turn.of_below hb).trans h4 (fun j hj => .inl hj)⟩
theorem LStep.trans {s2 : Lg.S} {f2 : List Dk.File} {T1 : Nat → Prop} {w1 w2 : World} (ht : Turn T w w1) (hm : ∀ j, T j → T1 j) (hf : ∀ j, T1 j → T j ∨ w.heap.size ≤ j) (h2 : LStep a lg d room s2 f2 T1 (fun j => X j ∨ T1 j) w1 w2) : LStep a lg d room s2 f2 T X w w2 := by
  obtain ⟨T2, q1, q2, q3, q4⟩ := h2
  refine ⟨T2, q1.wide (fun j hj => ?_) (fun j hj => .inr hj), fun j hj => q2 j (hm j hj), fun j hj => ?_, ht.trans q4 hf⟩
  · rcases hj with hj | hj
    · exact .inl (.inl hj)
    · exact .inr hj
  · rcases q3 j hj with h | h
    · exact hf j h
    · exact .inr (Nat.le_trans ht.size h)
theorem LStep.then {w1 : World} (h1 : LStep a lg d room s fs T X w w1) (hb : Below w1.heap.size w1 w') : LStep a lg d room s fs T X w w' := by
  obtain ⟨T1, q1, q2, q3, q4⟩ := h1
  exact LStep.trans q4 q2 q3 (LStep.refl q1 hb)
theorem LStep.turnX (h : LStep a lg d room s' fs' T X w w') (hs : ∀ j, T j → X j) : Turn X w w' := by
  obtain ⟨T1, q1, q2, q3, q4⟩ := h; exact q4.wide hs
end Go.Proofs.YtbknlffebcbjfaaGreatDoor
