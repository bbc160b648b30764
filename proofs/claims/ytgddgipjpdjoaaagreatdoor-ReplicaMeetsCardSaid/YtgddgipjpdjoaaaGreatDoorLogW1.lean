/-
  A log at a block: its disk, its parts, its entries; what a step of it leaves. append that tells where the new row lies.
  A log at a block: its rows grow, its fields are written.
  The walks of a log's reading functions (layer 11): Last, Epoch, At, Range, Segs, Marks; named; slices.Clone.
-/
import Derived.Test.YtgddgipjpdjoaaaGreatDoorAt
import Derived.Test.YtgddgipjpdjoaaaGreatDoorLogPl
import Derived.Maps.AppendAt
import Derived.Test.YtgddgipjpdjoaaaGreatDoorMan
namespace Go.Proofs.YtgddgipjpdjoaaaGreatDoor
open Go.RowKit Go.Shelf
theorem run_append_at {P : Program} {t e : TypeId} {sz : Nat} (E : ElemT P t e sz) (w : World) (base : Nat) (ty : TypeId) (v : Value) (n : Nat) (xs : List Value) (hown : w.ownsRow base e sz v n xs) (x : Value) (m : Nat) (news : List Value) (hx : Cells w x sz m news) (h1 : ∀ u ∈ news, u.oneCell' = true)
   (hn : n + m ≤ 1000000000) (hbase : base ≤ w.heap.size) :
   ∃ v' w', (Builtin.append_ #[t, t] ty #[v, x]).run P w = .ok v' w' ∧ w'.ownsRow base e sz v' (n + m) (xs ++ news) ∧ w.grownBy w' v.ownBlock ∧ (v'.ownBlock = v.ownBlock ∨ v'.ownBlock = some w.heap.size) := by
 obtain ⟨i, z, bytes, h2, h3, h4, h5, h6, h7⟩ := E.info
 rcases hx.2 with ⟨rfl, a, c, rfl⟩ | ⟨b, o, c, rfl, hx2⟩
 · have hnn : news = [] := List.eq_nil_of_length_eq_zero (by have := hx.1; omega)
   subst hnn
   obtain ⟨bs, sl, sc, rfl, hle⟩ : ∃ bs sl sc, v = .slice bs sl sc ∧ sl ≤ sc := by
     rcases hown.2 with ⟨rfl, _⟩ | ⟨g, cap, cur, rfl, _, _, hc, _⟩
     · exact ⟨_, _, _, rfl, Nat.le_refl _⟩
     · exact ⟨_, _, _, rfl, hc⟩
   have hs : Src P i.size t (.slice a 0 c) 0 [] w := by
     cases a with
     | none => exact Src.ofNil w E.und c
     | some a => exact Src.ofSlice w E.und a 0 c [] (by simp) (fun j u h => by simp at h) (fun u h => by cases h)
   exact ⟨_, _, run_append_nothing w t t ty e i E.und h2 bs sl sc hle _ hs, by simpa using hown, grown_refl _ _, .inl rfl⟩
 · have hb : (n + m) * bytes ≤ (n + m) * 128 := Nat.mul_le_mul_left _ h7
   obtain ⟨v', w', hr, h8, h9, _, h10⟩ := run_append_own_at (P := P) w base t ty e i z sz bytes E.und h2 h3 h4 h5 h6 E.pos v n xs hown ⟨b, o, none⟩ m c news hx.1
     (fun j u hj => by rw [show ((⟨b, o, none⟩ : Addr).add j) = ⟨b, o + j, none⟩ by unfold Addr.add; split <;> simp_all]; exact hx2 j u hj) h1 (by unfold maxLen; omega) (by omega) hbase
   exact ⟨v', w', hr, h8, h9, h10⟩
theorem wpList_append_at {P : Program} {ops : Array Oper} {rest : List Oper} {o : Oper} {a : Act} {w : World} {Q : Exit → Act → World → Prop} (hwd : Region.wanted o (yielded ops a.tmps) = true) (s x : Operand) {t e : TypeId} {sz : Nat}
   (ho : o.op = .call { callee := .builtin .append, args := #[s, x], argTypes := #[t, t] }) (E : ElemT P t e sz) (base : Nat) (v : Value) (n : Nat) (xs : List Value) (hs : a.eval s = v) (hown : w.ownsRow base e sz v n xs) (y : Value) (m : Nat) (news : List Value) (hy : a.eval x = y) (hx : Cells w y sz m news)
   (h1 : ∀ u ∈ news, u.oneCell' = true) (hn : n + m ≤ 1000000000) (hbase : base ≤ w.heap.size)
   (h : ∀ v' w', w'.ownsRow base e sz v' (n + m) (xs ++ news) → w.grownBy w' v.ownBlock → (v'.ownBlock = v.ownBlock ∨ v'.ownBlock = some w.heap.size) → wpList P ops Q rest (a.put o.dst v') w') :
   wpList P ops Q (o :: rest) a w := by
 refine wpList_step fun K hK => ?_
 rw [if_pos hwd]
 obtain ⟨v', w', hr, h2, h3, h4⟩ := run_append_at E w base o.type v n xs hown y m news hx h1 hn hbase
 unfold Oper.wp execOp
 simp only [ho, resolve, invoke, builtin, Sem.run_bind, Sem.run_pure, Result.andThen_ok, List.map_toArray, List.map_cons, List.map_nil, hs, hy, hr]
 exact hK _ _ (h v' w' h2 h3 h4)
def partCells (ps : List (Int × Int)) : List Value := ps.flatMap fun p => [.int .i64 p.1, .int .i64 p.2]
def OutE (X : Nat → Prop) (p : EnX) : Prop := ∀ b, p.2.ownBlock = some b → p.1.b.events ≠ [] → ¬ X b
theorem evs_block {w : World} {v : Value} {es : List Evt.Event} (h : Evs w v es) {b : Nat} (hb : v.ownBlock = some b) (hne : es ≠ []) : b < w.heap.size := by
 rcases h.2 with ⟨h0, a, c, rfl⟩ | ⟨b', o, c, rfl, h2⟩
 · exact absurd (List.eq_nil_of_length_eq_zero h0) hne
 · simp only [Value.ownBlock, Option.some.injEq] at hb
   subst hb
   cases es with
   | nil => exact absurd rfl hne
   | cons e es => exact World.block_lt_of_cell? _ _ (h2 0 (.string ⟨e.kind.toArray⟩) rfl)
theorem evs_turn {T : Nat → Prop} {w w' : World} {p : EnX} (h : Evs w p.2 p.1.b.events) (ho : OutE T p) (ht : Turn T w w') : Evs w' p.2 p.1.b.events := by
 refine ⟨h.1, ?_⟩
 rcases h.2 with ⟨h0, a, c, e⟩ | ⟨b, o, c, e, h2⟩
 · exact .inl ⟨h0, a, c, e⟩
 · refine .inr ⟨b, o, c, e, fun j u hj => ?_⟩
   have hne : p.1.b.events ≠ [] := fun h0 => by rw [h0] at hj; simp [evCells] at hj
   have hc := h2 j u hj
   rw [World.cell?_of_block (w := w) (w' := w') (ht.block b (World.block_lt_of_cell? _ _ hc) (ho b (by rw [e]; rfl) hne))]
   exact hc
theorem OutE.step {X X' : Nat → Prop} {w : World} {p : EnX} (ho : OutE X p) (h : Evs w p.2 p.1.b.events) (hX : ∀ j, X' j → X j ∨ w.heap.size ≤ j) : OutE X' p := by
 intro b hb hne hx
 rcases hX b hx with h1 | h1
 · exact ho b hb hne h1
 · have := evs_block h hb hne; omega
structure Apart (X : Nat → Prop) (w : World) (v : Value) (qs : List EnX) : Prop where
 ents : Ents w v qs
 row : ∀ b, v.ownBlock = some b → qs ≠ [] → ¬ X b
 out : ∀ p ∈ qs, OutE X p
theorem enCells_ne {qs : List EnX} {j : Nat} {u : Value} (h : (enCells qs)[j]? = some u) : qs ≠ [] := fun h0 => by rw [h0] at h; simp [enCells] at h
theorem ents_block {w : World} {v : Value} {qs : List EnX} (h : Ents w v qs) {b : Nat} (hb : v.ownBlock = some b) (hne : qs ≠ []) : b < w.heap.size := by
 rcases h.1.2 with ⟨h0, a, c, rfl⟩ | ⟨b', o, c, rfl, h2⟩
 · exact absurd (List.eq_nil_of_length_eq_zero h0) hne
 · simp only [Value.ownBlock, Option.some.injEq] at hb
   subst hb
   cases qs with
   | nil => exact absurd rfl hne
   | cons e es => exact World.block_lt_of_cell? _ _ (h2 0 (.int .i64 e.1.pos) rfl)
theorem Apart.step {X X' : Nat → Prop} {w w' : World} {v : Value} {qs : List EnX} (h : Apart X w v qs) (ht : Turn X w w') (hX : ∀ j, X' j → X j ∨ w.heap.size ≤ j) : Apart X' w' v qs := by
 refine ⟨⟨⟨h.ents.1.1, ?_⟩, fun p hp => ⟨evs_turn (h.ents.2 p hp).1 (h.out p hp) ht, (h.ents.2 p hp).2⟩⟩, fun b hb hne hx => ?_, fun p hp => (h.out p hp).step (h.ents.2 p hp).1 hX⟩
 · rcases h.ents.1.2 with ⟨h0, a, c, e⟩ | ⟨b, o, c, e, h2⟩
   · exact .inl ⟨h0, a, c, e⟩
   · refine .inr ⟨b, o, c, e, fun j u hj => ?_⟩
     have hc := h2 j u hj
     rw [World.cell?_of_block (w := w) (w' := w') (ht.block b (World.block_lt_of_cell? _ _ hc) (h.row b (by rw [e]; rfl) (enCells_ne hj)))]
     exact hc
 · rcases hX b hx with h1 | h1
   · exact h.row b hb hne h1
   · have := ents_block h.ents hb hne; omega
theorem Apart.next {X : Nat → Prop} {w w' : World} {v : Value} {qs : List EnX} (h : Apart X w v qs) (hb : Below w.heap.size w w') : Apart X w' v qs := h.step (Turn.of_below hb) (fun _ h => .inl h)
structure Lay (a : World) (lg d : Nat) (room : Int) (s : Lg.S) (fs : List Dk.File) (T X ft : Nat → Prop) (pv ev : Value) (ps : List EnX) (w : World) : Prop where
 disk : IsDisk w d room fs ft
 base : Base a w T
 lt : ∀ j, X j → j < w.heap.size
 sub : ∀ j, ft j → T j
 subX : ∀ j, T j → X j
 log : w.heap[lg]? = some (.cells #[.pointer (some ⟨d, 0, none⟩), .int .i64 s.next, pv, ev] 162 (0, 0))
 parts : w.ownsRow a.heap.size 169 2 pv s.parts.length (partCells s.parts)
 ents : w.ownsRow a.heap.size 40 7 ev ps.length (enCells ps)
 plain : plainE ps = s.es
 evs : ∀ p ∈ ps, Evs w p.2 p.1.b.events ∧ Fine p.1 ∧ OutE X p
 tl : T lg ∧ ¬ ft lg
 tp : ∀ b, pv.ownBlock = some b → T b ∧ ¬ ft b ∧ b ≠ lg
 te : ∀ b, ev.ownBlock = some b → T b ∧ ¬ ft b ∧ b ≠ lg
 ne : ∀ b, pv.ownBlock = some b → ev.ownBlock ≠ some b
def LAt (a : World) (lg d : Nat) (room : Int) (s : Lg.S) (fs : List Dk.File) (T X : Nat → Prop) (w : World) : Prop := ∃ ft pv ev ps, Lay a lg d room s fs T X ft pv ev ps w
def LStep (a : World) (lg d : Nat) (room : Int) (s : Lg.S) (fs : List Dk.File) (T X : Nat → Prop) (w w' : World) : Prop :=
 ∃ T', LAt a lg d room s fs T' (fun j => X j ∨ T' j) w' ∧ (∀ j, T j → T' j) ∧ (∀ j, T' j → T j ∨ w.heap.size ≤ j) ∧ Turn T w w'
variable {a w w' : World} {lg d : Nat} {room : Int} {s s' : Lg.S} {fs fs' : List Dk.File} {T X ft : Nat → Prop} {pv ev pv' ev' : Value} {ps ps' : List EnX}
theorem owns_turn {base sz n : Nat} {e : TypeId} {v : Value} {xs : List Value} (h : w.ownsRow base e sz v n xs) (hf : ∀ b, v.ownBlock = some b → ¬ T b) (ht : Turn T w w') : w'.ownsRow base e sz v n xs := by
 refine ⟨h.1, ?_⟩
 rcases h.2 with h | ⟨g, cap, cur, rfl, hg, hw, hr⟩
 · exact .inl h
 · refine .inr ⟨g, cap, cur, rfl, hg, ?_, hr⟩
   rw [ht.block g (Array.getElem?_eq_some_iff.1 hw).1 (hf g rfl)]; exact hw
theorem Lay.other {f2 : Nat → Prop} (h : Lay a lg d room s fs T X ft pv ev ps w) (ht : Turn f2 w w') (hb : Base a w' T) (hd : ∀ j, T j → ¬ f2 j) (hX : ∀ j, f2 j → X j) : Lay a lg d room s fs T X ft pv ev ps w' :=
 ⟨h.disk.other ht (fun j hj => hd j (h.sub j hj)), hb, fun j hj => Nat.lt_of_lt_of_le (h.lt j hj) ht.size, h.sub, h.subX,
   (ht.block lg (Array.getElem?_eq_some_iff.1 h.log).1 (hd lg h.tl.1)).trans h.log, owns_turn h.parts (fun b hb => hd b (h.tp b hb).1) ht, owns_turn h.ents (fun b hb => hd b (h.te b hb).1) ht, h.plain,
   fun p hp => ⟨evs_turn (h.evs p hp).1 (fun b hb hne hf => (h.evs p hp).2.2 b hb hne (hX b hf)) ht, (h.evs p hp).2⟩, h.tl, h.tp, h.te, h.ne⟩
theorem Lay.next (h : Lay a lg d room s fs T X ft pv ev ps w) (hb : Below w.heap.size w w') : Lay a lg d room s fs T X ft pv ev ps w' :=
 h.other (f2 := fun _ => False) (Turn.of_below hb) (h.base.next hb) (fun _ _ h => h) (fun _ h => h.elim)
theorem Lay.wide {X' : Nat → Prop} (h : Lay a lg d room s fs T X ft pv ev ps w) (h1 : ∀ j, X' j → X j) (h2 : ∀ j, T j → X' j) : Lay a lg d room s fs T X' ft pv ev ps w :=
 ⟨h.disk, h.base, fun j hj => h.lt j (h1 j hj), h.sub, h2, h.log, h.parts, h.ents, h.plain, fun p hp => ⟨(h.evs p hp).1, (h.evs p hp).2.1, fun b hb hne hx => (h.evs p hp).2.2 b hb hne (h1 b hx)⟩, h.tl, h.tp, h.te, h.ne⟩
theorem Lay.env (h : Lay a lg d room s fs T X ft pv ev ps w) : Env w := h.base.envW
theorem Lay.baseD (h : Lay a lg d room s fs T X ft pv ev ps w) : Base a w ft := ⟨h.base.env, h.base.below, fun j hj => h.base.out j (h.sub j hj)⟩
theorem Lay.cells (h : Lay a lg d room s fs T X ft pv ev ps w) : w.cell? ⟨lg, 0, none⟩ = some (.pointer (some ⟨d, 0, none⟩)) ∧ w.cell? ⟨lg, 1, none⟩ = some (.int .i64 s.next) ∧ w.cell? ⟨lg, 2, none⟩ = some pv ∧ w.cell? ⟨lg, 3, none⟩ = some ev := by
 refine ⟨?_, ?_, ?_, ?_⟩ <;> (rw [Lib.cell_of_heap h.log]; rfl)
theorem Lay.frozen (h : Lay a lg d room s fs T X ft pv ev ps w) : ∀ i, w.frozen? ⟨lg, i, none⟩ = false := fun i => Lib.frozen_of_heap h.log i
theorem Lay.entsE (h : Lay a lg d room s fs T X ft pv ev ps w) : Ents w ev ps := ⟨cells_of_owns h.ents, fun p hp => ⟨(h.evs p hp).1, (h.evs p hp).2.1⟩⟩
theorem Lay.len (h : Lay a lg d room s fs T X ft pv ev ps w) : ps.length = s.es.length := by rw [← h.plain]; simp [plainE]
theorem Lay.disked (h : Lay a lg d room s fs T X ft pv ev ps w) (hd : DStep d room fs' ft w w') :
   ∃ T' ft', Lay a lg d room s fs' T' (fun j => X j ∨ T' j) ft' pv ev ps w' ∧ (∀ j, T j → T' j) ∧ (∀ j, T' j → T j ∨ w.heap.size ≤ j) ∧ Turn T w w' ∧ (∀ j, ft' j → ft j ∨ w.heap.size ≤ j) := by
 obtain ⟨g, q1, q2, q3, q4⟩ := hd.open
 have hT : Turn T w w' := q4.wide h.sub
 have hg : ∀ j, (T j ∨ g j) → T j ∨ w.heap.size ≤ j := fun j hj => by
   rcases hj with hj | hj
   · exact .inl hj
   · rcases q2 j hj with h1 | h1
     · exact .inl (h.sub j h1)
     · exact .inr h1
 have hlt : ∀ j, T j → j < w.heap.size := fun j hj => h.lt j (h.subX j hj)
 have hgn : ∀ j, j < w.heap.size → ¬ ft j → ¬ g j := fun j h1 h2 h3 => by
   rcases q2 j h3 with h4 | h4
   · exact h2 h4
   · omega
 have hX : ∀ j, (X j ∨ T j ∨ g j) → X j ∨ w.heap.size ≤ j := fun j hj => by
   rcases hj with hj | hj
   · exact .inl hj
   · rcases hg j hj with h1 | h1
     · exact .inl (h.subX j h1)
     · exact .inr h1
 refine ⟨fun j => T j ∨ g j, g, ⟨q1, h.base.turn hT hg, fun j hj => ?_, fun j hj => .inr hj, fun j hj => .inr hj, (q4.block lg (hlt lg h.tl.1) h.tl.2).trans h.log,
   owns_turn h.parts (fun b hb => (h.tp b hb).2.1) q4, owns_turn h.ents (fun b hb => (h.te b hb).2.1) q4, h.plain, fun p hp => ⟨evs_turn (h.evs p hp).1 (fun b hb hne hf => (h.evs p hp).2.2 b hb hne (h.subX b (h.sub b hf))) q4, (h.evs p hp).2.1, (h.evs p hp).2.2.step (h.evs p hp).1 hX⟩,
   ⟨.inl h.tl.1, hgn lg (hlt lg h.tl.1) h.tl.2⟩, fun b hb => ?_, fun b hb => ?_, h.ne⟩, fun j hj => .inl hj, hg, hT, q2⟩
 · rcases hj with hj | hj | hj
   · exact Nat.lt_of_lt_of_le (h.lt j hj) q4.size
   · exact Nat.lt_of_lt_of_le (hlt j hj) q4.size
   · exact q3 j hj
 · obtain ⟨h1, h2, h3⟩ := h.tp b hb
   exact ⟨.inl h1, hgn b (hlt b h1) h2, h3⟩
 · obtain ⟨h1, h2, h3⟩ := h.te b hb
   exact ⟨.inl h1, hgn b (hlt b h1) h2, h3⟩
theorem Lay.put (h : Lay a lg d room s fs T X ft pv ev ps w) (hT : Turn (fun j => T j ∧ ¬ ft j) w w')
   (hlog : w'.heap[lg]? = some (.cells #[.pointer (some ⟨d, 0, none⟩), .int .i64 s'.next, pv', ev'] 162 (0, 0)))
   (hp : w'.ownsRow a.heap.size 169 2 pv' s'.parts.length (partCells s'.parts)) (he : w'.ownsRow a.heap.size 40 7 ev' ps'.length (enCells ps')) (hpl : plainE ps' = s'.es)
   (hev : ∀ p ∈ ps', Evs w p.2 p.1.b.events ∧ Fine p.1 ∧ OutE X p)
   (bp : ∀ b, pv'.ownBlock = some b → (T b ∧ ¬ ft b ∧ b ≠ lg) ∨ w.heap.size ≤ b) (be : ∀ b, ev'.ownBlock = some b → (T b ∧ ¬ ft b ∧ b ≠ lg) ∨ w.heap.size ≤ b) (hne : ∀ b, pv'.ownBlock = some b → ev'.ownBlock ≠ some b) :
   ∃ T', Lay a lg d room s' fs T' (fun j => X j ∨ T' j) (fun j => ft j ∧ j < w.heap.size) pv' ev' ps' w' ∧ (∀ j, T j → T' j) ∧ (∀ j, T' j → T j ∨ w.heap.size ≤ j) ∧ Turn T w w' := by
 have hT2 : Turn T w w' := hT.wide (fun j hj => hj.1)
 have hlt : ∀ j, T j → j < w.heap.size := fun j hj => h.lt j (h.subX j hj)
 have hg : ∀ j, (T j ∨ (w.heap.size ≤ j ∧ j < w'.heap.size)) → T j ∨ w.heap.size ≤ j := fun j hj => by
   rcases hj with hj | hj
   · exact .inl hj
   · exact .inr hj.1
 have hX : ∀ j, (X j ∨ T j ∨ (w.heap.size ≤ j ∧ j < w'.heap.size)) → X j ∨ w.heap.size ≤ j := fun j hj => by
   rcases hj with hj | hj
   · exact .inl hj
   · rcases hg j hj with h1 | h1
     · exact .inl (h.subX j h1)
     · exact .inr h1
 have hll := hlt lg h.tl.1
 refine ⟨fun j => T j ∨ (w.heap.size ≤ j ∧ j < w'.heap.size), ⟨h.disk.narrow.other hT (fun j hj hn => hn.2 hj.1), h.base.turn hT2 hg, fun j hj => ?_, fun j hj => .inl (h.sub j hj.1), fun j hj => .inr hj, hlog, hp, he, hpl,
   fun p hp' => ⟨evs_turn (hev p hp').1 (fun b hb hn hf => (hev p hp').2.2 b hb hn (h.subX b hf)) hT2, (hev p hp').2.1, (hev p hp').2.2.step (hev p hp').1 hX⟩, ⟨.inl h.tl.1, fun hf => h.tl.2 hf.1⟩, fun b hb => ?_, fun b hb => ?_, hne⟩, fun j hj => .inl hj, hg, hT2⟩
 · rcases hj with hj | hj | hj
   · exact Nat.lt_of_lt_of_le (h.lt j hj) hT.size
   · exact Nat.lt_of_lt_of_le (hlt j hj) hT.size
   · exact hj.2
 · rcases bp b hb with h1 | h1
   · obtain ⟨q1, q2, q3⟩ := h1
     exact ⟨.inl q1, fun hf => q2 hf.1, q3⟩
   · exact ⟨.inr ⟨h1, (hp.lt b hb).2⟩, fun hf => by omega, fun e => by omega⟩
 · rcases be b hb with h1 | h1
   · obtain ⟨q1, q2, q3⟩ := h1
     exact ⟨.inl q1, fun hf => q2 hf.1, q3⟩
   · exact ⟨.inr ⟨h1, (he.lt b hb).2⟩, fun hf => by omega, fun e => by omega⟩
theorem LAt.next (h : LAt a lg d room s fs T X w) (hb : Below w.heap.size w w') : LAt a lg d room s fs T X w' := by
 obtain ⟨ft, pv, ev, ps, h⟩ := h; exact ⟨ft, pv, ev, ps, h.next hb⟩
theorem LAt.env (h : LAt a lg d room s fs T X w) : Env w := by obtain ⟨ft, pv, ev, ps, h⟩ := h; exact h.env
theorem LAt.subX (h : LAt a lg d room s fs T X w) : ∀ j, T j → X j := by obtain ⟨ft, pv, ev, ps, h⟩ := h; exact h.subX
theorem LAt.lt (h : LAt a lg d room s fs T X w) : ∀ j, X j → j < w.heap.size := by obtain ⟨ft, pv, ev, ps, h⟩ := h; exact h.lt
theorem LAt.below (h : LAt a lg d room s fs T X w) : Below a.heap.size a w := by obtain ⟨ft, pv, ev, ps, h⟩ := h; exact h.base.below
theorem LAt.wide {X' : Nat → Prop} (h : LAt a lg d room s fs T X w) (h1 : ∀ j, X' j → X j) (h2 : ∀ j, T j → X' j) : LAt a lg d room s fs T X' w := by
 obtain ⟨ft, pv, ev, ps, h⟩ := h; exact ⟨ft, pv, ev, ps, h.wide h1 h2⟩
theorem LStep.of {ft' : Nat → Prop} (h : ∃ T', Lay a lg d room s' fs' T' (fun j => X j ∨ T' j) ft' pv' ev' ps' w' ∧ (∀ j, T j → T' j) ∧ (∀ j, T' j → T j ∨ w.heap.size ≤ j) ∧ Turn T w w') : LStep a lg d room s' fs' T X w w' := by
 obtain ⟨T', h1, h2, h3, h4⟩ := h
 exact ⟨T', ⟨_, _, _, _, h1⟩, h2, h3, h4⟩
theorem LStep.refl (h : LAt a lg d room s fs T X w) (hb : Below w.heap.size w w') : LStep a lg d room s fs T X w w' :=
 ⟨T, (h.next hb).wide (fun j hj => by rcases hj with hj | hj; exact hj; exact h.subX j hj) (fun j hj => .inr hj), fun _ h => h, fun _ h => .inl h, Turn.of_below hb⟩
theorem LStep.under {w1 : World} (hb : Below w.heap.size w w1) (h : LStep a lg d room s fs T X w1 w') : LStep a lg d room s fs T X w w' := by
 obtain ⟨T', h1, h2, h3, h4⟩ := h
 have := hb.size
 exact ⟨T', h1, h2, fun j hj => by rcases h3 j hj with h | h; exact .inl h; exact .inr (by omega), (Turn.of_below hb).trans h4 (fun j hj => .inl hj)⟩
theorem LStep.trans {s2 : Lg.S} {f2 : List Dk.File} {T1 : Nat → Prop} {w1 w2 : World} (ht : Turn T w w1) (hm : ∀ j, T j → T1 j) (hf : ∀ j, T1 j → T j ∨ w.heap.size ≤ j) (h2 : LStep a lg d room s2 f2 T1 (fun j => X j ∨ T1 j) w1 w2) : LStep a lg d room s2 f2 T X w w2 := by
 obtain ⟨T2, q1, q2, q3, q4⟩ := h2
 refine ⟨T2, q1.wide (fun j hj => ?_) (fun j hj => .inr hj), fun j hj => q2 j (hm j hj), fun j hj => ?_, ht.trans q4 hf⟩
 · rcases hj with hj | hj
   · exact .inl (.inl hj)
   · exact .inr hj
 · rcases q3 j hj with h | h
   · exact hf j h
   · exact .inr (Nat.le_trans ht.size h)
end Go.Proofs.YtgddgipjpdjoaaaGreatDoor
namespace Go.Proofs.YtgddgipjpdjoaaaGreatDoor
open Go.RowKit Go.Shelf
theorem step_append_at {P : Program} {ops : Array Oper} {o : Oper} {a : Act} {w : World} {K : Act → World → Prop} {Q : Exit → Act → World → Prop} {EE : Prop} (hwd : Region.wanted o (yielded ops a.tmps) = true) (s x : Operand) {t e : TypeId} {sz : Nat}
   (ho : o.op = .call { callee := .builtin .append, args := #[s, x], argTypes := #[t, t] }) (E : ElemT P t e sz) (base : Nat) (v : Value) (n : Nat) (xs : List Value) (hs : a.eval s = v) (hown : w.ownsRow base e sz v n xs) (y : Value) (m : Nat) (news : List Value) (hy : a.eval x = y) (hx : Cells w y sz m news)
   (h1 : ∀ u ∈ news, u.oneCell' = true) (hn : n + m ≤ 1000000000) (hbase : base ≤ w.heap.size)
   (h : ∀ v' w', w'.ownsRow base e sz v' (n + m) (xs ++ news) → w.grownBy w' v.ownBlock → (v'.ownBlock = v.ownBlock ∨ v'.ownBlock = some w.heap.size) → K (a.put o.dst v') w') :
   if Region.wanted o (yielded ops a.tmps) = true then Oper.wp P o a w K Q else EE := by
 rw [if_pos hwd]
 obtain ⟨v', w', hr, h2, h3, h4⟩ := run_append_at E w base o.type v n xs hown y m news hx h1 hn hbase
 unfold Oper.wp execOp
 simp only [ho, resolve, invoke, builtin, Sem.run_bind, Sem.run_pure, Result.andThen_ok, List.map_toArray, List.map_cons, List.map_nil, hs, hy, hr]
 exact h _ _ h2 h3 h4
theorem Turn.of_grownO {f : Nat → Prop} {w w' : World} {r : Option Nat} (h : w.grownBy w' r) (hf : ∀ b, r = some b → f b) : Turn f w w' :=
 ⟨h.os, h.tape, h.output, h.size, fun j hj hn => h.block j hj (fun e => hn (hf j e.symm))⟩
theorem partCells_append (a b : List (Int × Int)) : partCells (a ++ b) = partCells a ++ partCells b := by simp [partCells]
theorem plainE_cat (ps ms : List EnX) : plainE (ps ++ ms) = plainE ps ++ plainE ms := by simp [plainE]
variable {a w w' : World} {lg d : Nat} {room : Int} {s s' : Lg.S} {fs fs' : List Dk.File} {T X ft : Nat → Prop} {pv ev pv' ev' : Value} {ps ps' : List EnX}
theorem Lay.logLt (h : Lay a lg d room s fs T X ft pv ev ps w) : lg < w.heap.size := (Array.getElem?_eq_some_iff.1 h.log).1
theorem LStep.of2 (h : ∃ T' ft', Lay a lg d room s' fs' T' (fun j => X j ∨ T' j) ft' pv' ev' ps' w' ∧ (∀ j, T j → T' j) ∧ (∀ j, T' j → T j ∨ w.heap.size ≤ j) ∧ Turn T w w') : LStep a lg d room s' fs' T X w w' := by
 obtain ⟨T', ft', h1, h2⟩ := h
 exact LStep.of ⟨T', h1, h2⟩
theorem Lay.more (h : Lay a lg d room s fs T X ft pv ev ps w) (hb : Below w.heap.size w w') :
   ∃ T', Lay a lg d room s fs T' (fun j => X j ∨ T' j) ft pv ev ps w' ∧ (∀ j, T j → T' j) ∧ (∀ j, T' j → T j ∨ w.heap.size ≤ j) ∧ Turn T w w' ∧ (∀ j, w.heap.size ≤ j → j < w'.heap.size → T' j ∧ ¬ ft j ∧ j ≠ lg) := by
 have hx : ∀ j, (X j ∨ T j ∨ (w.heap.size ≤ j ∧ j < w'.heap.size)) → X j ∨ w.heap.size ≤ j := fun j hj => by
   rcases hj with hj | hj | hj
   · exact .inl hj
   · exact .inl (h.subX j hj)
   · exact .inr hj.1
 have hT : Turn T w w' := Turn.of_below hb
 have hlg := h.logLt
 refine ⟨fun j => T j ∨ (w.heap.size ≤ j ∧ j < w'.heap.size), ⟨h.disk.next hb, h.base.turn hT (fun j hj => hj.imp id (·.1)), fun j hj => ?_, fun j hj => .inl (h.sub j hj), fun j hj => .inr hj, heap_kept hb (Nat.le_refl _) h.log, owns_next h.parts hb, owns_next h.ents hb, h.plain,
   fun p hp => ⟨Cells.next (h.evs p hp).1 hb, (h.evs p hp).2.1, (h.evs p hp).2.2.step (h.evs p hp).1 hx⟩, ⟨.inl h.tl.1, h.tl.2⟩, fun b hb' => ⟨.inl (h.tp b hb').1, (h.tp b hb').2⟩, fun b hb' => ⟨.inl (h.te b hb').1, (h.te b hb').2⟩, h.ne⟩,
   fun j hj => .inl hj, fun j hj => hj.imp id (·.1), hT, fun j h1 h2 => ⟨.inr ⟨h1, h2⟩, fun hf => ?_, fun e => by omega⟩⟩
 · rcases hj with hj | hj | hj
   · exact Nat.lt_of_lt_of_le (h.lt j hj) hb.size
   · exact Nat.lt_of_lt_of_le (h.lt j (h.subX j hj)) hb.size
   · exact hj.2
 · have := h.lt j (h.subX j (h.sub j hf)); omega
theorem Lay.partsPut {v' : Value} {wa : World} {n f : Int} (h : Lay a lg d room s fs T X ft pv ev ps w) (hown : wa.ownsRow a.heap.size 169 2 v' (s.parts.length + 1) (partCells s.parts ++ [.int .i64 n, .int .i64 f])) (hg : w.grownBy wa pv.ownBlock) (hb : v'.ownBlock = pv.ownBlock ∨ v'.ownBlock = some w.heap.size) :
   wa.heap[lg]? = w.heap[lg]? ∧ ∃ T' ft', Lay a lg d room ⟨s.next, s.parts ++ [(n, f)], s.es⟩ fs T' (fun j => X j ∨ T' j) ft' v' ev ps (wa.setCell ⟨lg, 2, none⟩ v') ∧ (∀ j, T j → T' j) ∧ (∀ j, T' j → T j ∨ w.heap.size ≤ j) ∧ Turn T w (wa.setCell ⟨lg, 2, none⟩ v') := by
 have hlg := h.logLt
 have t1 : Turn (fun j => pv.ownBlock = some j) w wa := Turn.of_grownO hg (fun b e => e)
 have t2 : Turn (fun j => j = lg) wa (wa.setCell ⟨lg, 2, none⟩ v') := Turn.of_grownO (grown_set wa lg 2 v') (fun b e => by cases e; rfl)
 have hl : wa.heap[lg]? = w.heap[lg]? := t1.block lg hlg (fun e => (h.tp lg e).2.2 rfl)
 have hlog := setCell_at (i := 2) (hl.trans h.log) v'
 have hbl : ∀ b, v'.ownBlock = some b → (T b ∧ ¬ ft b ∧ b ≠ lg) ∨ w.heap.size ≤ b := fun b e => by
   rcases hb with hb | hb
   · exact .inl (h.tp b (by rw [← hb]; exact e))
   · rw [hb] at e; cases e; exact .inr (Nat.le_refl _)
 refine ⟨hl, ?_⟩
 obtain ⟨T', q1, q2, q3, q4⟩ := h.put (s' := ⟨s.next, s.parts ++ [(n, f)], s.es⟩) (pv' := v') (ev' := ev) (ps' := ps) (w' := wa.setCell ⟨lg, 2, none⟩ v')
   ((t1.wide (fun j e => ⟨(h.tp j e).1, (h.tp j e).2.1⟩)).trans (t2.wide (f2 := fun j => T j ∧ ¬ ft j) (fun j e => by subst e; exact h.tl)) (fun j hj => .inl hj)) hlog
   (owns_turn (by rw [partCells_append]; simpa [partCells] using hown) (fun b e e2 => by subst e2; rcases hbl _ e with q | q; exact q.2.2 rfl; omega) t2)
   (owns_turn (owns_turn h.ents (fun b e e2 => h.ne b e2 e) t1) (fun b e e2 => (h.te b e).2.2 e2) t2) h.plain h.evs hbl (fun b e => .inl (h.te b e))
   (fun b e e2 => by
     rcases hb with hb | hb
     · exact h.ne b (by rw [← hb]; exact e) e2
     · rw [hb] at e; cases e
       have := h.lt _ (h.subX _ (h.te _ e2).1); omega)
 exact ⟨T', _, q1, q2, q3, q4⟩
theorem Lay.entsPut {v' : Value} {wa : World} {qs : List EnX} (h : Lay a lg d room s fs T X ft pv ev ps w) (hq : ∀ p ∈ qs, Evs w p.2 p.1.b.events ∧ Fine p.1 ∧ OutE X p) (hown : wa.ownsRow a.heap.size 40 7 v' (ps.length + qs.length) (enCells ps ++ enCells qs)) (hg : w.grownBy wa ev.ownBlock) (hb : v'.ownBlock = ev.ownBlock ∨ v'.ownBlock = some w.heap.size) :
   wa.heap[lg]? = w.heap[lg]? ∧ ∃ T' ft', Lay a lg d room (s.plus (plainE qs)) fs T' (fun j => X j ∨ T' j) ft' pv v' (ps ++ qs) (wa.setCell ⟨lg, 3, none⟩ v') ∧ (∀ j, T j → T' j) ∧ (∀ j, T' j → T j ∨ w.heap.size ≤ j) ∧ Turn T w (wa.setCell ⟨lg, 3, none⟩ v') := by
 have hlg := h.logLt
 have t1 : Turn (fun j => ev.ownBlock = some j) w wa := Turn.of_grownO hg (fun b e => e)
 have t2 : Turn (fun j => j = lg) wa (wa.setCell ⟨lg, 3, none⟩ v') := Turn.of_grownO (grown_set wa lg 3 v') (fun b e => by cases e; rfl)
 have hl : wa.heap[lg]? = w.heap[lg]? := t1.block lg hlg (fun e => (h.te lg e).2.2 rfl)
 have hlog := setCell_at (i := 3) (hl.trans h.log) v'
 have hbl : ∀ b, v'.ownBlock = some b → (T b ∧ ¬ ft b ∧ b ≠ lg) ∨ w.heap.size ≤ b := fun b e => by
   rcases hb with hb | hb
   · exact .inl (h.te b (by rw [← hb]; exact e))
   · rw [hb] at e; cases e; exact .inr (Nat.le_refl _)
 refine ⟨hl, ?_⟩
 obtain ⟨T', q1, q2, q3, q4⟩ := h.put (s' := s.plus (plainE qs)) (pv' := pv) (ev' := v') (ps' := ps ++ qs) (w' := wa.setCell ⟨lg, 3, none⟩ v')
   ((t1.wide (fun j e => ⟨(h.te j e).1, (h.te j e).2.1⟩)).trans (t2.wide (f2 := fun j => T j ∧ ¬ ft j) (fun j e => by subst e; exact h.tl)) (fun j hj => .inl hj)) hlog
   (owns_turn (owns_turn h.parts (fun b e e2 => h.ne b e e2) t1) (fun b e e2 => (h.tp b e).2.2 e2) t2)
   (owns_turn (by rw [enCells_append, List.length_append]; exact hown) (fun b e e2 => by subst e2; rcases hbl _ e with q | q; exact q.2.2 rfl; omega) t2) (by rw [plainE_cat, h.plain]; rfl)
   (fun p hp => by rcases List.mem_append.1 hp with hp | hp; exact h.evs p hp; exact hq p hp) (fun b e => .inl (h.tp b e)) hbl
   (fun b e e2 => by
     rcases hb with hb | hb
     · exact h.ne b e (by rw [← hb]; exact e2)
     · rw [hb] at e2; cases e2
       have := h.lt _ (h.subX _ (h.tp _ e).1); omega)
 exact ⟨T', _, q1, q2, q3, q4⟩
structure LMid (a : World) (lg d : Nat) (room : Int) (T X : Nat → Prop) (w : World) (s : Lg.S) (fs : List Dk.File) (T2 ft2 : Nat → Prop) (pv ev : Value) (ps : List EnX) (wx : World) : Prop where
 lay : Lay a lg d room s fs T2 (fun j => X j ∨ T2 j) ft2 pv ev ps wx
 mono : ∀ j, T j → T2 j
 new : ∀ j, T2 j → T j ∨ w.heap.size ≤ j
 turn : Turn T w wx
variable {T2 ft2 : Nat → Prop} {wx wy : World}
theorem LMid.start (h : Lay a lg d room s fs T X ft pv ev ps w) : LMid a lg d room T X w s fs T ft pv ev ps w :=
 ⟨h.wide (fun j hj => by rcases hj with hj | hj; exact hj; exact h.subX j hj) (fun j hj => .inr hj), fun _ h => h, fun _ h => .inl h, Turn.refl _ _⟩
theorem LMid.next (h : LMid a lg d room T X w s fs T2 ft2 pv ev ps wx) (hb : Below wx.heap.size wx wy) : LMid a lg d room T X w s fs T2 ft2 pv ev ps wy :=
 ⟨h.lay.next hb, h.mono, h.new, h.turn.trans (Turn.of_below (ft := T) hb) (fun _ hj => .inl hj)⟩
theorem LMid.of {T3 ft3 : Nat → Prop} (h : LMid a lg d room T X w s fs T2 ft2 pv ev ps wx) (h1 : Lay a lg d room s' fs' T3 (fun j => (X j ∨ T2 j) ∨ T3 j) ft3 pv' ev' ps' wy) (h2 : ∀ j, T2 j → T3 j) (h3 : ∀ j, T3 j → T2 j ∨ wx.heap.size ≤ j) (h4 : Turn T2 wx wy) : LMid a lg d room T X w s' fs' T3 ft3 pv' ev' ps' wy :=
 ⟨h1.wide (fun j hj => by rcases hj with hj | hj; exact .inl (.inl hj); exact .inr hj) (fun j hj => .inr hj), fun j hj => h2 j (h.mono j hj), fun j hj => by
   rcases h3 j hj with q | q
   · exact h.new j q
   · exact .inr (Nat.le_trans h.turn.size q), h.turn.trans h4 h.new⟩
theorem LMid.disked (h : LMid a lg d room T X w s fs T2 ft2 pv ev ps wx) (hd : DStep d room fs' ft2 wx wy) :
   ∃ T3 ft3, LMid a lg d room T X w s fs' T3 ft3 pv ev ps wy ∧ (∀ j, T2 j → T3 j) ∧ (∀ j, ft3 j → ft2 j ∨ wx.heap.size ≤ j) := by
 obtain ⟨T3, ft3, q1, q2, q3, q4, q5⟩ := h.lay.disked hd
 exact ⟨T3, ft3, h.of q1 q2 q3 q4, q2, q5⟩
theorem LMid.disked2 (h : LMid a lg d room T X w s fs T2 ft2 pv ev ps wx) (hd : DStep d room fs' ft2 wx wy) :
   ∃ T3 ft3, LMid a lg d room T X w s fs' T3 ft3 pv ev ps wy ∧ (∀ j, T2 j → T3 j) ∧ (∀ j, T3 j → T2 j ∨ wx.heap.size ≤ j) ∧ Turn T2 wx wy := by
 obtain ⟨T3, ft3, q1, q2, q3, q4, q5⟩ := h.lay.disked hd
 exact ⟨T3, ft3, h.of q1 q2 q3 q4, q2, q3, q4⟩
theorem Apart.mid {T3 : Nat → Prop} {lv : Value} {qs : List EnX} (h : Apart (fun j => X j ∨ T2 j) wx lv qs) (ht : Turn T2 wx wy) (hn : ∀ j, T3 j → T2 j ∨ wx.heap.size ≤ j) : Apart (fun j => X j ∨ T3 j) wy lv qs :=
 h.step (ht.wide (fun j hj => .inr hj)) (fun j hj => by
   rcases hj with hj | hj
   · exact .inl (.inl hj)
   · rcases hn j hj with h | h
     · exact .inl (.inr h)
     · exact .inr h)
theorem LMid.more (h : LMid a lg d room T X w s fs T2 ft2 pv ev ps wx) (hb : Below wx.heap.size wx wy) :
   ∃ T3, LMid a lg d room T X w s fs T3 ft2 pv ev ps wy ∧ (∀ j, T2 j → T3 j) ∧ (∀ j, wx.heap.size ≤ j → j < wy.heap.size → T3 j ∧ ¬ ft2 j ∧ j ≠ lg) := by
 obtain ⟨T3, q1, q2, q3, q4, q5⟩ := h.lay.more hb
 exact ⟨T3, h.of q1 q2 q3 q4, q2, q5⟩
theorem LMid.step (h : LMid a lg d room T X w s fs T2 ft2 pv ev ps wx) : LStep a lg d room s fs T X w wx := ⟨T2, ⟨ft2, pv, ev, ps, h.lay⟩, h.mono, h.new, h.turn⟩
theorem LMid.notF (h : LMid a lg d room T X w s fs T2 ft2 pv ev ps wx) {j : Nat} (hj : wx.heap.size ≤ j) : ¬ ft2 j := fun hf => by
 have := h.lay.lt j (h.lay.subX j (h.lay.sub j hf)); omega
end Go.Proofs.YtgddgipjpdjoaaaGreatDoor
namespace Go.Proofs.YtgddgipjpdjoaaaGreatDoor
open Go.RowKit Go.Shelf
theorem Lg.epochOf_at {es : List Evt.Entry} {e : Evt.Entry} (h : es[es.length - 1]? = some e) : Lg.epochOf es = e.epoch := by
 unfold Lg.epochOf
 rw [Seg.endOf_last, List.getLast?_eq_getElem?, h]
variable {a w w' : World} {lg d : Nat} {room : Int} {s : Lg.S} {fs : List Dk.File} {T X ft : Nat → Prop} {pv ev : Value} {ps : List EnX}
theorem logLast_any (h : Lay a lg d room s fs T X ft pv ev ps w) : Calls Tryz.prog 38 #[.pointer (some ⟨lg, 0, none⟩)] w fun e w' => e = .returned (.int .i64 (s.es.length : Int)) ∧ w = w' := by
 obtain ⟨va, vc, rfl⟩ := cells_slice (cells_of_owns h.ents)
 obtain ⟨k0, k1, k2, k3⟩ := h.cells
 rw [h.len] at k3
 clear h
 go_enter Tryz.func38, Tryz.ntmps38
 go_wp2
 go_ret
 exact ⟨rfl, rfl⟩
set_option maxHeartbeats 1000000 in
theorem logEpoch_q (h : Lay a lg d room s fs T X ft pv ev ps w) (hn : ps.length ≤ 1000000) : Calls Tryz.prog 99 #[.pointer (some ⟨lg, 0, none⟩)] w fun e w' => e = .returned (.int .i64 (Lg.epochOf s.es)) ∧ ∃ m, w' = w.drewN m := by
 obtain ⟨va, vc, rfl⟩ := cells_slice (cells_of_owns h.ents)
 obtain ⟨k0, k1, k2, k3⟩ := h.cells
 by_cases h0 : ps.length = 0
 · have HN := Lib.hid (show Lg.epochOf s.es = 0 by rw [← h.plain, List.eq_nil_of_length_eq_zero h0]; rfl)
   rw [h0] at k3
   clear h h0 hn
   go_enter Tryz.func99, Tryz.ntmps99
   go_wp2
   go_ret
   exact ⟨by rw [HN.out]; rfl, 0, rfl⟩
 · obtain ⟨b, o, c, p, ep, S, ex, se, sq, sa, sl, sc, es, hv, q0, q1, q2, q3, q4, q5, q6, _, _, _, _, hpe, _⟩ := enAt h.entsE (ps.length - 1) (by omega)
   cases hv
   have HN := Lib.hid (show Lg.epochOf s.es = ep by
     have e1 : s.es[s.es.length - 1]? = some ⟨p, ep, ⟨S.data.toList, ex, se, sq, es⟩⟩ := by
       rw [← h.plain, ← hpe.out]
       simp only [plainE, List.length_map, List.getElem?_map]
       rw [List.getElem?_eq_getElem (by omega)]; rfl
     rw [Lg.epochOf_at e1])
   obtain ⟨n, hn'⟩ : ∃ n, ps.length - 1 = n := ⟨_, rfl⟩
   have hpn : ps.length = n + 1 := by omega
   rw [hn'] at q1
   rw [hpn] at k3
   have hz : (((n + 1 : Nat) : Int) == 0) = false := by rw [beq_eq_false_iff_ne]; omega
   have hw1 : IntKind.i64.wrap (((n + 1 : Nat) : Int) - 1) = (n : Int) := by rw [IntKind.wrap_i64]; omega
   have hw2 : ((n : Int)).toNat = n := by omega
   have hlt : (n : Int) < ((n + 1 : Nat) : Int) := by omega
   clear h hpe q0 q2 q3 q4 q5 q6
   go_enter Tryz.func99, Tryz.ntmps99
   go_wp2
   go_quiet (fail)
   go_wp2
   go_ret
   exact ⟨by rw [HN.out]; rfl, _, rfl⟩
theorem logEpoch_any (h : Lay a lg d room s fs T X ft pv ev ps w) (hn : ps.length ≤ 1000000) : Calls Tryz.prog 99 #[.pointer (some ⟨lg, 0, none⟩)] w fun e w' => e = .returned (.int .i64 (Lg.epochOf s.es)) ∧ Below w.heap.size w w' :=
 (logEpoch_q h hn).mono fun _ _ ⟨h1, m, h2⟩ => ⟨h1, by rw [h2]; exact below_drewN (Below.refl _ _) _⟩
theorem logLast_q (h : Lay a lg d room s fs T X ft pv ev ps w) : Calls Tryz.prog 38 #[.pointer (some ⟨lg, 0, none⟩)] w fun e w' => e = .returned (.int .i64 (s.es.length : Int)) ∧ w' = w :=
 (logLast_any h).mono fun _ _ ⟨h1, h2⟩ => ⟨h1, h2.symm⟩
theorem partT : ElemT Tryz.prog 160 169 2 := by
 have h : (Tryz.prog.info? 169).map (fun i => (i.zero, i.size, i.bytes)) = some (some (.agg #[.int .i64 0, .int .i64 0]), 2, 16) := by kernel_rfl
 obtain ⟨i0, hi, hz0, hz1, hz2⟩ := info_parts h
 exact ⟨Tryz.underlying160, ⟨i0, _, 16, hi, hz0, hz1, hz2, rfl, by omega⟩, by omega⟩
theorem partCells_one (ps : List (Int × Int)) : ∀ u ∈ partCells ps, u.oneCell' = true := by
 intro u hu
 simp only [partCells, List.mem_flatMap] at hu
 obtain ⟨p, _, hu⟩ := hu
 simp only [List.mem_cons, List.not_mem_nil, or_false] at hu
 rcases hu with rfl | rfl <;> rfl
set_option maxHeartbeats 1000000 in
set_option maxRecDepth 100000 in
theorem cloneP_any (v : Value) (n : Nat) (xs : List Value) (w : World) (h : Cells w v 2 n xs) (h1 : ∀ u ∈ xs, u.oneCell' = true) (hn : n ≤ 1000000) (hz : n = 0 → v = .slice none 0 0 ∨ ∃ b o c, v = .slice (some ⟨b, o, none⟩) 0 c) :
   Calls Tryz.prog 164 #[v] w fun e w' => ∃ v', e = .returned v' ∧ Hid (w'.ownsRow w.heap.size 169 2 v' n xs) ∧ Below w.heap.size w w' := by
 have hcase : (n = 0 ∧ v = .slice none 0 0) ∨ ∃ b o c, v = .slice (some ⟨b, o, none⟩) n c := by
   rcases cellsNil h with ⟨h0, _⟩ | h2
   · rcases hz h0 with h3 | ⟨b, o, c, h3⟩
     · exact .inl ⟨h0, h3⟩
     · exact .inr ⟨b, o, c, by rw [h0]; exact h3⟩
   · exact .inr h2
 have hq : ∀ (w : World) (a : Option Addr) (n c n' c' : Nat), (binOp .eql 160 (.slice a n c) (.slice none n' c')).run Tryz.prog w = .ok (.bool a.isNone) w := fun w a n c n' c' => Lib.run_eql_slice_nil w _ _ a n c n' c' Tryz.underlying160
 rcases hcase with ⟨h0, rfl⟩ | ⟨b, o, c, rfl⟩
 · have hx : xs = [] := List.eq_nil_of_length_eq_zero (by have := h.1; omega)
   subst h0 hx
   clear h h1 hz
   go_enter Tryz.func164, Tryz.ntmps164
   go_wp2
   go_ret
   exact ⟨_, rfl, Lib.hid (World.ownsRow_nil _ _ _ _), Below.refl _ _⟩
 · have HX := Lib.hid (h.next ((Below.refl _ w).alloc (Nat.le_refl _) (.cells #[] 169)))
   clear h hz
   go_enter Tryz.func164, Tryz.ntmps164
   go_wp2_with (at_builtin; refine wpList_append_row rfl _ _ rfl partT w.heap.size _ 0 [] rfl (owns_fresh w w.heap.size 169 2 (Nat.le_refl _)) _ n xs rfl HX.out h1 ?c3 ?c2 ?_)
   case c3 => omega
   case c2 => simp
   intro v' w2 hown hg _
   have HO := Lib.hid (show w2.ownsRow w.heap.size 169 2 v' n xs by simpa using hown)
   have HB := Lib.hid (((Below.refl _ w).alloc (Nat.le_refl _) (.cells #[] 169)).grown hg (by simp) (fun k hk => by cases hk; exact Nat.le_refl _))
   clear hown hg
   go_wp2
   go_ret
   exact ⟨_, rfl, HO, HB.out⟩
set_option maxHeartbeats 1000000 in
set_option maxRecDepth 100000 in
theorem cloneE_any (v : Value) (n : Nat) (xs : List Value) (w : World) (h : Cells w v 7 n xs) (h1 : ∀ u ∈ xs, u.oneCell' = true) (hn : n ≤ 1000000) (hz : n = 0 → v = .slice none 0 0 ∨ ∃ b o c, v = .slice (some ⟨b, o, none⟩) 0 c) :
   Calls Tryz.prog 102 #[v] w fun e w' => ∃ v', e = .returned v' ∧ Hid (w'.ownsRow w.heap.size 40 7 v' n xs) ∧ Below w.heap.size w w' := by
 have hcase : (n = 0 ∧ v = .slice none 0 0) ∨ ∃ b o c, v = .slice (some ⟨b, o, none⟩) n c := by
   rcases cellsNil h with ⟨h0, _⟩ | h2
   · rcases hz h0 with h3 | ⟨b, o, c, h3⟩
     · exact .inl ⟨h0, h3⟩
     · exact .inr ⟨b, o, c, by rw [h0]; exact h3⟩
   · exact .inr h2
 have hq : ∀ (w : World) (a : Option Addr) (n c n' c' : Nat), (binOp .eql 43 (.slice a n c) (.slice none n' c')).run Tryz.prog w = .ok (.bool a.isNone) w := fun w a n c n' c' => Lib.run_eql_slice_nil w _ _ a n c n' c' Tryz.underlying43
 rcases hcase with ⟨h0, rfl⟩ | ⟨b, o, c, rfl⟩
 · have hx : xs = [] := List.eq_nil_of_length_eq_zero (by have := h.1; omega)
   subst h0 hx
   clear h h1 hz
   go_enter Tryz.func102, Tryz.ntmps102
   go_wp2
   go_ret
   exact ⟨_, rfl, Lib.hid (World.ownsRow_nil _ _ _ _), Below.refl _ _⟩
 · have HX := Lib.hid (h.next ((Below.refl _ w).alloc (Nat.le_refl _) (.cells #[] 40)))
   clear h hz
   go_enter Tryz.func102, Tryz.ntmps102
   go_wp2_with (at_builtin; refine wpList_append_row rfl _ _ rfl enT w.heap.size _ 0 [] rfl (owns_fresh w w.heap.size 40 7 (Nat.le_refl _)) _ n xs rfl HX.out h1 ?c3 ?c2 ?_)
   case c3 => omega
   case c2 => simp
   intro v' w2 hown hg _
   have HO := Lib.hid (show w2.ownsRow w.heap.size 40 7 v' n xs by simpa using hown)
   have HB := Lib.hid (((Below.refl _ w).alloc (Nat.le_refl _) (.cells #[] 40)).grown hg (by simp) (fun k hk => by cases hk; exact Nat.le_refl _))
   clear hown hg
   go_wp2
   go_ret
   exact ⟨_, rfl, HO, HB.out⟩
theorem partCells_at : ∀ (ms : List (Int × Int)) (i : Nat) (hi : i < ms.length), (partCells ms)[i * 2]? = some (.int .i64 ms[i].1) ∧ (partCells ms)[i * 2 + 1]? = some (.int .i64 ms[i].2)
 | m :: ms, 0, _ => ⟨rfl, rfl⟩
 | m :: ms, i + 1, hi => by
   have := partCells_at ms i (by simpa using hi)
   have e : ∀ k, (partCells (m :: ms))[(i + 1) * 2 + k]? = (partCells ms)[i * 2 + k]? := fun k => by
     rw [show partCells (m :: ms) = .int .i64 m.1 :: .int .i64 m.2 :: partCells ms from rfl, show (i + 1) * 2 + k = (i * 2 + k) + 1 + 1 by omega]
     simp only [List.getElem?_cons_succ]
   have e0 := e 0
   simp only [Nat.add_zero] at e0
   simp only [e, e0, List.getElem_cons_succ]
   exact this
theorem partAt {w : World} {v : Value} {ms : List (Int × Int)} (h : Cells w v 2 ms.length (partCells ms)) (i : Nat) (hi : i < ms.length) {x y : Int} (hx : ms[i] = (x, y)) :
   ∃ b o c, v = .slice (some ⟨b, o, none⟩) ms.length c ∧ w.cell? ⟨b, o + i * 2, none⟩ = some (.int .i64 x) ∧ w.cell? ⟨b, o + i * 2 + 1, none⟩ = some (.int .i64 y) := by
 rcases h.2 with ⟨h0, _⟩ | ⟨b, o, c, h1, h2⟩
 · omega
 · have := partCells_at ms i hi
   rw [hx] at this
   exact ⟨b, o, c, h1, h2 _ _ this.1, h2 _ _ this.2⟩
set_option maxHeartbeats 4000000 in
set_option maxRecDepth 100000 in
theorem named_log (next : Int) (v : Value) (ps : List (Int × Int)) (w : World) (hc : Cells w v 2 ps.length (partCells ps)) (hn : ps.length ≤ 100000) :
   Calls Tryz.prog 78 #[.int .i64 next, v] w fun e w' => ∃ V, e = .returned (.agg #[.int .i64 next, V]) ∧ Hid (w'.ownsRow w.heap.size 3 1 V (ps.map (·.1)).length (intCells (ps.map (·.1)))) ∧ Below w.heap.size w w' := by
 obtain ⟨va, vc, rfl⟩ := cells_slice hc
 have r0 : ManAt w.heap.size 0 (.slice none 0 0) (w.alloc (.cells #[.int .i64 0, .slice none 0 0] 157)) := heap_alloc_new w _
 have b0 : Below w.heap.size w (w.alloc (.cells #[.int .i64 0, .slice none 0 0] 157)) := (Below.refl _ _).alloc (Nat.le_refl _) _
 have b1 := b0.alloc b0.size (.cells #[.int .i64 next, .slice none 0 0] 157)
 have r1 := r0.next ((Below.refl _ _).alloc (Nat.le_refl _) (.cells #[.int .i64 next, .slice none 0 0] 157))
 have m1 : ManAt (w.heap.size + 1) next (.slice none 0 0) ((w.alloc (.cells #[.int .i64 0, .slice none 0 0] 157)).alloc (.cells #[.int .i64 next, .slice none 0 0] 157)) := by
   have := heap_alloc_new (w.alloc (.cells #[.int .i64 0, .slice none 0 0] 157)) (.cells #[.int .i64 next, .slice none 0 0] 157)
   rwa [World.size_alloc] at this
 obtain ⟨W, hW⟩ : ∃ W, W = (w.alloc (.cells #[.int .i64 0, .slice none 0 0] 157)).alloc (.cells #[.int .i64 next, .slice none 0 0] 157) := ⟨_, rfl⟩
 rw [← hW] at b1 r1 m1
 have HW := Lib.hid hW
 have HI := Lib.hid (And.intro m1 (And.intro r1 b1))
 have HC := Lib.hid hc
 clear hc r0 b0 b1 r1 m1 hW
 go_enter Tryz.func78, Tryz.ntmps78
 go_wp2
 rw [← HW.out]
 go_loopw [12] (fun lv wr => ∃ (i : Nat) (V : Value), lv = .int .i64 i ∧ i ≤ ps.length ∧ ManAt (w.heap.size + 1) next V wr ∧ ManAt w.heap.size 0 (.slice none 0 0) wr ∧ Hid (wr.ownsRow w.heap.size 3 1 V i (intCells ((ps.map (·.1)).take i))) ∧ Below w.heap.size w wr) (fun lv _ => ps.length - (intOf lv).toNat)
 case atStart => exact ⟨0, _, rfl, by omega, HI.out.1, HI.out.2.1, Lib.hid (World.ownsRow_nil _ _ _ _), HI.out.2.2⟩
 case round =>
   obtain ⟨i, V, rfl, hi, hm, hr, HO, hbw⟩ := hrel
   obtain ⟨Va, Vc, rfl⟩ := cells_slice (cells_of_owns HO.out)
   have HM := Lib.hid hm
   have HR := Lib.hid hr
   have HB := Lib.hid hbw
   by_cases hp : i < ps.length
   · obtain ⟨⟨x, y⟩, hx⟩ : ∃ x, ps[i] = x := ⟨_, rfl⟩
     obtain ⟨b, o, c, hv, k0, k1⟩ := partAt HC.out i hp hx
     cases hv
     have k0 := cell_kept hbw (Nat.le_refl _) k0
     have k1 := cell_kept hbw (Nat.le_refl _) k1
     have ba : Below wr.heap.size wr (wr.alloc (.cells #[.int .i64 x, .int .i64 y] 169)) := (Below.refl _ _).alloc (Nat.le_refl _) _
     have bb := ba.alloc ba.size (.cells #[.int .i64 x] 3)
     have hma := hm.next ba
     obtain ⟨c0, c1, f0, f1⟩ := hma.cells
     have HMb := Lib.hid (hm.next bb)
     have HRb := Lib.hid (hr.next bb)
     have HOb := Lib.hid (owns_next HO.out bb)
     have HBb := Lib.hid (Below.up hbw (Nat.le_refl _) bb)
     have hxc := cells_new1 (wr.alloc (.cells #[.int .i64 x, .int .i64 y] 169)) 3 (.int .i64 x)
     rw [World.size_alloc] at hxc
     have HT := Lib.hid (show intCells ((ps.map (·.1)).take i) ++ [.int .i64 x] = intCells ((ps.map (·.1)).take (i + 1)) by
       rw [List.take_succ_eq_append_getElem (by simpa using hp)]; simp [intCells, hx])
     clear hm hr hbw ba bb hma hx HM HR HB HO
     go_wp2_with (at_builtin; refine wpList_append_row rfl _ _ rfl intT w.heap.size (.slice Va i Vc) i _ rfl HOb.out _ 1 [.int .i64 x] rfl hxc (by simp [Value.oneCell']) ?c3 ?c2 ?_)
     case c3 => omega
     case c2 => exact (by have := HBb.out.size; simpa using this)
     intro v' w2 hown hg _
     obtain ⟨va', vc', rfl⟩ := cells_slice (cells_of_owns hown)
     have hm2 := HMb.out.kept hg (own_ne HOb.out HMb.out (by decide)).symm
     have HM3 := Lib.hid (show ManAt (w.heap.size + 1) next (.slice va' (i + 1) vc') (w2.setCell ⟨w.heap.size + 1, 1, none⟩ (.slice va' (i + 1) vc')) from setCell_at (i := 1) hm2 (.slice va' (i + 1) vc'))
     have HR3 := Lib.hid ((HRb.out.kept hg (own_ne HOb.out HRb.out (by decide)).symm).kept (grown_set w2 (w.heap.size + 1) 1 (.slice va' (i + 1) vc')) (by simp))
     have HO3 := Lib.hid (show (w2.setCell ⟨w.heap.size + 1, 1, none⟩ (.slice va' (i + 1) vc')).ownsRow w.heap.size 3 1 (.slice va' (i + 1) vc') (i + 1) (intCells ((ps.map (·.1)).take (i + 1))) by
       rw [← HT.out]; exact own_kept hown hm2 (by decide) (grown_set w2 (w.heap.size + 1) 1 (.slice va' (i + 1) vc')))
     have HB3 := Lib.hid (grown_below (HBb.out.grown hg HBb.out.size (fun k hk => (HOb.out.lt k hk).1)) (by have := HBb.out.size; have := hg.size; omega) (by omega) (grown_set w2 (w.heap.size + 1) 1 (.slice va' (i + 1) vc')))
     obtain ⟨d0, d1, g0, g1⟩ := hm2.cells
     clear hown hg hm2 c0 c1 f0 f1
     go_wp2
     exact ⟨⟨i + 1, _, by go_num, by omega, HM3.out, HR3.out, HO3, HB3.out⟩, by simp [intOf]; omega⟩
   · obtain rfl : i = ps.length := by omega
     obtain ⟨c0, c1, f0, f1⟩ := hm.cells
     obtain ⟨e0, e1, g0, g1⟩ := hr.cells
     have hp2 := setCell_at (i := 1) (setCell_at (i := 0) hr (.int .i64 next)) (.slice Va ps.length Vc)
     have HP := Lib.hid (show ((wr.setCell ⟨w.heap.size, 0, none⟩ (.int .i64 next)).setCell ⟨w.heap.size, 1, none⟩ (.slice Va ps.length Vc)).heap[w.heap.size]? = some (.cells #[.int .i64 next, (.slice Va ps.length Vc)] 157 (0, 0)) from hp2)
     have hg2 := grown_trans (grown_set wr w.heap.size 0 (.int .i64 next)) (grown_set _ w.heap.size 1 (.slice Va ps.length Vc))
     have HO2 := Lib.hid (own_kept HO.out hr (by decide) hg2)
     have HB2 := Lib.hid (grown_below hbw (by have := hbw.size; exact this) (Nat.le_refl _) hg2)
     clear hm hr hbw hp2 hg2 HM HR HB
     go_wp2
     refine bodyPost_ret (results_cell_row rfl _ _ w.heap.size _ _ _ _ rfl HP.out Tryz.underlying157 rfl man_size) rfl ?_
     exact ⟨_, rfl, Lib.hid (by have h9 := HO2.out; rw [List.take_of_length_le (by simp)] at h9; simpa using h9), HB2.out⟩
end Go.Proofs.YtgddgipjpdjoaaaGreatDoor
