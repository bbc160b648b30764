/-
  The loop of segment.Load: what it keeps, its law.
-/
import Derived.Test.YthmblkckpdpjkaaGreatDoorEntries
namespace Go.Proofs.YthmblkckpdpjkaaGreatDoor
open Go.RowKit Go.Shelf

/-- A segment at a block. -/
def SB (b : Nat) (first : Int) (v : Value) (t : Bool) (w : World) : Prop := w.heap[b]? = some (.cells #[.int .i64 first, v, .bool t] 48 (0, 0))
theorem SB.kept {b : Nat} {f : Int} {v : Value} {t : Bool} {w w' : World} {r : Option Nat} (h : SB b f v t w) (hg : w.grownBy w' r) (hr : some b ≠ r) : SB b f v t w' :=
  (hg.block b (Array.getElem?_eq_some_iff.1 h).1 hr).trans h
theorem SB.next {b : Nat} {f : Int} {v : Value} {t : Bool} {w w' : World} (h : SB b f v t w) (hb : Below w.heap.size w w') : SB b f v t w' := h.kept (grown_of_below hb) (by simp)
theorem SB.put3 {b : Nat} {f0 : Int} {v0 : Value} {t0 : Bool} {w : World} (h : SB b f0 v0 t0 w) (f : Int) (v : Value) (t : Bool) :
    SB b f v t (((w.setCell ⟨b, 0, none⟩ (.int .i64 f)).setCell ⟨b, 1, none⟩ v).setCell ⟨b, 2, none⟩ (.bool t)) ∧ w.grownBy (((w.setCell ⟨b, 0, none⟩ (.int .i64 f)).setCell ⟨b, 1, none⟩ v).setCell ⟨b, 2, none⟩ (.bool t)) (some b) :=
  ⟨setCell_at (i := 2) (setCell_at (i := 1) (setCell_at (i := 0) h _) _) _, grown_trans (grown_trans (grown_set _ _ _ _) (grown_set _ _ _ _)) (grown_set _ _ _ _)⟩
theorem SB.cells {b : Nat} {f : Int} {v : Value} {t : Bool} {w : World} (h : SB b f v t w) : w.cell? ⟨b, 0, none⟩ = some (.int .i64 f) ∧ w.cell? ⟨b, 1, none⟩ = some v ∧ w.cell? ⟨b, 2, none⟩ = some (.bool t) := by
  refine ⟨?_, ?_, ?_⟩ <;> (rw [Lib.cell_of_heap h]; rfl)
theorem SB.frozen {b : Nat} {f : Int} {v : Value} {t : Bool} {w : World} (h : SB b f v t w) : ∀ i, w.frozen? ⟨b, i, none⟩ = false := fun i => Lib.frozen_of_heap h i
theorem SB.not_row {b base sz n : Nat} {f : Int} {u v : Value} {t : Bool} {e : TypeId} {xs : List Value} {w : World} (h : SB b f u t w) (hr : w.ownsRow base e sz v n xs) (he : 48 ≠ e) : some b ≠ v.ownBlock := by
  rcases hr.2 with ⟨rfl, _⟩ | ⟨g, cap, cur, rfl, _, hg, _⟩
  · simp [Value.ownBlock]
  · intro e'
    simp only [Value.ownBlock, Option.some.injEq] at e'
    subst e'
    rw [show w.heap[b]? = _ from h] at hg
    cases hg
    exact he rfl

theorem own_yields {X Y : World} {B b e sz n : Nat} {v : Value} {xs : List Value} (h : X.ownsRow B e sz v n xs) (hg : X.grownBy Y (some b)) (hb : b < B ∨ ∃ o : Obj, X.heap[b]? = some o ∧ o.isCells = false) : Y.ownsRow B e sz v n xs := by
  refine h.kept hg (.inr ?_)
  intro e'
  rcases h.2 with ⟨rfl, _⟩ | ⟨g, cap, cur, rfl, h1, h2, _⟩
  · simp [Value.ownBlock] at e'
  · simp only [Value.ownBlock, Option.some.injEq] at e'
    subst e'
    rcases hb with hb | ⟨o, ho, hc⟩
    · omega
    · rw [ho] at h2; cases h2; cases hc
/-- What the loop of Load keeps: the segment's block, its row of entries, their events, what lay before. -/
def LI (G : Nat) (first : Int) (a : World) (pre : List EnX) (W : World) : Prop :=
  (∃ v, SB G first v false W ∧ W.ownsRow (G + 3) 38 7 v pre.length (enCells pre)) ∧ (∀ p ∈ pre, Got (G + 3) p W W) ∧ Below G a W ∧ G + 3 ≤ W.heap.size
theorem got_yields {X Y : World} {B b : Nat} {p : EnX} (h : Got B p X X) (hg : X.grownBy Y (some b)) (hb : b < B ∨ ∃ o : Obj, X.heap[b]? = some o ∧ o.isCells = false) : Got B p Y Y :=
  ⟨own_yields h.1 hg hb, h.2⟩
theorem li_yields (G : Nat) (first : Int) (a : World) (haG : G ≤ a.heap.size) : Yields (G + 3) (G + 2) (LI G first a) := by
  rintro s X Y b ⟨⟨v, h1, h2⟩, h3, h4, h5⟩ hg hb
  have hb' : b < G + 3 ∨ ∃ o : Obj, X.heap[b]? = some o ∧ o.isCells = false := by
    rcases hb with rfl | ⟨_, h⟩
    · exact .inl (by omega)
    · exact .inr h
  have hbG : G ≤ b := by rcases hb with rfl | ⟨h, _⟩ <;> omega
  have hne : some G ≠ some b := by
    rcases hb with rfl | ⟨h, _⟩
    · simp
    · simp; omega
  refine ⟨⟨v, h1.kept hg hne, own_yields h2 hg hb'⟩, fun p hp => got_yields (h3 p hp) hg hb', h4.trans (below_of_grown hg hbG (Nat.le_trans haG h4.size)), Nat.le_trans h5 hg.size⟩
/-- .. behind the round's beginning: the entry's own block is laid. -/
def LB (G : Nat) (first : Int) (a : World) (pre : List EnX) (x : EnX) (k : Nat) (X W : World) : Prop :=
  X.heap.size ≤ k ∧ k < W.heap.size ∧ G + 3 ≤ X.heap.size ∧ EB k x.1.pos x.1.epoch ⟨x.1.b.stream.toArray⟩ x.1.b.expect x.1.b.session x.1.b.seq x.2 W ∧
    (∃ v, SB G first v false W ∧ W.ownsRow (G + 3) 38 7 v pre.length (enCells pre) ∧ ∀ r, v.ownBlock = some r → r < X.heap.size) ∧ (∀ p ∈ pre, Got (G + 3) p W W) ∧ Got (G + 3) x W W ∧ Below G a W
theorem lb_rec {G : Nat} {first : Int} {a : World} {pre : List EnX} {x : EnX} {k l : Nat} {X W : World} {o : Obj} (o' : Obj) (haG : G ≤ a.heap.size) (h : LB G first a pre x k X W) (hl : G + 3 ≤ l) (hX : l < X.heap.size) (ho : W.heap[l]? = some o) (hc : o.isCells = false) : LB G first a pre x k X (W.putObj l o') := by
  obtain ⟨h1, h1b, h2, h3, ⟨v, h4, h5, h6⟩, h7, h8, h9⟩ := h
  have hg := grownBy_putObj' W l o'
  have hb' : l < G + 3 ∨ ∃ o : Obj, W.heap[l]? = some o ∧ o.isCells = false := .inr ⟨o, ho, hc⟩
  exact ⟨h1, by simpa using h1b, h2, h3.kept hg (by simp; omega), ⟨v, h4.kept hg (by simp; omega), own_yields h5 hg hb', h6⟩, fun p hp => got_yields (h7 p hp) hg hb', got_yields h8 hg hb', h9.trans (below_of_grown hg (by omega) (Nat.le_trans haG h9.size))⟩
def enObj (x : EnX) : Obj := .cells #[.int .i64 x.1.pos, .int .i64 x.1.epoch, .string ⟨x.1.b.stream.toArray⟩, .int .i64 x.1.b.expect, .int .i64 x.1.b.session, .int .i64 x.1.b.seq, x.2] 38

theorem enCells_snoc (ps : List EnX) (x : EnX) : enCells (ps ++ [x]) = enCells ps ++ [.int .i64 x.1.pos, .int .i64 x.1.epoch, .string ⟨x.1.b.stream.toArray⟩, .int .i64 x.1.b.expect, .int .i64 x.1.b.session, .int .i64 x.1.b.seq, x.2] := by simp [enCells]
theorem rows_differ {W : World} {B B' e e' sz sz' n n' : Nat} {v v' : Value} {xs xs' : List Value} (h : W.ownsRow B e sz v n xs) (h' : W.ownsRow B' e' sz' v' n' xs') (he : e ≠ e') : v.ownBlock = none ∨ v.ownBlock ≠ v'.ownBlock := by
  rcases h.2 with ⟨rfl, _⟩ | ⟨g, cap, cur, rfl, _, hg, _⟩
  · exact .inl rfl
  · rcases h'.2 with ⟨rfl, _⟩ | ⟨g', cap', cur', rfl, _, hg', _⟩
    · exact .inr (by simp [Value.ownBlock])
    · refine .inr (fun q => ?_)
      simp only [Value.ownBlock, Option.some.injEq] at q
      subst q
      rw [hg] at hg'
      cases hg'
      exact he rfl
theorem body_end {G : Nat} {first : Int} {a : World} {pre : List EnX} {x : EnX} {X W w1 : World} {u v' : Value} {o : Obj} (h2 : G + 3 ≤ X.heap.size) (hXW : X.heap.size ≤ W.heap.size) (h4 : SB G first u false W) (h5 : W.ownsRow (G + 3) 38 7 u pre.length (enCells pre))
    (h6 : ∀ r, u.ownBlock = some r → r < X.heap.size) (h7 : ∀ p ∈ pre, Got (G + 3) p W W) (h8 : Got (G + 3) x W W) (h9 : Below G a W) (hown : w1.ownsRow (G + 3) 38 7 v' (pre.length + 1) (enCells (pre ++ [x]))) (hgrow : (W.alloc o).grownBy w1 u.ownBlock) :
    KeepsFrom (G + 3) W (w1.setCell ⟨G, 1, none⟩ v') ∧ KeepsBut G (G + 3) X W (w1.setCell ⟨G, 1, none⟩ v') ∧ LI G first a (pre ++ [x]) (w1.setCell ⟨G, 1, none⟩ v') := by
  have hg := grown_of_alloc hgrow
  have hs := hg.size
  have hlow : ∀ r, u.ownBlock = some r → G + 3 ≤ r := fun r hr => (h5.lt r hr).1
  have hset : ∀ j, j ≠ G → (w1.setCell ⟨G, 1, none⟩ v').heap[j]? = w1.heap[j]? := fun j hj => Below.heap_setCell _ _ _ j hj
  have hsz : (w1.setCell ⟨G, 1, none⟩ v').heap.size = w1.heap.size := by simp
  have same : ∀ j, j < W.heap.size → j ≠ G → some j ≠ u.ownBlock → (w1.setCell ⟨G, 1, none⟩ v').heap[j]? = W.heap[j]? := fun j hj hG hn => (hset j hG).trans (hg.block j hj hn)
  have s1 : SB G first u false w1 := h4.kept hg (h4.not_row h5 (by decide))
  have below : Below G W (w1.setCell ⟨G, 1, none⟩ v') := ⟨hg.os, hg.tape, hg.output, by omega, fun j hj => same j (by omega) (by omega) (fun e => by have := hlow j e.symm; omega)⟩
  have got : ∀ p : EnX, Got (G + 3) p W W → Got (G + 3) p (w1.setCell ⟨G, 1, none⟩ v') (w1.setCell ⟨G, 1, none⟩ v') := fun p hp => by
    refine ⟨own_yields (b := G) (hp.1.kept hg ?_) (grown_set w1 G 1 v') (.inl (by omega)), hp.2⟩
    rcases rows_differ hp.1 h5 (by decide) with h | h
    · exact .inl h
    · exact .inr h
  refine ⟨⟨by omega, fun j ob hj hob hc => ?_⟩, ⟨below, fun j h1 h3 => same j (by omega) (by omega) (fun e => by have := hlow j e.symm; omega), fun j h1 h3 => same j h3 (by omega) (fun e => by have := h6 j e.symm; omega)⟩,
    ⟨v', setCell_at (i := 1) s1 v', ?_⟩, ?_, h9.trans below, by omega⟩
  · refine (same j (Array.getElem?_eq_some_iff.1 hob).1 (by omega) (fun e => ?_)).trans hob
    rcases h5.2 with ⟨rfl, _⟩ | ⟨g, cap, cur, rfl, _, hgg, _⟩
    · cases e
    · simp only [Value.ownBlock, Option.some.injEq] at e
      subst e
      rw [hob] at hgg; cases hgg; cases hc
  · rw [List.length_append]
    exact hown.kept (grown_set w1 G 1 v') (.inr (s1.not_row hown (by decide)).symm)
  · intro p hp
    rcases List.mem_append.1 hp with h | h
    · exact got p (h7 p h)
    · rw [List.mem_singleton.1 h]; exact got x h8
/-- Entries whose cells, and whose events' cells, lie in blocks from a base on. -/
def NewEnts (base : Nat) (w : World) (v : Value) (ps : List EnX) : Prop := w.ownsRow base 38 7 v ps.length (enCells ps) ∧ ∀ p ∈ ps, Got base p w w
theorem NewEnts.ents {base : Nat} {w : World} {v : Value} {ps : List EnX} (h : NewEnts base w v ps) : Ents w v ps :=
  ⟨cells_of_owns h.1, fun p hp => ⟨cells_of_owns (h.2 p hp).1, (h.2 p hp).2.1⟩⟩
theorem done_end {G R D : Nat} {W W6 W7 W8 : World} {ys : List EnX} {v : Value} (h1 : W.ownsRow (G + 3) 38 7 v ys.length (enCells ys)) (h2 : ∀ p ∈ ys, Got (G + 3) p W W) (b6 : Below W.heap.size W W6) (hR : R < G)
    (g7 : W6.grownBy W7 (some G)) (g8 : W7.grownBy W8 (some R)) (hK : W8.heap[D]? = some (.deferred (some []))) (o' : Obj) : NewEnts R (W8.putObj D o') v ys := by
  have all : ∀ {e sz n : Nat} {v : Value} {xs : List Value}, W.ownsRow (G + 3) e sz v n xs → (W8.putObj D o').ownsRow R e sz v n xs := fun h =>
    ownsRow_low (ownsRow_putObj (own_yields (own_yields (owns_next h b6) g7 (.inl (by omega))) g8 (.inl (by omega))) o' hK rfl) (by omega)
  exact ⟨all h1, fun p hp => ⟨all (h2 p hp).1, (h2 p hp).2⟩⟩
theorem done_below {G D : Nat} {w w3 W W6 W7 W8 : World} (hb3 : Below w.heap.size w w3) (hG : G = w3.heap.size) (hB : Below G w3 W) (b6 : Below W.heap.size W W6) (g7 : W6.grownBy W7 (some G)) (g8 : W7.grownBy W8 (some w.heap.size)) (hD : G ≤ D) (o' : Obj) : Below w.heap.size w (W8.putObj D o') := by
  subst hG
  have s3 := hb3.size
  have sB := hB.size
  have s6 := b6.size
  have s7 := g7.size
  have s8 := g8.size
  refine hb3.trans ((hB.mono s3).trans ((b6.mono (by omega)).trans ((below_of_grown g7 (by omega) (by omega)).trans ((below_of_grown g8 (Nat.le_refl _) (by omega)).trans ?_))))
  exact ⟨rfl, rfl, rfl, by simp, fun k hk => World.putObj_heap_other (by omega)⟩
theorem load_range {g : Operand} {ps : Array Tmp} {assign body : Code} {Q : Exit → Act → World → Prop} {a : Act} {w5 : World} {gf : Nat} {lb : Array Value} (G : Nat) (first : Int) (a0 : World) (haG : G ≤ a0.heap.size) (S : List EnX → Prop) (N : Nat)
    (hg : a.eval g = .func (.func gf) #[] lb) (hFg : Fence.wide.fn gf) (eg : ∀ args w, (callFunc gf args).run Tryz.prog w = .ok (.enter gf args) w)
    (hseq : SeqBox Fence.wide 5 Tryz.prog gf lb (fun x : EnX => #[enVal x]) (Got (G + 3)) (KeepsBut G (G + 3)) S N (G + 2) w5) (hs : w5.heap.size = G + 3) (hps : ps.size = 1) (h0 : LI G first a0 [] w5)
    (hassign : ∀ (l : Nat) (x : EnX) (W : World) (K : Act → World → Prop), Got (G + 3) x W W → K { tmps := (a.tmps.setIfInBounds 73 (enVal x)).setIfInBounds 13 (.pointer (some ⟨W.heap.size, 0, none⟩)), defers := [] } (W.alloc (enObj x)) →
      assign.wpIn (Fence.wide.inRound l) 4 Tryz.prog (Exit.then K (fun _ _ _ => False)) { tmps := (ps.zip #[enVal x]).foldl (fun t (p, v) => t.setIfInBounds p v) a.tmps, defers := [] } W)
    (hbody : ∀ (l : Nat) (pre : List EnX) (x : EnX) (k : Nat) (X W : World), LB G first a0 pre x k X W → pre.length ≤ 1000000 →
      body.wpIn (Fence.wide.inRound l) 4 Tryz.prog (Exit.then (fun _ W' => KeepsFrom (G + 3) W W' ∧ KeepsBut G (G + 3) X W W' ∧ LI G first a0 (pre ++ [x]) W') (fun _ _ _ => False)) { tmps := (a.tmps.setIfInBounds 73 (enVal x)).setIfInBounds 13 (.pointer (some ⟨k, 0, none⟩)), defers := [] } W)
    (hdone : ∀ (D : Nat) (xs : List EnX) (W : World), G + 3 ≤ D → S xs → LI G first a0 xs W → W.heap[D]? = some (.deferred (some [])) → Q .normal { a with defers := { target := .collected D, args := #[] } :: a.defers } W) (hN : N ≤ 1000000) :
    (Code.rangeFunc g ps assign body).wpIn Fence.wide 6 Tryz.prog Q a w5 := by
  refine wpIn_rangeFunc_box rfl (by omega) hg hFg eg hseq (by omega) KeepsBut.trans ?_ (fun x => by rw [hps]; rfl) (LI G first a0) (by rw [hs]; exact li_yields G first a0 haG) h0
    (fun pre x X a' W => ∃ k, a' = { tmps := (a.tmps.setIfInBounds 73 (enVal x)).setIfInBounds 13 (.pointer (some ⟨k, 0, none⟩)), defers := [] } ∧ LB G first a0 pre x k X W ∧ pre.length < N) ?_ ?_ ?_ ?_
  · intro X W l o hl hX
    exact ⟨⟨rfl, rfl, rfl, by simp, fun k hk => World.putObj_heap_other (by omega)⟩, fun k h1 h2 => World.putObj_heap_other (by omega), fun k h1 h2 => World.putObj_heap_other (by omega)⟩
  · rintro pre x X a' W l o o' ⟨k, h1, h2, h3⟩ hl hX ho hc
    exact ⟨k, h1, lb_rec o' haG h2 (by omega) hX ho hc, h3⟩
  · rintro l pre x X W K ⟨⟨v, h1, h2⟩, h3, h4, h5⟩ hXW hgx hlen hK
    have hXs := hXW.size
    refine hassign l x W K hgx (hK _ _ ?_ ?_ ⟨W.heap.size, rfl, ?_, hlen⟩)
    · exact KeepsFrom.of_grownBy (World.grownBy_alloc W (enObj x) none) (fun j e => by cases e)
    · exact ⟨(Below.refl _ _).alloc (by omega) _, fun k _ h2 => Below.heap_alloc _ _ _ (by omega), fun k _ h2 => Below.heap_alloc _ _ _ h2⟩
    · have hlt : ∀ r, v.ownBlock = some r → r < X.heap.size := fun r hr => (h2.lt r hr).2
      exact ⟨hXW.size, by simp, by omega, heap_alloc_new W _, ⟨v, (h1.next hXW).kept (World.grownBy_alloc W _ none) (by simp), (owns_next h2 hXW).alloc _, hlt⟩,
        fun p hp => ⟨(owns_next (h3 p hp).1 hXW).alloc _, (h3 p hp).2⟩, ⟨hgx.1.alloc _, hgx.2⟩, (h4.trans (hXW.mono (by omega))).alloc (by omega) _⟩
  · rintro l pre x X a' W ⟨k, rfl, h2, h3⟩
    rw [hs]
    exact hbody l pre x k X W h2 (by omega)
  · intro D xs W hD hS hI hK
    exact hdone D xs W (by omega) hS hI hK
end Go.Proofs.YthmblkckpdpjkaaGreatDoor
