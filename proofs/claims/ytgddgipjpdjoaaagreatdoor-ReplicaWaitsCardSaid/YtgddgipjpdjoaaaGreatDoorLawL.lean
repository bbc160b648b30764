/-
  The walks of the law package 11's begun, plain, pick, row, sameInts, sameMarks.
-/
import Derived.Test.YtgddgipjpdjoaaaGreatDoorAt
import Derived.Test.YtgddgipjpdjoaaaGreatDoorManP
import Derived.Test.YtgddgipjpdjoaaaGreatDoorLogPl
namespace Go.Proofs.YtgddgipjpdjoaaaGreatDoor
open Go.RowKit Go.Shelf

theorem intAt2 {w : World} {v : Value} {l : List Int} (h : Cells w v 1 l.length (intCells l)) (i : Nat) (hi : i < l.length) {x : Int} (hx : l[i] = x) :
    ∃ b o c, v = .slice (some ⟨b, o, none⟩) l.length c ∧ w.cell? ⟨b, o + i, none⟩ = some (.int .i64 x) := by
  rcases h.2 with ⟨h0, _⟩ | ⟨b, o, c, h1, h2⟩
  · omega
  · exact ⟨b, o, c, h1, h2 i _ (by rw [← hx]; simp [intCells, List.getElem?_eq_getElem hi])⟩
theorem cells_len {w : World} {v : Value} {sz n : Nat} {xs : List Value} (h : Cells w v sz n xs) : ∃ va vc, v = .slice va n vc := by
  rcases cellsNil h with ⟨h0, a, c, rfl⟩ | ⟨b, o, c, rfl⟩
  · exact ⟨a, c, by rw [h0]⟩
  · exact ⟨_, _, rfl⟩
def markCells (ms : List (Int × Int)) : List Value := ms.flatMap fun m => [.int .i64 m.1, .int .i64 m.2]
theorem markCells_at : ∀ (ms : List (Int × Int)) (i : Nat) (hi : i < ms.length), (markCells ms)[i * 2]? = some (.int .i64 ms[i].1) ∧ (markCells ms)[i * 2 + 1]? = some (.int .i64 ms[i].2)
  | m :: ms, 0, _ => ⟨rfl, rfl⟩
  | m :: ms, i + 1, hi => by
    have := markCells_at ms i (by simpa using hi)
    have e : ∀ k, (markCells (m :: ms))[(i + 1) * 2 + k]? = (markCells ms)[i * 2 + k]? := fun k => by
      rw [show markCells (m :: ms) = .int .i64 m.1 :: .int .i64 m.2 :: markCells ms from rfl, show (i + 1) * 2 + k = (i * 2 + k) + 1 + 1 by omega]
      simp only [List.getElem?_cons_succ]
    have e0 := e 0
    simp only [Nat.add_zero] at e0
    simp only [e, e0, List.getElem_cons_succ]
    exact this
theorem markAt {w : World} {v : Value} {ms : List (Int × Int)} (h : Cells w v 2 ms.length (markCells ms)) (i : Nat) (hi : i < ms.length) {x y : Int} (hx : ms[i] = (x, y)) :
    ∃ b o c, v = .slice (some ⟨b, o, none⟩) ms.length c ∧ w.cell? ⟨b, o + i * 2, none⟩ = some (.int .i64 x) ∧ w.cell? ⟨b, o + i * 2 + 1, none⟩ = some (.int .i64 y) := by
  rcases h.2 with ⟨h0, _⟩ | ⟨b, o, c, h1, h2⟩
  · omega
  · have := markCells_at ms i hi
    rw [hx] at this
    exact ⟨b, o, c, h1, h2 _ _ this.1, h2 _ _ this.2⟩
/-- The law package's right entries that go on from a place. -/
def Lg.plainN (pos ep : Int) : Evt.Entry := ⟨pos, ep, ⟨[115], 0, 1, 1, [⟨[107], []⟩]⟩⟩
def Lg.rowL (pos ep : Int) (n : Nat) : List Evt.Entry := (List.range n).map fun (i : Nat) => Lg.plainN (pos + 1 + (i : Int)) ep
theorem Lg.rowL_succ (pos ep : Int) (n : Nat) : Lg.rowL pos ep (n + 1) = Lg.rowL pos ep n ++ [Lg.plainN (pos + 1 + n) ep] := by simp [Lg.rowL, List.range_succ]
theorem Lg.rowL_len (pos ep : Int) (n : Nat) : (Lg.rowL pos ep n).length = n := by simp [Lg.rowL]
theorem fine_plain (pos ep : Int) : Fine (Lg.plainN pos ep) := ⟨by simp [Lg.plainN], fun e he => by simp [Lg.plainN] at he; subst he; simp, by simp [Lg.plainN]⟩
def KB (g : Nat) (w : World) : Prop := w.heap[g]? = some (.cells #[.string ⟨#[107]⟩, .string ⟨#[]⟩] 149 (0, 0))
theorem KB.evs {g : Nat} {w : World} (h : KB g w) : Evs w (.slice (some ⟨g, 0, none⟩) 1 1) [⟨[107], []⟩] := by
  refine ⟨rfl, .inr ⟨g, 0, 1, rfl, fun j u hj => ?_⟩⟩
  rw [Lib.cell_of_heap h]
  match j with
  | 0 => simpa [evCells] using hj
  | 1 => simpa [evCells] using hj
  | j + 2 => simp [evCells] at hj
/-- Right entries of a caller's, that lie in blocks from a base on. -/
def NewRow (base : Nat) (w : World) (v : Value) (ps : List EnX) : Prop := w.ownsRow base 40 7 v ps.length (enCells ps) ∧ ∀ p ∈ ps, ∃ pos ep g, p = (Lg.plainN pos ep, .slice (some ⟨g, 0, none⟩) 1 1) ∧ KB g w ∧ base ≤ g
theorem NewRow.ents {base : Nat} {w : World} {v : Value} {ps : List EnX} (h : NewRow base w v ps) : Ents w v ps := ⟨cells_of_owns h.1, fun p hp => by
  obtain ⟨pos, ep, g, rfl, hk, _⟩ := h.2 p hp
  exact ⟨hk.evs, fine_plain pos ep⟩⟩
theorem NewRow.next {base : Nat} {w w' : World} {v : Value} {ps : List EnX} (h : NewRow base w v ps) (hb : Below w.heap.size w w') : NewRow base w' v ps :=
  ⟨owns_next h.1 hb, fun p hp => by
    obtain ⟨pos, ep, g, rfl, hk, hg⟩ := h.2 p hp
    exact ⟨pos, ep, g, rfl, heap_kept hb (Nat.le_refl _) hk, hg⟩⟩
theorem own_ne' {w : World} {B e sz n b ty : Nat} {v : Value} {xs : List Value} {c : Array Value} {fr : Nat × Nat} (h : w.ownsRow B e sz v n xs) (hb : w.heap[b]? = some (.cells c ty fr)) (hne : ty ≠ e) : v.ownBlock ≠ some b := by
  rcases h.2 with ⟨rfl, _⟩ | ⟨g, cap, cur, rfl, _, hg, _⟩
  · simp [Value.ownBlock]
  · intro e'
    simp only [Value.ownBlock, Option.some.injEq] at e'
    subst e'
    rw [hg] at hb
    cases hb
    exact hne rfl
theorem entCells_new (w : World) (p : EnX) (e : TypeId) : Cells (w.alloc (.cells #[.int .i64 p.1.pos, .int .i64 p.1.epoch, .string ⟨p.1.b.stream.toArray⟩, .int .i64 p.1.b.expect, .int .i64 p.1.b.session, .int .i64 p.1.b.seq, p.2] e)) (.slice (some ⟨w.heap.size, 0, none⟩) 1 1) 7 1 (enCells [p]) := by
  refine ⟨rfl, .inr ⟨w.heap.size, 0, 1, rfl, fun j u hj => ?_⟩⟩
  rw [Lib.cell_of_heap (heap_alloc_new w _)]
  match j with
  | 0 => simpa [enCells] using hj
  | 1 => simpa [enCells] using hj
  | 2 => simpa [enCells] using hj
  | 3 => simpa [enCells] using hj
  | 4 => simpa [enCells] using hj
  | 5 => simpa [enCells] using hj
  | 6 => simpa [enCells] using hj
  | j + 7 => simp [enCells] at hj
theorem enCells_plain (pos ep : Int) (g : Nat) : ∀ u ∈ enCells [(Lg.plainN pos ep, Value.slice (some ⟨g, 0, none⟩) 1 1)], u.oneCell' = true := enCells_one _ (fun p hp => by rw [List.mem_singleton.1 hp]; exact ⟨_, _, _, rfl⟩)
theorem NewRow.push {base g : Nat} {w1 w2 : World} {v v' : Value} {ps : List EnX} {pos ep : Int} (h : NewRow base w1 v ps) (hk : KB g w1) (hg : base ≤ g) (ho : w2.ownsRow base 40 7 v' (ps.length + 1) (enCells ps ++ enCells [(Lg.plainN pos ep, .slice (some ⟨g, 0, none⟩) 1 1)])) (hgr : w1.grownBy w2 v.ownBlock) :
    NewRow base w2 v' (ps ++ [(Lg.plainN pos ep, .slice (some ⟨g, 0, none⟩) 1 1)]) := by
  have keep : ∀ j, KB j w1 → KB j w2 := fun j hj => (hgr.block j (Array.getElem?_eq_some_iff.1 hj).1 (fun e => own_ne' h.1 hj (by decide) e.symm)).trans hj
  refine ⟨by rw [List.length_append, enCells_append]; exact ho, fun p hp => ?_⟩
  rcases List.mem_append.1 hp with hp | hp
  · obtain ⟨a, b, c, rfl, q1, q2⟩ := h.2 p hp
    exact ⟨a, b, c, rfl, keep _ q1, q2⟩
  · rw [List.mem_singleton.1 hp]
    exact ⟨pos, ep, g, rfl, keep _ hk, hg⟩
end Go.Proofs.YtgddgipjpdjoaaaGreatDoor
