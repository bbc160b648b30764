/-
  append of one new element onto a row of the call's own, of elements of whatever size.
-/
import Derived.Test.YthmblkckpdpjkaaGreatDoorEnv
namespace Go.Proofs.YthmblkckpdpjkaaGreatDoor
open Go.RowKit Go.Shelf

theorem below_drewN {B : Nat} {a w : World} (h : Below B a w) (n : Nat) : Below B a (w.drewN n) := ⟨h.os, h.tape, h.output, h.size, h.block⟩
theorem add_lists (w : World) (a b : ByteArray) (c : ByteArray) (h : a.size + b.size ≤ 1000000000000000) (hc : a.data.toList ++ b.data.toList = c.data.toList) : (Op.stringOp .add a b).run Tryz.prog w = .ok (.string c) w := by
  rw [run_string_add_sum w a b (by omega)]
  have e : a ++ b = c := by
    apply ByteArray.ext
    rw [ByteArray.data_append]
    exact Array.toList_inj.1 (by rw [Array.toList_append]; exact hc)
  rw [e]
/-- A string by its bytes. -/
theorem str_of (l : List UInt8) : ∃ r : ByteArray, (⟨l.toArray⟩ : ByteArray) = r ∧ r.data.toList = l ∧ r.size = l.length := ⟨_, rfl, rfl, by rw [Lib.size_eq]⟩
/-- An element's type, as append asks of it. -/
structure ElemT (P : Program) (t e : TypeId) (sz : Nat) : Prop where
  und : P.underlying t = some (.slice e)
  info : ∃ i z bytes, P.info? e = some i ∧ i.zero = some z ∧ i.size = sz ∧ i.bytes = bytes ∧ z.cells.size = sz ∧ bytes ≤ 128
  pos : 0 < sz
theorem cells_top (w : World) (cs : List Value) (e : TypeId) : ∀ (j : Nat) (u : Value), cs[j]? = some u → (w.alloc (.cells cs.toArray e)).cell? ((⟨w.heap.size, 0, none⟩ : Addr).add j) = some u := by
  intro j u hj
  rw [show ((⟨w.heap.size, 0, none⟩ : Addr).add j) = ⟨w.heap.size, j, none⟩ by unfold Addr.add; split <;> simp_all]
  have hb : (w.alloc (.cells cs.toArray e)).heap[w.heap.size]? = some (.cells cs.toArray e (0, 0)) := heap_alloc_new w _
  rw [Lib.cell_of_heap hb]
  simpa using hj
theorem grown_of_alloc {w w' : World} {o : Obj} {r : Option Nat} (h : (w.alloc o).grownBy w' r) : w.grownBy w' r :=
  ⟨h.os, h.tape, h.output, by have := h.size; simp at this; omega, fun k hk hr => by rw [h.block k (by simp; omega) hr, Below.heap_alloc _ _ _ hk]⟩
theorem wpList_append_new {P : Program} {ops : Array Oper} {rest : List Oper} {o : Oper} {a : Act} {Q : Exit → Act → World → Prop} (hgd : o.guard = none) (s x : Operand) (t : TypeId)
    (ho : o.op = .call { callee := .builtin .append, args := #[s, x], argTypes := #[t, t] }) {e : TypeId} {sz : Nat} (E : ElemT P t e sz) {B : Nat} {a0 w0 : World} {v : Value} {n : Nat} {xs : List Value} (hs : a.eval s = v)
    (hown : w0.ownsRow B e sz v n xs) (hb : Below B a0 w0) (hB : B ≤ w0.heap.size) (cs : List Value) (ne : TypeId) (hx : a.eval x = .slice (some ⟨w0.heap.size, 0, none⟩) 1 1) (hcs : cs.length = sz) (h1 : ∀ u ∈ cs, u.oneCell' = true) (hn : n ≤ 1000000000)
    (h : ∀ v' w', w'.ownsRow B e sz v' (n + 1) (xs ++ cs) → w0.grownBy w' v.ownBlock → Below B a0 w' → w0.heap.size < w'.heap.size → wpList P ops Q rest (a.put o.dst v') w') : wpList P ops Q (o :: rest) a (w0.alloc (.cells cs.toArray ne)) := by
  obtain ⟨i, z, bytes, h2, h3, h4, h5, h6, h7⟩ := E.info
  refine wpList_append_own _ hgd s x t ho B e i z sz bytes E.und h2 h3 h4 h5 h6 E.pos v n xs hs (hown.alloc _) ⟨w0.heap.size, 0, none⟩ 1 1 cs hx (by omega) (cells_top w0 cs ne) h1 (by unfold maxLen; omega) ?_ (by simp; omega) ?_
  · have : (n + 1) * bytes ≤ (n + 1) * 128 := Nat.mul_le_mul_left _ h7
    omega
  · intro v' w' hown' hgrow _
    exact h v' w' hown' (grown_of_alloc hgrow) ((hb.alloc hB _).grown hgrow (by simp; omega) (fun k hk => (hown.lt k hk).1)) (by have := hgrow.size; simp at this; omega)
theorem wpList_append_newG {P : Program} {ops : Array Oper} {rest : List Oper} {o : Oper} {a : Act} {Q : Exit → Act → World → Prop} (hgd : o.guard = none) (s x : Operand) (t : TypeId)
    (ho : o.op = .call { callee := .builtin .append, args := #[s, x], argTypes := #[t, t] }) {e : TypeId} {sz : Nat} (E : ElemT P t e sz) {B : Nat} {a0 w0 : World} {v : Value} {n : Nat} {xs : List Value} (hs : a.eval s = v)
    (hown : w0.ownsRow B e sz v n xs) (hb : Below B a0 w0) (hB : B ≤ w0.heap.size) (cs : List Value) (ne : TypeId) {g : Nat} (hx : a.eval x = .slice (some ⟨g, 0, none⟩) 1 1) (hg : g = w0.heap.size) (hcs : cs.length = sz) (h1 : ∀ u ∈ cs, u.oneCell' = true) (hn : n ≤ 1000000000)
    (h : ∀ v' w', w'.ownsRow B e sz v' (n + 1) (xs ++ cs) → w0.grownBy w' v.ownBlock → Below B a0 w' → w0.heap.size < w'.heap.size → wpList P ops Q rest (a.put o.dst v') w') : wpList P ops Q (o :: rest) a (w0.alloc (.cells cs.toArray ne)) := by
  subst hg
  exact wpList_append_new hgd s x t ho E hs hown hb hB cs ne hx hcs h1 hn h
theorem byteT : ElemT Tryz.prog 124 5 1 := by
  obtain ⟨i0, hi, hz0, hz1, hz2⟩ := info_parts byte_info
  exact ⟨Tryz.underlying124, ⟨i0, _, 1, hi, hz0, hz1, hz2, rfl, by omega⟩, by omega⟩
theorem byteCells_snoc (l : List UInt8) (c : UInt8) (n : Int) (h : (c.toNat : Int) = n) : Lib.byteCells l ++ [.int .u8 n] = Lib.byteCells (l ++ [c]) := by subst h; simp [Lib.byteCells]
end Go.Proofs.YthmblkckpdpjkaaGreatDoor
