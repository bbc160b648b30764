/-
  What a walk carries from world to world: the tables of the library, a builder, an iterator; the walks of text.wrong and text.hex.
-/
import Derived.Test.YtgddgipjpdjoaaaGreatDoorBld
import Derived.Test.YtgddgipjpdjoaaaGreatDoorPln
import Derived.Lib.Hide
import Derived.Lib.TrimUEq
import Derived.Lib.AppendIntMem
namespace Go.Proofs.YtgddgipjpdjoaaaGreatDoor
open Go.RowKit Go.Shelf

/-- What the library's variables hold. -/
structure Env (w : World) : Prop where
  tabs : Lib.Utf8Tabs 2 3 w
  esyn : ∃ te pe, w.cell? ⟨0, 0, none⟩ = some (.iface te pe)
  erng : ∃ te pe, w.cell? ⟨1, 0, none⟩ = some (.iface te pe)
  pow : ∃ t fr, w.heap[4]? = some (.cells (Lib.pow10Tab.map fun z => Value.int .u64 z).toArray t fr)

theorem cell_kept {w w' : World} {B : Nat} (hb : Below B w w') (hB : w.heap.size ≤ B) {a : Addr} {v : Value} (h : w.cell? a = some v) : w'.cell? a = some v :=
  (hb.cell (Nat.lt_of_lt_of_le (World.block_lt_of_cell? _ _ h) hB)).trans h
theorem heap_kept {w w' : World} {B k : Nat} {o : Obj} (hb : Below B w w') (hB : w.heap.size ≤ B) (h : w.heap[k]? = some o) : w'.heap[k]? = some o :=
  (hb.block k (Nat.lt_of_lt_of_le (Array.getElem?_eq_some_iff.1 h).1 hB)).trans h
theorem Env.next {w w' : World} (h : Env w) (hb : Below w.heap.size w w') : Env w' := by
  have ck : ∀ {a v}, w.cell? a = some v → w'.cell? a = some v := fun hc => cell_kept hb (Nat.le_refl _) hc
  obtain ⟨⟨t1, t2⟩, ⟨a, b, h1⟩, ⟨c, d, h2⟩, ⟨e, f, h3⟩⟩ := h
  exact ⟨⟨fun c hc => ck (t1 c hc), fun i hi => ⟨ck (t2 i hi).1, ck (t2 i hi).2⟩⟩, ⟨a, b, ck h1⟩, ⟨c, d, ck h2⟩, ⟨e, f, heap_kept hb (Nat.le_refl _) h3⟩⟩
theorem grown_of_below {w w' : World} (hb : Below w.heap.size w w') : w.grownBy w' none :=
  ⟨hb.os, hb.tape, hb.output, hb.size, fun k hk _ => hb.block k hk⟩
theorem Bld.lt {B b : Nat} {l : List UInt8} {w : World} (h : Bld B b l w) : b < w.heap.size := by
  rcases h with h | h <;> exact h.lt
theorem bldAt_next {T e B b : Nat} {p : Value} {bs : List Value} {w w' : World} (h : Lib.BuilderAtF T e B b p bs w) (hb : Below w.heap.size w w') : Lib.BuilderAtF T e B b p bs w' := by
  obtain ⟨hB, v, hbk, hown, hne⟩ := h
  refine ⟨hB, v, heap_kept hb (Nat.le_refl _) hbk, hown.kept (grown_of_below hb) ?_, hne⟩
  cases hv : v.ownBlock <;> simp
theorem Bld.next {B b : Nat} {l : List UInt8} {w w' : World} (h : Bld B b l w) (hb : Below w.heap.size w w') : Bld B b l w' := by
  rcases h with h | h
  · exact .inl (bldAt_next h hb)
  · exact .inr (bldAt_next h hb)
theorem Bld.alloc {B b : Nat} {l : List UInt8} {w : World} (h : Bld B b l w) (o : Obj) : Bld B b l (w.alloc o) := Lib.IsBuilderF.alloc h o
theorem Bld.iterAt {B b k : Nat} {l : List UInt8} {s : ByteArray} {pos : Nat} {w : World} (h : Bld B b l w) (hk : w.heap[k]? = some (.stringIter s pos)) (pos' : Nat) : Bld B b l (w.iterAt k s pos') := Lib.IsBuilderF.iterAt h hk pos'
theorem Below.up {B : Nat} {a w w' : World} (h : Below B a w) (hB : B ≤ a.heap.size) (hb : Below w.heap.size w w') : Below B a w' := h.trans (hb.mono (Nat.le_trans hB h.size))
/-- A block of the environment is below whatever the walk has made. -/
theorem Env.iterAt {w : World} (h : Env w) {k : Nat} {s : ByteArray} {pos : Nat} (hk : w.heap[k]? = some (.stringIter s pos)) (pos' : Nat) : Env (w.iterAt k s pos') := by
  have ck : ∀ {a v}, w.cell? a = some v → (w.iterAt k s pos').cell? a = some v := by
    intro a v hc
    have hne : a.block ≠ k := by
      intro e
      simp [World.cell?, e, hk] at hc
    rw [World.cell?_of_block (Lib.iterAt_other w k a.block s pos' hne)]
    exact hc
  obtain ⟨⟨t1, t2⟩, ⟨a, b, h1⟩, ⟨c, d, h2⟩, ⟨e, f, h3⟩⟩ := h
  refine ⟨⟨fun c hc => ck (t1 c hc), fun i hi => ⟨ck (t2 i hi).1, ck (t2 i hi).2⟩⟩, ⟨a, b, ck h1⟩, ⟨c, d, ck h2⟩, ⟨e, f, ?_⟩⟩
  rw [Lib.iterAt_other w k _ s pos' (by intro e0; rw [e0, hk] at h3; cases h3)]
  exact h3
/-- The environment behind a writing call on a builder of the call's own. -/
theorem Env.below {w w' : World} {B : Nat} (h : Env w) (hb : Below B w w') (h0 : 2 < B) (h1 : 3 < B) (h2 : 0 < B) (h3 : 1 < B) (h4 : 4 < B) : Env w' := by
  obtain ⟨⟨t1, t2⟩, ⟨a, b, e1⟩, ⟨c, d, e2⟩, ⟨e, f, e3⟩⟩ := h
  exact ⟨⟨fun c hc => (hb.cell (p := ⟨_, _, none⟩) h0).trans (t1 c hc), fun i hi => ⟨(hb.cell (p := ⟨_, _, none⟩) h1).trans (t2 i hi).1, (hb.cell (p := ⟨_, _, none⟩) h1).trans (t2 i hi).2⟩⟩,
    ⟨a, b, (hb.cell (p := ⟨_, _, none⟩) h2).trans e1⟩, ⟨c, d, (hb.cell (p := ⟨_, _, none⟩) h3).trans e2⟩, ⟨e, f, (hb.block _ h4).trans e3⟩⟩
theorem Env.size {w : World} (h : Env w) : 2 < w.heap.size ∧ 3 < w.heap.size ∧ 0 < w.heap.size ∧ 1 < w.heap.size ∧ 4 < w.heap.size := by
  obtain ⟨⟨t1, t2⟩, ⟨a, b, e1⟩, ⟨c, d, e2⟩, ⟨e, f, e3⟩⟩ := h
  exact ⟨World.block_lt_of_cell? _ _ (t1 0 (by decide)), World.block_lt_of_cell? _ _ (t2 0 (by decide)).1, World.block_lt_of_cell? _ _ e1, World.block_lt_of_cell? _ _ e2, (Array.getElem?_eq_some_iff.1 e3).1⟩
/-- .. of a call that began in the world a. -/
theorem Env.from {a w w' : World} {B : Nat} (h : Env w) (ha : Env a) (hB : a.heap.size ≤ B) (hb : Below B w w') : Env w' := by
  obtain ⟨h0, h1, h2, h3, h4⟩ := ha.size
  exact h.below hb (by omega) (by omega) (by omega) (by omega) (by omega)

theorem tab_of_block {nm : String} {w : World} (hg : Tryz.prog.globalNamed nm = some 4) (h : ∃ t fr, w.heap[4]? = some (.cells (Lib.pow10Tab.map fun z => Value.int .u64 z).toArray t fr)) : Lib.TabIs Tryz.prog w nm .u64 Lib.pow10Tab := by
  obtain ⟨t, fr, h⟩ := h
  unfold Lib.TabIs World.var?
  rw [hg]; simp only [Option.bind_some, h]
/-- strconv.Itoa, whatever the number. -/
theorem itoa_any (n : Int) (h0 : -9223372036854775808 ≤ n) (h1 : n ≤ 9223372036854775807) (w : World) (hE : Env w) :
    Calls Tryz.prog 221 #[.int .i64 n] w fun e w' => e = .returned (.string ⟨(Lib.itoa n).toArray⟩) ∧ Below w.heap.size w w' := by
  refine (Any.strconv_Itoa Tryz.laysM171 n h0 h1 w (tab_of_block (by kernel_rfl) hE.pow)).mono ?_
  rintro e w' ⟨rfl, k, os, rfl⟩
  exact ⟨rfl, Lib.below_grow _ w (Nat.le_refl _) k os⟩

/-! ### The token at a place of a string -/
theorem tok_decode (s : ByteArray) (pos : Nat) :
    Txt.tok (s.data.toList.drop pos) = if (Utf8.decode s pos).1 = 65533 ∧ (Utf8.decode s pos).2 = 1 then (-1, 1) else (((Utf8.decode s pos).1 : Int), (Utf8.decode s pos).2) := by
  rw [← Lib.decodeL_drop, Lib.decodeL_N]; rfl
theorem drop_cons (s : ByteArray) (pos : Nat) (h : pos < s.size) : ∃ b t, s.data.toList.drop pos = b :: t := by
  match e : s.data.toList.drop pos with
  | b :: t => exact ⟨b, t, rfl⟩
  | [] =>
    have := congrArg List.length e
    simp only [List.length_drop, List.length_nil, Array.length_toList] at this
    have e2 : s.size = s.data.size := rfl
    omega
theorem drop_head (s : ByteArray) (pos : Nat) (h : pos < s.size) : s.data.toList.drop pos = s[pos] :: s.data.toList.drop (pos + 1) := by
  rw [List.drop_eq_getElem_cons (by rw [← Lib.size_eq]; exact h)]
  rfl
/-- What 'next' gives, and the token there. -/
theorem next_tok (s : ByteArray) (pos : Nat) (h : pos < s.size) :
    ∃ (r : Int) (n : Nat) (k : Nat), Utf8.decode s pos = (k, n) ∧ Txt.toks (s.data.toList.drop pos) = (r, (s.data.toList.drop pos).take n) :: Txt.toks (s.data.toList.drop (pos + n)) ∧
      1 ≤ n ∧ pos + n ≤ s.size ∧ Txt.Shape (r, (s.data.toList.drop pos).take n) ∧
      ((r = -1 ∧ k = 65533 ∧ n = 1) ∨ (0 ≤ r ∧ r = (k : Int) ∧ ¬ (k = 65533 ∧ n = 1))) := by
  obtain ⟨b, t, e⟩ := drop_cons s pos h
  have ht := tok_decode s pos
  have hw := Txt.tok_width b t
  have hs := Txt.tok_shape b t
  have hl : (b :: t).length = s.size - pos := by rw [← e, List.length_drop, Array.length_toList]; rfl
  have hc := Txt.toks_cons b t
  rw [← e] at hw hs hc hl
  generalize Utf8.decode s pos = d at ht ⊢
  obtain ⟨k, n⟩ := d
  simp only at ht
  by_cases hc2 : k = 65533 ∧ n = 1
  · rw [if_pos hc2] at ht
    rw [ht] at hw hs hc
    obtain ⟨rfl, rfl⟩ := hc2
    refine ⟨-1, 1, 65533, rfl, ?_, Nat.le_refl _, by omega, hs, .inl ⟨rfl, rfl, rfl⟩⟩
    rw [hc, List.drop_drop]
  · rw [if_neg hc2] at ht
    rw [ht] at hw hs hc
    simp only at hw
    refine ⟨(k : Int), n, k, rfl, ?_, hw.1, by omega, hs, .inr ⟨by omega, rfl, hc2⟩⟩
    rw [hc, List.drop_drop]

/-! ### text.wrong -/
theorem decodeGo_at (s : ByteArray) (pos : Nat) (h : pos < s.size) : Lib.decodeGo (s.extract pos s.size) = Utf8.decode s pos := by
  have hz : ¬ (s.extract pos s.size).size = 0 := by simp [ByteArray.size_extract]; omega
  have e : (s.extract pos s.size).data.toList = s.data.toList.drop pos := by
    rw [Lib.extract_to_end]
  unfold Lib.decodeGo
  rw [if_neg hz]
  have h0 := Lib.decodeL_drop (s.extract pos s.size) 0
  rw [List.drop_zero, e, Lib.decodeL_drop] at h0
  exact h0.symm

theorem wrong_any (s : ByteArray) (pos k n : Nat) (w : World) (hE : Env w) (_hs : s.size ≤ 1000000000000) (hp : pos < s.size) (hd : Utf8.decode s pos = (k, n)) (b : Bool) (hb : b = (decide (k = 65533) && decide (n = 1))) :
    Calls Tryz.prog 161 #[.string s, .int .i64 pos, .int .i32 k] w fun e w' => e = .returned (.bool b) ∧ Below w.heap.size w w' := by
  have HD := Lib.hid (decodeGo_at s pos hp); have HK := Lib.hid hd; have HB := Lib.hid hb
  clear hd hb
  by_cases hk : k = 65533
  · subst hk
    go_enter Tryz.func161, Tryz.ntmps161
    go_wp2_with fail
    refine (Tryz.utf8_DecodeRuneInString _ _ hE.tabs).mono ?_
    rintro e w1 ⟨rfl, hb1⟩
    rw [HD.out, HK.out]
    go_wp2
    go_ret
    refine ⟨?_, hb1⟩
    rw [HB.out]; simp
    cases Classical.em (n = 1) with
    | inl h => subst h; rfl
    | inr h => simp [h]; omega
  · have hk1 : ((k : Int) != 65533) = true := by rw [bne_iff_ne]; omega
    go_enter Tryz.func161, Tryz.ntmps161
    go_wp2
    go_ret
    refine ⟨?_, Below.refl _ _⟩
    rw [HB.out]; simp [hk]

/-! ### One round of a range over a string -/
theorem ownBlock_iter {w : World} {B e sz n b pos : Nat} {v : Value} {xs : List Value} {s : ByteArray} (h : w.ownsRow B e sz v n xs) (hk : w.heap[b]? = some (.stringIter s pos)) : v.ownBlock ≠ some b := by
  rcases h.2 with ⟨rfl, _⟩ | ⟨g, cap, cur, rfl, _, hg, _⟩
  · simp [Value.ownBlock]
  · intro e
    simp only [Value.ownBlock, Option.some.injEq] at e
    subst e
    rw [hg] at hk
    cases hk
theorem grownBy_iterAt (w : World) (k : Nat) (s : ByteArray) (pos : Nat) : w.grownBy (w.iterAt k s pos) (some k) :=
  ⟨rfl, rfl, rfl, Nat.le_of_eq (Lib.iterAt_size w k s pos).symm, fun j _ hj => Lib.iterAt_other w k j s pos (fun e => hj (by rw [e]))⟩
theorem owns_next {w w' : World} {B e sz n : Nat} {v : Value} {xs : List Value} (h : w.ownsRow B e sz v n xs) (hb : Below w.heap.size w w') : w'.ownsRow B e sz v n xs :=
  h.kept (grown_of_below hb) (by cases v.ownBlock <;> simp)
theorem range_step {a wr : World} {b pos : Nat} {s : ByteArray} (hit : wr.heap[b]? = some (.stringIter s pos)) (hbw : Below a.heap.size a wr) (hb : a.heap.size ≤ b) (hE : Env wr) (hp : pos < s.size) :
    ∃ (r : Int) (n k : Nat) (W : World), (∀ ty, (Instr.next (.pointer (some ⟨b, 0, none⟩)) true ty).run Tryz.prog wr = .ok (.tuple #[.bool true, .int .i64 pos, .int .i32 k]) W) ∧
      Hid (Utf8.decode s pos = (k, n)) ∧ Hid (Txt.toks (s.data.toList.drop pos) = (r, (s.data.toList.drop pos).take n) :: Txt.toks (s.data.toList.drop (pos + n))) ∧
      1 ≤ n ∧ pos + n ≤ s.size ∧ Hid (Txt.Shape (r, (s.data.toList.drop pos).take n)) ∧ Hid ((r = -1 ∧ k = 65533 ∧ n = 1) ∨ (0 ≤ r ∧ r = (k : Int) ∧ ¬ (k = 65533 ∧ n = 1))) ∧ k ≤ 2147483647 ∧
      W.heap[b]? = some (.stringIter s (pos + n)) ∧ Below a.heap.size a W ∧ Env W ∧ b < W.heap.size ∧ Hid (wr.grownBy W (some b)) ∧ Hid (∀ B c l, Bld B c l wr → Bld B c l W) ∧
      Hid (∀ B e sz v m xs, wr.ownsRow B e sz v m xs → W.ownsRow B e sz v m xs) := by
  obtain ⟨r, n, k, hd, htk, hn1, hn2, hsh, hrk⟩ := next_tok s pos hp
  have hnx : ∀ ty, (Instr.next (.pointer (some ⟨b, 0, none⟩)) true ty).run Tryz.prog wr = _ := fun ty => Lib.run_next_any_at wr b s pos ty hit hp
  have hk0 : k ≤ 2147483647 := by have := decode_le s pos; rw [hd] at this; exact this
  rw [hd] at hnx
  have hsz := (Array.getElem?_eq_some_iff.1 hit).1
  exact ⟨r, n, k, wr.iterAt b s (pos + n), hnx, hd, htk, hn1, hn2, hsh, hrk, hk0, Lib.iterAt_heap wr b s pos (pos + n) hit, Lib.below_iterAt hbw hb s (pos + n), hE.iterAt hit _, by rw [Lib.iterAt_size]; exact hsz,
    grownBy_iterAt wr b s _, fun B c l h => h.iterAt hit _, fun B e sz v m xs h => h.kept (grownBy_iterAt wr b s (pos + n)) (.inr (ownBlock_iter h hit))⟩
theorem range_end {wr : World} {b pos : Nat} {s : ByteArray} (hit : wr.heap[b]? = some (.stringIter s pos)) (hp : ¬ pos < s.size) :
    ∀ ty, (Instr.next (.pointer (some ⟨b, 0, none⟩)) true ty).run Tryz.prog wr = .ok (.tuple #[.bool false]) wr := fun ty => Lib.run_next_end_at wr b s pos ty hit hp
theorem toks_end (s : ByteArray) (pos : Nat) (hp : ¬ pos < s.size) : Txt.toks (s.data.toList.drop pos) = [] := by
  rw [List.drop_eq_nil_of_le (by rw [← Lib.size_eq]; omega), Txt.toks_nil]

/-! ### Slices that read as lists -/
/-- A slice value that reads as cells: an element takes so many. -/
def Cells (w : World) (v : Value) (sz n : Nat) (xs : List Value) : Prop :=
  xs.length = n * sz ∧ ((n = 0 ∧ ∃ a c, v = .slice a 0 c) ∨ ∃ b o c, v = .slice (some ⟨b, o, none⟩) n c ∧ ∀ j u, xs[j]? = some u → w.cell? ⟨b, o + j, none⟩ = some u)
theorem Cells.next {w w' : World} {v : Value} {sz n : Nat} {xs : List Value} (h : Cells w v sz n xs) (hb : Below w.heap.size w w') : Cells w' v sz n xs := by
  refine ⟨h.1, ?_⟩
  rcases h.2 with h | ⟨b, o, c, h1, h2⟩
  · exact .inl h
  · exact .inr ⟨b, o, c, h1, fun j u hj => cell_kept hb (Nat.le_refl _) (h2 j u hj)⟩
theorem cells_of_owns {w : World} {B e sz n : Nat} {v : Value} {xs : List Value} (h : w.ownsRow B e sz v n xs) : Cells w v sz n xs := by
  refine ⟨h.1, ?_⟩
  rcases h.2 with ⟨h1, h2⟩ | ⟨g, cap, cur, rfl, hb, hg, hc, hm, hs, ht⟩
  · exact .inl ⟨h2, _, _, h1⟩
  · refine .inr ⟨g, 0, cap, rfl, fun j u hj => ?_⟩
    have := h.cells (g := g) rfl j u hj
    rw [show ((⟨g, 0, none⟩ : Addr).add j) = ⟨g, 0 + j, none⟩ by unfold Addr.add; split <;> simp_all] at this
    exact this
/-- What an append onto a row of the call's own (from block a.heap.size on) leaves as it was. -/
theorem append_keeps {a W1 w2 : World} {e sz n : Nat} {v : Value} {xs : List Value} {o : Obj} (hown : W1.ownsRow a.heap.size e sz v n xs) (hg : (W1.alloc o).grownBy w2 v.ownBlock) (hb : Below a.heap.size a W1) (ha : Env a) :
    Below a.heap.size a w2 ∧ Env w2 ∧ W1.heap.size < w2.heap.size ∧ ∀ (k pos : Nat) (s : ByteArray), W1.heap[k]? = some (.stringIter s pos) → w2.heap[k]? = some (.stringIter s pos) := by
  have h1 := hb.size
  have h2 : Below a.heap.size a w2 := (hb.alloc h1 _).grown hg (by simp; omega) (fun k hk => (hown.lt k hk).1)
  refine ⟨h2, ha.next h2, by have := hg.size; simp at this; omega, fun k pos s hk => ?_⟩
  have hlt := (Array.getElem?_eq_some_iff.1 hk).1
  rw [hg.block k (by simp; omega) (fun e => ownBlock_iter hown hk e.symm), Below.heap_alloc _ _ _ hlt]
  exact hk
theorem foldl_push (l : List UInt8) : ∀ s : ByteArray, (l.map fun b => ((b.toNat : Nat) : Int)).foldl (fun r n => r.push (UInt8.ofNat n.toNat)) s = ⟨(s.data.toList ++ l).toArray⟩ := by
  induction l with
  | nil => intro s; simp
  | cons b l ih =>
    intro s
    simp only [List.map_cons, List.foldl_cons, ih]
    simp [ByteArray.push]
theorem run_string_owned {w : World} {B : Nat} {v : Value} {acc : List UInt8} (hown : w.ownsRow B 5 1 v acc.length (Lib.byteCells acc)) :
    (convert 266 9 v).run Tryz.prog w = .ok (.string ⟨acc.toArray⟩) w := by
  rcases hown.2 with ⟨rfl, h0⟩ | ⟨g, cap, cur, rfl, hb, hg, hc, hm, hs, ht⟩
  · have : acc = [] := List.eq_nil_of_length_eq_zero h0
    subst this
    rw [run_convert_bytes_string w _ _ 5 _ _ _ Tryz.underlying266 Tryz.underlying5 Tryz.underlying9]
    rfl
  · rw [run_convert_bytes_string w _ _ 5 _ _ _ Tryz.underlying266 Tryz.underlying5 Tryz.underlying9]
    have h := run_loadCells_list (P := Tryz.prog) w (⟨g, 0, none⟩ : Addr) (Lib.byteCells acc) (fun j u hj => hown.cells (g := g) rfl j u hj)
    rw [Lib.byteCells_length] at h
    have e : Lib.byteCells acc = (acc.map fun b => ((b.toNat : Nat) : Int)).map (Value.int .u8) := by simp [Lib.byteCells]
    rw [e] at h
    rw [run_bytesToString w _ _ _ _ h, foldl_push]
    rfl
def intCells (l : List Int) : List Value := l.map (Value.int .i64)
def strCells (l : List (List UInt8)) : List Value := l.map fun x => Value.string ⟨x.toArray⟩
end Go.Proofs.YtgddgipjpdjoaaaGreatDoor
