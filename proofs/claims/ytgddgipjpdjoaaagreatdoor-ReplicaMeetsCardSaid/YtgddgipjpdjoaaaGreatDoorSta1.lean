/-
  index.Add: an event more at a stream.
  Plain Lean, no program in sight: a state (layer 15): what Apply makes of it, and a row of entries.
-/
import Derived.Test.YtgddgipjpdjoaaaGreatDoorTab1
import Derived.Deep.AppendLies
import Derived.Deep.CutBlock
namespace Go.Proofs.YtgddgipjpdjoaaaGreatDoor
open Go.RowKit Go.Shelf
def MidX (w : World) (x bm : Nat) (D : DataW Value) (g : List UInt8 → Value) (f : Streams) (ev : Int) (n : Nat) (ft : Nat → Prop) : Prop :=
   w.heap[x]? = some (.cells #[.map (some bm), .int .i64 ev] 242 (0, 0)) ∧ w.ownsMap Tryz.prog 9 heldR bm n D ∧ ft x ∧ ft bm ∧
   (∀ k, D.atKey (.string k) (.held (.slice none 0 0)) = .held (g k)) ∧
   (∀ k, w.ownsRow 0 244 3 (g k) (f k).length (keptCells (f k)) ∧ (f k).length ≤ n ∧ ∀ b, (g k).ownBlock = some b → ft b ∧ b ≠ x ∧ b ≠ bm) ∧
   (∀ k k' b, (g k).ownBlock = some b → (g k').ownBlock = some b → k = k') ∧ (∀ k, f k = [] → ∀ z, D.atKey (.string k) z = z)
def addOne (f : Streams) (pos : Int) (nm : List UInt8) (e : Evt.Event) : Streams := fun k => if k = nm then f k ++ [(pos, e)] else f k
def addAll (f : Streams) (pos : Int) (nm : List UInt8) (es : List Evt.Event) : Streams := fun k => if k = nm then f k ++ es.map (fun e => (pos, e)) else f k
theorem addAll_nil (f : Streams) (pos : Int) (nm : List UInt8) : addAll f pos nm [] = f := by
 funext k
 simp [addAll]
theorem addAll_snoc (f : Streams) (pos : Int) (nm : List UInt8) (es : List Evt.Event) (e : Evt.Event) : addOne (addAll f pos nm es) pos nm e = addAll f pos nm (es ++ [e]) := by
 funext k
 by_cases h : k = nm <;> simp [addOne, addAll, h]
theorem MidX.of {w : World} {x n : Nat} {f : Streams} {ft : Nat → Prop} (h : IsX w x f n ft) : ∃ bm D g, MidX w x bm D g f (n : Int) n ft := h
theorem MidX.kept {w w' : World} {x bm n : Nat} {D : DataW Value} {g : List UInt8 → Value} {f : Streams} {ev : Int} {ft : Nat → Prop} (h : MidX w x bm D g f ev n ft) (hk : ∀ j, j < w.heap.size → ft j → w'.heap[j]? = w.heap[j]?) : MidX w' x bm D g f ev n ft := by
 obtain ⟨h1, h2, h3, h4, h5, h6, h7⟩ := h
 exact ⟨(hk x (Array.getElem?_eq_some_iff.1 h1).1 h3).trans h1, ownsMap_atH h2 (hk bm h2.lt h4), h3, h4, h5, fun k => ⟨ownsRow_at (h6 k).1 fun b hb hl => hk b hl ((h6 k).2.2 b hb).1, (h6 k).2⟩, h7⟩
theorem MidX.next {w w' : World} {x bm n : Nat} {D : DataW Value} {g : List UInt8 → Value} {f : Streams} {ev : Int} {ft : Nat → Prop} (h : MidX w x bm D g f ev n ft) (hb : Below w.heap.size w w') : MidX w' x bm D g f ev n ft := h.kept fun j hj _ => hb.block j hj
theorem keptCells_snoc (l : List (Int × Evt.Event)) (p : Int × Evt.Event) : keptCells (l ++ [p]) = keptCells l ++ [.int .i64 p.1, .string ⟨p.2.kind.toArray⟩, .string ⟨p.2.data.toArray⟩] := by
 simp [keptCells]
theorem MidX.put {w W w2 w3 : World} {x bm n gb cap : Nat} {D : DataW Value} {g : List UInt8 → Value} {f : Streams} {ev pos : Int} {ft : Nat → Prop} {nm : List UInt8} {e : Evt.Event}
   (h : MidX w x bm D g f ev n ft) (hW : Below w.heap.size w W)
   (hown : w2.ownsRow 0 244 3 (.slice (some ⟨gb, 0, none⟩) ((f nm).length + 1) cap) ((f nm).length + 1) (keptCells (f nm) ++ [.int .i64 pos, .string ⟨e.kind.toArray⟩, .string ⟨e.data.toArray⟩]))
   (hg : W.grownBy w2 (g nm).ownBlock) (hl : (g nm).ownBlock = some gb ∨ w.heap.size ≤ gb) (hlt : gb < w2.heap.size)
   (hkey : WideAt.IsKeyLit (.string nm))
   (hmap : w3.ownsMap Tryz.prog 9 heldR bm (n + 1) (D.put (.string nm) (.held (.slice (some ⟨gb, 0, none⟩) ((f nm).length + 1) cap)))) (hg3 : w2.grownBy w3 (some bm)) :
   MidX w3 x bm (D.put (.string nm) (.held (.slice (some ⟨gb, 0, none⟩) ((f nm).length + 1) cap))) (fun k => if k = nm then .slice (some ⟨gb, 0, none⟩) ((f nm).length + 1) cap else g k) (addOne f pos nm e) ev (n + 1) (fun j => ft j ∨ (w.heap.size ≤ j ∧ j < w3.heap.size)) := by
 obtain ⟨h1, h2, h3, h4, h5, h6, h7, h8⟩ := h
 have hx := (Array.getElem?_eq_some_iff.1 h1).1
 have hm := h2.lt
 have hxm : x ≠ bm := by
   intro e
   obtain ⟨es, c, hh, _⟩ := h2
   rw [← e, h1] at hh
   cases hh
 have hgx : gb ≠ x := by
   rcases hl with hl | hl
   · exact ((h6 nm).2.2 gb hl).2.1
   · omega
 have hgm : gb ≠ bm := by
   rcases hl with hl | hl
   · exact ((h6 nm).2.2 gb hl).2.2
   · omega
 have keep2 : ∀ j, j < w.heap.size → (g nm).ownBlock ≠ some j → w2.heap[j]? = w.heap[j]? := fun j hj hne => (hg.block j (Nat.lt_of_lt_of_le hj hW.size) (fun e => hne e.symm)).trans (hW.block j hj)
 have keep3 : ∀ j, j < w.heap.size → (g nm).ownBlock ≠ some j → j ≠ bm → w3.heap[j]? = w.heap[j]? := fun j hj hne hb => (hg3.block j (Nat.lt_of_lt_of_le hj (Nat.le_trans hW.size hg.size)) (by simpa using hb)).trans (keep2 j hj hne)
 refine ⟨(keep3 x hx (fun e => ((h6 nm).2.2 x e).2.1 rfl) hxm).trans h1, hmap, .inl h3, .inl h4, fun k => ?_, fun k => ?_, fun k k' b hb hb' => ?_, fun k hk0 z => ?_⟩
 · by_cases hk : k = nm
   · subst hk
     simp only [if_true]
     exact Maps.atKey_put_same h2.isMap hkey _ _
   · simp only [if_neg hk]
     rw [Maps.atKey_put_other (by simpa using hk)]
     exact h5 k
 · by_cases hk : k = nm
   · subst hk
     simp only [if_true, addOne]
     refine ⟨?_, ?_, fun b hb => ?_⟩
     · rw [keptCells_snoc, List.length_append]
       exact hown.kept hg3 (.inr (by simpa [Value.ownBlock] using hgm))
     · have := (h6 k).2.1
       simp
       omega
     · obtain rfl : gb = b := by simpa [Value.ownBlock] using hb
       refine ⟨?_, hgx, hgm⟩
       rcases hl with hl | hl
       · exact .inl ((h6 k).2.2 gb hl).1
       · exact .inr ⟨hl, Nat.lt_of_lt_of_le hlt hg3.size⟩
   · simp only [if_neg hk, addOne]
     refine ⟨ownsRow_at (h6 k).1 fun b hb hlb => keep3 b hlb (fun e => hk (h7 k nm b hb e)) ((h6 k).2.2 b hb).2.2, Nat.le_succ_of_le (h6 k).2.1, fun b hb => ⟨.inl ((h6 k).2.2 b hb).1, ((h6 k).2.2 b hb).2⟩⟩
 · have far : ∀ k, k ≠ nm → (g k).ownBlock = some gb → False := fun k hk hb => by
     rcases hl with hl | hl
     · exact hk (h7 k nm gb hb hl)
     · rcases (h6 k).1.2 with ⟨h0, _⟩ | ⟨gg, cap', cur, h0, _, hh, _⟩
       · rw [h0] at hb; cases hb
       · rw [h0] at hb
         obtain rfl : gg = gb := by simpa [Value.ownBlock] using hb
         have := (Array.getElem?_eq_some_iff.1 hh).1
         omega
   by_cases hk : k = nm <;> by_cases hk' : k' = nm
   · rw [hk, hk']
   · simp only [if_pos hk] at hb
     simp only [if_neg hk'] at hb'
     obtain rfl : gb = b := by simpa [Value.ownBlock] using hb
     exact (far k' hk' hb').elim
   · simp only [if_neg hk] at hb
     simp only [if_pos hk'] at hb'
     obtain rfl : gb = b := by simpa [Value.ownBlock] using hb'
     exact (far k hk hb).elim
   · simp only [if_neg hk] at hb
     simp only [if_neg hk'] at hb'
     exact h7 k k' b hb hb'
 · by_cases hk : k = nm
   · simp [addOne, hk] at hk0
   · rw [Maps.atKey_put_other (by simpa using hk)]
     simp only [addOne, if_neg hk] at hk0
     exact h8 k hk0 z
theorem keptT : ElemT Tryz.prog 240 244 3 := by
 have h : (Tryz.prog.info? 244).map (fun i => (i.zero, i.size, i.bytes)) = some (some (.agg #[.int .i64 0, .string ⟨#[]⟩, .string ⟨#[]⟩]), 3, 40) := by kernel_rfl
 obtain ⟨i0, hi, hz0, hz1, hz2⟩ := info_parts h
 exact ⟨Tryz.underlying240, ⟨i0, _, 40, hi, hz0, hz1, hz2, rfl, by omega⟩, by omega⟩
theorem step_append_one {P : Program} {ops : Array Oper} {o : Oper} {a : Act} {w : World} {K : Act → World → Prop} {Q : Exit → Act → World → Prop} {EE : Prop} (hgd : o.guard = none) (s x : Operand) {t e : TypeId} {sz : Nat}
   (ho : o.op = .call { callee := .builtin .append, args := #[s, x], argTypes := #[t, t] }) (E : ElemT P t e sz) (v : Value) (n : Nat) (xs : List Value) (hs : a.eval s = v) (hown : w.ownsRow 0 e sz v n xs) (B : Nat) (news : List Value) (fr : Nat × Nat) (hx : a.eval x = .slice (some ⟨B, 0, none⟩) 1 1) (ne : TypeId) (hB : w.heap[B]? = some (.cells news.toArray ne fr)) (hl : news.length = sz)
   (h1 : ∀ u ∈ news, u.oneCell' = true) (hn : n ≤ 1000000000)
   (h : ∀ g cap w', w'.ownsRow 0 e sz (.slice (some ⟨g, 0, none⟩) (n + 1) cap) (n + 1) (xs ++ news) → w.grownBy w' v.ownBlock → (v.ownBlock = some g ∨ g = w.heap.size) → g < w'.heap.size → K (a.put o.dst (.slice (some ⟨g, 0, none⟩) (n + 1) cap)) w') :
   if Region.wanted o (yielded ops a.tmps) = true then Oper.wp P o a w K Q else EE := by
 obtain ⟨i, z, bytes, h2, h3, h4, h5, h6, h7⟩ := E.info
 refine step_append_lies w hgd s x t ho 0 e i z sz bytes E.und h2 h3 h4 h5 h6 E.pos v n xs hs hown ⟨B, 0, none⟩ 1 1 news hx (by omega) ?_ h1 (by omega) (by unfold maxLen; omega) ?_ (Nat.zero_le _) _ rfl h
 · intro j u hj
   rw [show ((⟨B, 0, none⟩ : Addr).add j) = ⟨B, j, none⟩ by unfold Addr.add; split <;> simp_all, Lib.cell_of_heap hB]
   simpa using hj
 · have : (n + 1) * bytes ≤ (n + 1) * 128 := Nat.mul_le_mul_left _ h7
   omega
theorem MidX.turn {w wr W w2 w3 : World} {x bm n gb cap : Nat} {D : DataW Value} {g : List UInt8 → Value} {f f' : Streams} {ev pos : Int} {ft ft' : Nat → Prop} {nm : List UInt8} {e : Evt.Event} {K Dd : ByteArray}
   (h : MidX wr x bm D g f ev n ft') (hT : Turn ft w wr) (hf : ∀ j, ft' j → ft j ∨ w.heap.size ≤ j) (hW : Below wr.heap.size wr W) (hK : (⟨e.kind.toArray⟩ : ByteArray) = K) (hD : (⟨e.data.toArray⟩ : ByteArray) = Dd)
   (hown : w2.ownsRow 0 244 3 (.slice (some ⟨gb, 0, none⟩) ((f nm).length + 1) cap) ((f nm).length + 1) (keptCells (f nm) ++ [.int .i64 pos, .string K, .string Dd]))
   {u : Value} (hu : g nm = u) (hg : W.grownBy w2 u.ownBlock) (hl : u.ownBlock = some gb ∨ gb = W.heap.size) (hlt : gb < w2.heap.size)
   (hmap : w3.ownsMap Tryz.prog 9 heldR bm (n + 1) (D.put (.string nm) (.held (.slice (some ⟨gb, 0, none⟩) ((f nm).length + 1) cap)))) (hg3 : w2.grownBy w3 (some bm)) (hf' : addOne f pos nm e = f') :
   ∃ D3 g3 ft3, MidX w3 x bm D3 g3 f' ev (n + 1) ft3 ∧ (∀ j, ft3 j → ft j ∨ w.heap.size ≤ j) ∧ Turn ft w w3 := by
 subst hK hD hu hf'
 have hs := hW.size
 have hw := hT.size
 have hl' : (g nm).ownBlock = some gb ∨ wr.heap.size ≤ gb := hl.imp id (fun e => by omega)
 have hT2 : Turn ft' wr w3 := ⟨(hg3.os.trans hg.os).trans hW.os, (hg3.tape.trans hg.tape).trans hW.tape, (hg3.output.trans hg.output).trans hW.output, Nat.le_trans hs (Nat.le_trans hg.size hg3.size), fun j hj hn => by
   have a1 := hW.block j hj
   have a2 := hg.block j (by omega) (fun e => hn (((h.2.2.2.2.2.1 nm).2.2 j e.symm).1))
   have a3 := hg3.block j (by have := hg.size; omega) (fun e => hn (by cases e; exact h.2.2.2.1))
   exact a3.trans (a2.trans a1)⟩
 exact ⟨_, _, _, h.put hW hown hg hl' hlt (by trivial) hmap hg3, fun j hj => by
   rcases hj with hj | hj
   · exact hf j hj
   · exact .inr (by omega), hT.trans hT2 hf⟩
theorem MidX.setN {w : World} {x bm n : Nat} {D : DataW Value} {g : List UInt8 → Value} {f : Streams} {ev m : Int} {ft : Nat → Prop} (h : MidX w x bm D g f ev n ft) (hm : m = (n : Int)) :
   IsX (w.setCell ⟨x, 1, none⟩ (.int .i64 m)) x f n ft ∧ Turn ft w (w.setCell ⟨x, 1, none⟩ (.int .i64 m)) := by
 subst hm
 obtain ⟨h1, h2, h3, h4, h5, h6, h7⟩ := h
 have hg : w.grownBy (w.setCell ⟨x, 1, none⟩ (.int .i64 (n : Int))) (some x) := grown_set _ _ _ _
 have hxm : bm ≠ x := by
   intro e
   obtain ⟨es, c, hh, _⟩ := h2
   rw [e, h1] at hh
   cases hh
 exact ⟨⟨bm, D, g, setCell_at (i := 1) h1 _, ownsMap_atH h2 (hg.block bm h2.lt (by simpa using hxm)), h3, h4, h5, fun k => ⟨ownsRow_at (h6 k).1 fun b hb hl => hg.block b hl (by simpa using ((h6 k).2.2 b hb).2.1), (h6 k).2⟩, h7⟩, Turn.of_grown hg h3⟩
set_option maxHeartbeats 4000000 in
set_option maxRecDepth 100000 in
theorem indexAdd_any (x : Nat) (f : Streams) (n : Nat) (ft : Nat → Prop) (pos : Int) (nm : ByteArray) (v : Value) (es : List Evt.Event) (w : World) (h : IsX w x f n ft) (hs : nm.size ≤ 1000000000000) (hv : ∀ w', Turn ft w w' → Evs w' v es) (hn : n + es.length ≤ 1000000000) :
   Calls Tryz.prog 167 #[.pointer (some ⟨x, 0, none⟩), .int .i64 pos, .string nm, v] w fun e w' => ∃ ft', e = .returned (.int .i64 ((f nm.data.toList).length : Nat)) ∧ IsX w' x (addAll f pos nm.data.toList es) (n + es.length) ft' ∧ (∀ j, ft' j → ft j ∨ w.heap.size ≤ j) ∧ Turn ft w w' := by
 obtain ⟨sa, sl, sc, rfl⟩ := evs_slice (hv w (Turn.refl _ _))
 have hsl : sl = es.length := by
   rcases cellsNil (hv w (Turn.refl _ _)) with ⟨h, a', c'', e⟩ | ⟨b'', o'', c'', e⟩
   · cases e; omega
   · cases e; rfl
 subst hsl
 obtain ⟨bm, D, g, hM⟩ := MidX.of h
 have d0 : w.cell? ⟨x, 0, none⟩ = some (.map (some bm)) := by rw [Lib.cell_of_heap hM.1]; rfl
 have hrun := look_kept hM.2.1 hM.2.2.2.2.1 nm hs
 obtain ⟨a, c, hgv⟩ := owns_slice (hM.2.2.2.2.2.1 nm.data.toList).1
 rw [hgv] at hrun
 have HM := Lib.hid hM
 have HV := Lib.hid hv
 clear hM h hgv hv
 go_enter Tryz.func167, Tryz.ntmps167
 go_wp2
 clear hrun d0
 go_loopw [21] (fun lv wr => ∃ (i : Nat) (D' : DataW Value) (g' : List UInt8 → Value) (ft' : Nat → Prop), lv = .int .i64 i ∧ i ≤ es.length ∧ MidX wr x bm D' g' (addAll f pos nm.data.toList (es.take i)) (n : Int) (n + i) ft' ∧ (∀ j, ft' j → ft j ∨ w.heap.size ≤ j) ∧ Turn ft w wr) (fun lv _ => es.length - (Go.RowKit.intOf lv).toNat)
 case atStart => exact ⟨0, D, g, ft, rfl, by omega, by rw [List.take_zero, addAll_nil]; exact HM.out, fun j hj => .inl hj, Turn.refl _ _⟩
 case round =>
   obtain ⟨i, D', g', ft', rfl, hi, hM, hf, hT⟩ := hrel
   by_cases hp : i < es.length
   · obtain ⟨b2, o2, c2, hv2, e1, e2⟩ := evAt (HV.out wr hT) i hp
     cases hv2
     obtain ⟨y, hy⟩ : ∃ y, es[i] = y := ⟨_, rfl⟩
     rw [hy] at e1 e2
     have HN := Lib.hid (show addOne (addAll f pos nm.data.toList (es.take i)) pos nm.data.toList y = addAll f pos nm.data.toList (es.take (i + 1)) by
       rw [addAll_snoc, List.take_succ_eq_append_getElem hp, hy])
     have hF : (f nm.data.toList).length ≤ n := (HM.out.2.2.2.2.2.1 nm.data.toList).2.1
     obtain ⟨F, hFe⟩ : ∃ F, addAll f pos nm.data.toList (es.take i) = F := ⟨_, rfl⟩
     rw [hFe] at hM HN
     obtain ⟨K, hK, hK2, hK3⟩ := str_of y.kind
     obtain ⟨Dd, hDd, hD2, hD3⟩ := str_of y.data
     rw [hK] at e1
     rw [hDd] at e2
     have HM2 := Lib.hid hM
     have HT := Lib.hid hT
     clear hM hT HM
     go_upto_block 1 with fail
     go_cut [] (fun wx => ∃ D3 g3 ft3, MidX wx x bm D3 g3 (addAll f pos nm.data.toList (es.take (i + 1))) (n : Int) (n + i + 1) ft3 ∧ (∀ j, ft3 j → ft j ∨ w.heap.size ≤ j) ∧ Turn ft w wx)
     case rest =>
      obtain ⟨D3, g3, ft3, hM3, hf3, hT3⟩ := hcut
      have HM3 := Lib.hid hM3
      have HT3 := Lib.hid hT3
      clear hM3 hT3 HM2 HT
      go_wp2
      exact ⟨⟨i + 1, D3, g3, ft3, by go_num, by omega, HM3.out, hf3, HT3.out⟩, by simp [Go.RowKit.intOf]; omega⟩
     case first =>
     go_upto_region 5 with fail
     generalize hW1 : wr.alloc (.cells #[.string K, .string Dd] 149) = W1
     have hbW : Below wr.heap.size wr W1 := by rw [← hW1]; exact (Below.refl _ wr).alloc (Nat.le_refl _) _
     have hB1 : W1.heap[wr.heap.size]? = some (.cells #[.string K, .string Dd] 149 (0, 0)) := by rw [← hW1]; exact heap_alloc_new wr _
     have e0 : W1.drew.cell? ⟨wr.heap.size, 0, none⟩ = some (.string K) := by
       show W1.cell? _ = _
       rw [Lib.cell_of_heap hB1]; rfl
     have e1 : W1.drew.cell? ⟨wr.heap.size, 1, none⟩ = some (.string Dd) := by
       show W1.cell? _ = _
       rw [Lib.cell_of_heap hB1]; rfl
     clear hW1
     have hM1 : MidX W1.drew x bm D' g' F (n : Int) (n + i) ft' := HM2.out.next hbW.drew
     have hbK : ∀ o, Below wr.heap.size wr (W1.alloc o).drew := fun o => (hbW.alloc hbW.size o).drew
     have x0 : W1.drew.cell? ⟨x, 0, none⟩ = some (.map (some bm)) := by rw [Lib.cell_of_heap hM1.1]; rfl
     have hM3 := HM2.out.next (hbK (.cells #[.int .i64 pos, .string K, .string Dd] 244))
     have x1 : (W1.alloc (.cells #[.int .i64 pos, .string K, .string Dd] 244)).drew.cell? ⟨x, 0, none⟩ = some (.map (some bm)) := by rw [Lib.cell_of_heap hM3.1]; rfl
     obtain ⟨ga, gc, hgv⟩ := owns_slice (hM1.2.2.2.2.2.1 nm.data.toList).1
     have r0 := look_kept hM1.2.1 hM1.2.2.2.2.1 nm hs
     have r1 := look_kept hM3.2.1 hM3.2.2.2.2.1 nm hs
     rw [hgv] at r0 r1
     have HO := Lib.hid (hM3.2.2.2.2.2.1 nm.data.toList).1
     rw [hgv] at HO
     have HLE := Lib.hid (show (F nm.data.toList).length ≤ 1000000000 by have := (hM1.2.2.2.2.2.1 nm.data.toList).2.1; omega)
     have HKB := Lib.hid (show (W1.alloc (.cells #[.int .i64 pos, .string K, .string Dd] 244)).drew.heap[W1.heap.size]? = some (.cells #[.int .i64 pos, .string K, .string Dd] 244 (0, 0)) from heap_alloc_new W1 _)
     have HBB := Lib.hid (hbK (.cells #[.int .i64 pos, .string K, .string Dd] 244))
     have HGV := Lib.hid hgv
     have HM3 := Lib.hid hM3
     have HNi := Lib.hid (show n + i < maxLen by unfold maxLen; omega)
     clear hM1 hM3 hbK hbW hB1 hgv
     go_region_law (first
       | (refine step_append_one rfl _ _ rfl keptT (.slice ga (F nm.data.toList).length gc) _ _ rfl HO.out _ [.int .i64 pos, .string K, .string Dd] _ rfl _ HKB.out rfl (by simp [Value.oneCell']) HLE.out ?_
          intro gb cap w2 hown hgr hlies hlt
          have hmap2 := ownsMap_atH HM3.out.2.1 (hgr.block bm HM3.out.2.1.lt (fun e => by
            have := (HM3.out.2.2.2.2.2.1 nm.data.toList).2.2 bm (by rw [HGV.out]; exact e.symm)
            exact this.2.2 rfl))
          obtain ⟨w3, hmu, hown3, hg3⟩ := hmap2.update str_keyed Tryz.underlying239 HNi.out (WideMaps.keyOf_string_mk (s := nm) Tryz.underlying9 (by unfold maxLen; omega)) (val := .slice (some ⟨gb, 0, none⟩) ((F nm.data.toList).length + 1) cap) (d := .held (.slice (some ⟨gb, 0, none⟩) ((F nm.data.toList).length + 1) cap)) (ps := []) rfl
          have x2 : w2.cell? ⟨x, 0, none⟩ = some (.map (some bm)) := by
            rw [Lib.cell_of_heap ((hgr.block x (Array.getElem?_eq_some_iff.1 HM3.out.1).1 (fun e => by
              have := (HM3.out.2.2.2.2.2.1 nm.data.toList).2.2 x (by rw [HGV.out]; exact e.symm)
              exact this.2.1 rfl)).trans HM3.out.1)]; rfl
          have HFIN := Lib.hid (MidX.turn HM2.out HT.out hf HBB.out hK hDd hown HGV.out hgr hlies hlt hown3 hg3 HN.out)
          clear hown hgr hlies hlt hown3 hg3 hmap2))
     all_goals go_wp2
     all_goals go_meet
     all_goals exact HFIN.out
   · obtain rfl : i = es.length := by omega
     rw [List.take_length] at hM
     have c1 : wr.cell? ⟨x, 1, none⟩ = some (.int .i64 (n : Int)) := by rw [Lib.cell_of_heap hM.1]; rfl
     have fr := Lib.frozen_of_heap hM.1 1
     have hw1 : wrap64 ((n : Int) + (es.length : Int)) = (n : Int) + (es.length : Int) := IntWalk.wrap64_in _ (by omega)
     have HS := Lib.hid (hM.setN (m := (n : Int) + (es.length : Int)) (by omega))
     have HT := Lib.hid hT
     have HF := Lib.hid hf
     clear hM hT hf HM
     go_wp2
     go_ret
     exact ⟨ft', rfl, HS.out.1, HF.out, HT.out.trans HS.out.2 (fun j hj => HF.out j hj)⟩
structure Stat where
 f : Streams
 n : Nat
 S : Sess
 m : Nat
 app : Int
def Stat.new : Stat := ⟨fun _ => [], 0, fun _ => none, 0, 0⟩
def Stat.far (st : Stat) (e : Evt.Entry) : Prop := e.b.expect ≠ -1 ∧ e.b.expect ≠ ((st.f e.b.stream).length : Int)
instance (st : Stat) (e : Evt.Entry) : Decidable (st.far e) := inferInstanceAs (Decidable (_ ∧ _))
def Stat.outc (st : Stat) (e : Evt.Entry) : Outc :=
 if st.far e then ⟨2, e.pos, (st.f e.b.stream).length, (st.f e.b.stream).length⟩ else ⟨1, e.pos, (st.f e.b.stream).length, (st.f e.b.stream).length + e.b.events.length⟩
def Stat.more (st : Stat) (e : Evt.Entry) : Stat :=
 if st.far e then st else ⟨addAll st.f e.pos e.b.stream e.b.events, st.n + e.b.events.length, st.S, st.m, st.app⟩
def Stat.at (st : Stat) (p : Int) : Stat := ⟨st.f, st.n, st.S, st.m, p⟩
def Stat.put (st : Stat) (k q : Int) (o : Outc) : Stat := ⟨st.f, st.n, putS st.S k q o, st.m + 2, st.app⟩
def Stat.apply (st : Stat) (e : Evt.Entry) : (Outc × Nat) × Stat :=
 if Evt.rightN e = false then ((⟨0, 0, 0, 0⟩, 1), st) else
 if e.pos ≠ st.app + 1 then ((⟨0, 0, 0, 0⟩, 11), st) else
 if (lookF st.S e.b.session e.b.seq).2 = 1 then (((lookF st.S e.b.session e.b.seq).1, 0), st.at e.pos) else
 if (lookF st.S e.b.session e.b.seq).2 = 2 then ((⟨3, e.pos, 0, 0⟩, 0), st.at e.pos) else
 (((st.outc e), 0), ((st.more e).at e.pos).put e.b.session e.b.seq (st.outc e))
def Stat.plays (st : Stat) : List Evt.Entry → List (Evt.Entry × Outc) × Stat
 | [] => ([], st)
 | e :: l => ((e, (st.apply e).1.1) :: ((st.apply e).2.plays l).1, ((st.apply e).2.plays l).2)
theorem Stat.plays_len : ∀ (l : List Evt.Entry) (st : Stat), (st.plays l).1.length = l.length
 | [], _ => rfl
 | _ :: l, st => by simp [Stat.plays, Stat.plays_len l]
structure Stat.Ok (st : Stat) : Prop where
 s : SOk st.S
 n : st.n ≤ 8 * st.app.toNat
 m : st.m ≤ 2 * st.app.toNat
 a : 0 ≤ st.app
theorem Stat.ok_new : Stat.new.Ok := ⟨sok_none, Nat.zero_le _, Nat.zero_le _, Int.le_refl _⟩
theorem right_parts {e : Evt.Entry} (h : Evt.rightN e = true) : 1 ≤ e.pos ∧ e.pos ≤ 274877906944 ∧ 1 ≤ e.epoch ∧ e.epoch ≤ 274877906944 ∧ 1 ≤ e.b.session ∧ e.b.session ≤ 274877906944 ∧ 1 ≤ e.b.seq ∧ e.b.seq ≤ 274877906944 ∧ e.b.events.length ≤ 8 := by
 unfold Evt.rightN at h
 simp only [Bool.and_eq_true, beq_iff_eq] at h
 obtain ⟨⟨h1, h2⟩, h3⟩ := h
 unfold Evt.fits at h3
 split at h3
 · omega
 rename_i h4
 split at h3
 · omega
 rename_i h5
 unfold Evt.headed at h4
 simp only [Bool.not_eq_false, Bool.and_eq_true] at h4
 simp only [Evt.number, Bool.and_eq_true, decide_eq_true_eq] at h1 h2 h4
 exact ⟨h1.1, h1.2, h2.1, h2.2, h4.1.1.2.1, h4.1.1.2.2, h4.1.2.1, h4.1.2.2, by omega⟩
theorem Stat.Ok.apply {st : Stat} (h : st.Ok) (e : Evt.Entry) : (st.apply e).2.Ok ∧ ((st.apply e).2.app = st.app ∨ (st.apply e).2.app = st.app + 1) := by
 have h0 := h.a
 have hn := h.n
 have hm := h.m
 unfold Stat.apply
 split
 · exact ⟨h, .inl rfl⟩
 rename_i hr
 have hr := right_parts (by simpa using hr)
 split
 · exact ⟨h, .inl rfl⟩
 rename_i hp
 have hp : e.pos = st.app + 1 := by omega
 have ht : e.pos.toNat = st.app.toNat + 1 := by omega
 split
 · exact ⟨⟨h.s, by simp only [Stat.at]; omega, by simp only [Stat.at]; omega, by simp only [Stat.at]; omega⟩, .inr hp⟩
 split
 · exact ⟨⟨h.s, by simp only [Stat.at]; omega, by simp only [Stat.at]; omega, by simp only [Stat.at]; omega⟩, .inr hp⟩
 · have key : (st.more e).n ≤ st.n + 8 ∧ (st.more e).m = st.m ∧ (st.more e).S = st.S := by
     unfold Stat.more
     split
     · exact ⟨by omega, rfl, rfl⟩
     · exact ⟨by simp only; omega, rfl, rfl⟩
   refine ⟨⟨?_, ?_, ?_, ?_⟩, .inr hp⟩
   · show SOk (putS (st.more e).S _ _ _)
     rw [key.2.2]
     exact sok_put h.s _ _ _ hr.2.2.2.2.2.2.1 hr.2.2.2.2.2.2.2.1
   · show (st.more e).n ≤ 8 * e.pos.toNat
     omega
   · show (st.more e).m + 2 ≤ 2 * e.pos.toNat
     omega
   · show (0 : Int) ≤ e.pos
     omega
end Go.Proofs.YtgddgipjpdjoaaaGreatDoor
