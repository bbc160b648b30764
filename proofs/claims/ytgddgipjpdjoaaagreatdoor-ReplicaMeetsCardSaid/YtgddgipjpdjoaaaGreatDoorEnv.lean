/-
  What a walk carries from world to world: the tables of the library, a builder, an iterator; the walks of text.wrong and text.hex.
-/
import Derived.Test.YtgddgipjpdjoaaaGreatDoorBld
import Derived.Test.YtgddgipjpdjoaaaGreatDoorPln
import Derived.Lib.Hide
import Derived.Lib.TrimUEq
import Derived.Lib.AppendIntMem
namespace Go.Proofs.YtgddgipjpdjoaaaGreatDoor
open Go.RowKit Go.Shelf
structure Env (w : World) : Prop where
 tabs : Lib.Utf8Tabs 2 3 w
 esyn : ∃ te pe, w.cell? ⟨0, 0, none⟩ = some (.iface te pe)
 erng : ∃ te pe, w.cell? ⟨1, 0, none⟩ = some (.iface te pe)
 pow : ∃ t fr, w.heap[4]? = some (.cells (Lib.pow10Tab.map fun z => Value.int .u64 z).toArray t fr)
theorem cell_kept {w w' : World} {B : Nat} (hb : Below B w w') (hB : w.heap.size ≤ B) {a : Addr} {v : Value} (h : w.cell? a = some v) : w'.cell? a = some v :=
 (hb.cell (Nat.lt_of_lt_of_le (World.block_lt_of_cell? _ _ h) hB)).trans h
theorem heap_kept {w w' : World} {B k : Nat} {o : Obj} (hb : Below B w w') (hB : w.heap.size ≤ B) (h : w.heap[k]? = some o) : w'.heap[k]? = some o :=
 (hb.block k (Nat.lt_of_lt_of_le (Array.getElem?_eq_some_iff.1 h).1 hB)).trans h
theorem Env.next {w w' : World} (h : Env w) (hb : Below w.heap.size w w') : Env w' := by
 have ck : ∀ {a v}, w.cell? a = some v → w'.cell? a = some v := fun hc => cell_kept hb (Nat.le_refl _) hc
 obtain ⟨⟨t1, t2⟩, ⟨a, b, h1⟩, ⟨c, d, h2⟩, ⟨e, f, h3⟩⟩ := h
 exact ⟨⟨fun c hc => ck (t1 c hc), fun i hi => ⟨ck (t2 i hi).1, ck (t2 i hi).2⟩⟩, ⟨a, b, ck h1⟩, ⟨c, d, ck h2⟩, ⟨e, f, heap_kept hb (Nat.le_refl _) h3⟩⟩
theorem grown_of_below {w w' : World} (hb : Below w.heap.size w w') : w.grownBy w' none :=
 ⟨hb.os, hb.tape, hb.output, hb.size, fun k hk _ => hb.block k hk⟩
theorem bldAt_next {T e B b : Nat} {p : Value} {bs : List Value} {w w' : World} (h : Lib.BuilderAtF T e B b p bs w) (hb : Below w.heap.size w w') : Lib.BuilderAtF T e B b p bs w' := by
 obtain ⟨hB, v, hbk, hown, hne⟩ := h
 refine ⟨hB, v, heap_kept hb (Nat.le_refl _) hbk, hown.kept (grown_of_below hb) ?_, hne⟩
 cases hv : v.ownBlock <;> simp
theorem Bld.next {B b : Nat} {l : List UInt8} {w w' : World} (h : Bld B b l w) (hb : Below w.heap.size w w') : Bld B b l w' := by
 rcases h with h | h
 · exact .inl (bldAt_next h hb)
 · exact .inr (bldAt_next h hb)
theorem Bld.alloc {B b : Nat} {l : List UInt8} {w : World} (h : Bld B b l w) (o : Obj) : Bld B b l (w.alloc o) := Lib.IsBuilderF.alloc h o
theorem Below.up {B : Nat} {a w w' : World} (h : Below B a w) (hB : B ≤ a.heap.size) (hb : Below w.heap.size w w') : Below B a w' := h.trans (hb.mono (Nat.le_trans hB h.size))
theorem Env.iterAt {w : World} (h : Env w) {k : Nat} {s : ByteArray} {pos : Nat} (hk : w.heap[k]? = some (.stringIter s pos)) (pos' : Nat) : Env (w.iterAt k s pos') := by
 have ck : ∀ {a v}, w.cell? a = some v → (w.iterAt k s pos').cell? a = some v := by
   intro a v hc
   have hne : a.block ≠ k := by
     intro e
     simp [World.cell?, e, hk] at hc
   rw [World.cell?_of_block (Lib.iterAt_other w k a.block s pos' hne)]
   exact hc
 obtain ⟨⟨t1, t2⟩, ⟨a, b, h1⟩, ⟨c, d, h2⟩, ⟨e, f, h3⟩⟩ := h
 refine ⟨⟨fun c hc => ck (t1 c hc), fun i hi => ⟨ck (t2 i hi).1, ck (t2 i hi).2⟩⟩, ⟨a, b, ck h1⟩, ⟨c, d, ck h2⟩, ⟨e, f, ?_⟩⟩
 rw [Lib.iterAt_other w k _ s pos' (by intro e0; rw [e0, hk] at h3; cases h3)]
 exact h3
theorem tab_of_block {nm : String} {w : World} (hg : Tryz.prog.globalNamed nm = some 4) (h : ∃ t fr, w.heap[4]? = some (.cells (Lib.pow10Tab.map fun z => Value.int .u64 z).toArray t fr)) : Lib.TabIs Tryz.prog w nm .u64 Lib.pow10Tab := by
 obtain ⟨t, fr, h⟩ := h
 unfold Lib.TabIs World.var?
 rw [hg]; simp only [Option.bind_some, h]
theorem itoa_any (n : Int) (h0 : -9223372036854775808 ≤ n) (h1 : n ≤ 9223372036854775807) (w : World) (hE : Env w) :
   Calls Tryz.prog 221 #[.int .i64 n] w fun e w' => e = .returned (.string ⟨(Lib.itoa n).toArray⟩) ∧ Below w.heap.size w w' := by
 refine (Any.strconv_Itoa Tryz.laysM171 n h0 h1 w (tab_of_block (by kernel_rfl) hE.pow)).mono ?_
 rintro e w' ⟨rfl, k, os, rfl⟩
 exact ⟨rfl, Lib.below_grow _ w (Nat.le_refl _) k os⟩
theorem tok_decode (s : ByteArray) (pos : Nat) :
   Txt.tok (s.data.toList.drop pos) = if (Utf8.decode s pos).1 = 65533 ∧ (Utf8.decode s pos).2 = 1 then (-1, 1) else (((Utf8.decode s pos).1 : Int), (Utf8.decode s pos).2) := by
 rw [← Lib.decodeL_drop, Lib.decodeL_N]; rfl
theorem drop_cons (s : ByteArray) (pos : Nat) (h : pos < s.size) : ∃ b t, s.data.toList.drop pos = b :: t := by
 match e : s.data.toList.drop pos with
 | b :: t => exact ⟨b, t, rfl⟩
 | [] =>
   have := congrArg List.length e
   simp only [List.length_drop, List.length_nil, Array.length_toList] at this
   have e2 : s.size = s.data.size := rfl
   omega
theorem next_tok (s : ByteArray) (pos : Nat) (h : pos < s.size) :
   ∃ (r : Int) (n : Nat) (k : Nat), Utf8.decode s pos = (k, n) ∧ Txt.toks (s.data.toList.drop pos) = (r, (s.data.toList.drop pos).take n) :: Txt.toks (s.data.toList.drop (pos + n)) ∧
     1 ≤ n ∧ pos + n ≤ s.size ∧ Txt.Shape (r, (s.data.toList.drop pos).take n) ∧
     ((r = -1 ∧ k = 65533 ∧ n = 1) ∨ (0 ≤ r ∧ r = (k : Int) ∧ ¬ (k = 65533 ∧ n = 1))) := by
 obtain ⟨b, t, e⟩ := drop_cons s pos h
 have ht := tok_decode s pos
 have hw := Txt.tok_width b t
 have hs := Txt.tok_shape b t
 have hl : (b :: t).length = s.size - pos := by rw [← e, List.length_drop, Array.length_toList]; rfl
 have hc := Txt.toks_cons b t
 rw [← e] at hw hs hc hl
 generalize Utf8.decode s pos = d at ht ⊢
 obtain ⟨k, n⟩ := d
 simp only at ht
 by_cases hc2 : k = 65533 ∧ n = 1
 · rw [if_pos hc2] at ht
   rw [ht] at hw hs hc
   obtain ⟨rfl, rfl⟩ := hc2
   refine ⟨-1, 1, 65533, rfl, ?_, Nat.le_refl _, by omega, hs, .inl ⟨rfl, rfl, rfl⟩⟩
   rw [hc, List.drop_drop]
 · rw [if_neg hc2] at ht
   rw [ht] at hw hs hc
   simp only at hw
   refine ⟨(k : Int), n, k, rfl, ?_, hw.1, by omega, hs, .inr ⟨by omega, rfl, hc2⟩⟩
   rw [hc, List.drop_drop]
theorem decodeGo_at (s : ByteArray) (pos : Nat) (h : pos < s.size) : Lib.decodeGo (s.extract pos s.size) = Utf8.decode s pos := by
 have hz : ¬ (s.extract pos s.size).size = 0 := by simp [ByteArray.size_extract]; omega
 have e : (s.extract pos s.size).data.toList = s.data.toList.drop pos := by
   rw [Lib.extract_to_end]
 unfold Lib.decodeGo
 rw [if_neg hz]
 have h0 := Lib.decodeL_drop (s.extract pos s.size) 0
 rw [List.drop_zero, e, Lib.decodeL_drop] at h0
 exact h0.symm
theorem wrong_any (s : ByteArray) (pos k n : Nat) (w : World) (hE : Env w) (_hs : s.size ≤ 1000000000000) (hp : pos < s.size) (hd : Utf8.decode s pos = (k, n)) (b : Bool) (hb : b = (decide (k = 65533) && decide (n = 1))) :
   Calls Tryz.prog 161 #[.string s, .int .i64 pos, .int .i32 k] w fun e w' => e = .returned (.bool b) ∧ Below w.heap.size w w' := by
 have HD := Lib.hid (decodeGo_at s pos hp); have HK := Lib.hid hd; have HB := Lib.hid hb
 clear hd hb
 by_cases hk : k = 65533
 · subst hk
   go_enter Tryz.func161, Tryz.ntmps161
   go_wp2_with fail
   refine (Tryz.utf8_DecodeRuneInString _ _ hE.tabs).mono ?_
   rintro e w1 ⟨rfl, hb1⟩
   rw [HD.out, HK.out]
   go_wp2
   go_ret
   refine ⟨?_, hb1⟩
   rw [HB.out]; simp
   cases Classical.em (n = 1) with
   | inl h => subst h; rfl
   | inr h => simp [h]; omega
 · have hk1 : ((k : Int) != 65533) = true := by rw [bne_iff_ne]; omega
   go_enter Tryz.func161, Tryz.ntmps161
   go_wp2
   go_ret
   refine ⟨?_, Below.refl _ _⟩
   rw [HB.out]; simp [hk]
theorem owns_next {w w' : World} {B e sz n : Nat} {v : Value} {xs : List Value} (h : w.ownsRow B e sz v n xs) (hb : Below w.heap.size w w') : w'.ownsRow B e sz v n xs :=
 h.kept (grown_of_below hb) (by cases v.ownBlock <;> simp)
def Cells (w : World) (v : Value) (sz n : Nat) (xs : List Value) : Prop :=
 xs.length = n * sz ∧ ((n = 0 ∧ ∃ a c, v = .slice a 0 c) ∨ ∃ b o c, v = .slice (some ⟨b, o, none⟩) n c ∧ ∀ j u, xs[j]? = some u → w.cell? ⟨b, o + j, none⟩ = some u)
theorem Cells.next {w w' : World} {v : Value} {sz n : Nat} {xs : List Value} (h : Cells w v sz n xs) (hb : Below w.heap.size w w') : Cells w' v sz n xs := by
 refine ⟨h.1, ?_⟩
 rcases h.2 with h | ⟨b, o, c, h1, h2⟩
 · exact .inl h
 · exact .inr ⟨b, o, c, h1, fun j u hj => cell_kept hb (Nat.le_refl _) (h2 j u hj)⟩
theorem cells_of_owns {w : World} {B e sz n : Nat} {v : Value} {xs : List Value} (h : w.ownsRow B e sz v n xs) : Cells w v sz n xs := by
 refine ⟨h.1, ?_⟩
 rcases h.2 with ⟨h1, h2⟩ | ⟨g, cap, cur, rfl, hb, hg, hc, hm, hs, ht⟩
 · exact .inl ⟨h2, _, _, h1⟩
 · refine .inr ⟨g, 0, cap, rfl, fun j u hj => ?_⟩
   have := h.cells (g := g) rfl j u hj
   rw [show ((⟨g, 0, none⟩ : Addr).add j) = ⟨g, 0 + j, none⟩ by unfold Addr.add; split <;> simp_all] at this
   exact this
theorem foldl_push (l : List UInt8) : ∀ s : ByteArray, (l.map fun b => ((b.toNat : Nat) : Int)).foldl (fun r n => r.push (UInt8.ofNat n.toNat)) s = ⟨(s.data.toList ++ l).toArray⟩ := by
 induction l with
 | nil => intro s; simp
 | cons b l ih =>
   intro s
   simp only [List.map_cons, List.foldl_cons, ih]
   simp [ByteArray.push]
theorem run_string_owned {w : World} {B : Nat} {v : Value} {acc : List UInt8} (hown : w.ownsRow B 5 1 v acc.length (Lib.byteCells acc)) :
   (convert 266 9 v).run Tryz.prog w = .ok (.string ⟨acc.toArray⟩) w := by
 rcases hown.2 with ⟨rfl, h0⟩ | ⟨g, cap, cur, rfl, hb, hg, hc, hm, hs, ht⟩
 · have : acc = [] := List.eq_nil_of_length_eq_zero h0
   subst this
   rw [run_convert_bytes_string w _ _ 5 _ _ _ Tryz.underlying266 Tryz.underlying5 Tryz.underlying9]
   rfl
 · rw [run_convert_bytes_string w _ _ 5 _ _ _ Tryz.underlying266 Tryz.underlying5 Tryz.underlying9]
   have h := run_loadCells_list (P := Tryz.prog) w (⟨g, 0, none⟩ : Addr) (Lib.byteCells acc) (fun j u hj => hown.cells (g := g) rfl j u hj)
   rw [Lib.byteCells_length] at h
   have e : Lib.byteCells acc = (acc.map fun b => ((b.toNat : Nat) : Int)).map (Value.int .u8) := by simp [Lib.byteCells]
   rw [e] at h
   rw [run_bytesToString w _ _ _ _ h, foldl_push]
   rfl
def intCells (l : List Int) : List Value := l.map (Value.int .i64)
def strCells (l : List (List UInt8)) : List Value := l.map fun x => Value.string ⟨x.toArray⟩
end Go.Proofs.YtgddgipjpdjoaaaGreatDoor
