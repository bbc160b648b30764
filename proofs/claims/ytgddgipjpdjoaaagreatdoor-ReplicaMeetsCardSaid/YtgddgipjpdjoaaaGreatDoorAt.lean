/-
  append of whatever row onto a row of the call's own, of elements of whatever size.
  The walks of disk.List and disk.Crash. The walks of the document's Same and SameRow (layer 6): of entries that are the same. A disk, its pair, its blocks: steps of the disk, and what they leave.
-/
import Derived.Test.YtgddgipjpdjoaaaGreatDoorSegs
import Derived.Deep.Upon
import Derived.Test.YtgddgipjpdjoaaaGreatDoorIter
import Derived.Test.YtgddgipjpdjoaaaGreatDoorDsks
import Derived.Test.YtgddgipjpdjoaaaGreatDoorSegG
import Derived.Sort.KeysCollected
import Derived.BigRegion
import Derived.Test.YtgddgipjpdjoaaaGreatDoorEvts
import Derived.Deep.RegionHeld3
import Derived.BigQuiet
import Derived.Test.YtgddgipjpdjoaaaGreatDoorShow
import Derived.Test.YtgddgipjpdjoaaaGreatDoorCut
namespace Go.Proofs.YtgddgipjpdjoaaaGreatDoor
open Go.RowKit Go.Shelf
theorem grown_refl (w : World) (r : Option Nat) : w.grownBy w r := ⟨rfl, rfl, rfl, Nat.le_refl _, fun _ _ _ => rfl⟩
theorem run_append_row {P : Program} {t e : TypeId} {sz : Nat} (E : ElemT P t e sz) (w : World) (base : Nat) (ty : TypeId) (v : Value) (n : Nat) (xs : List Value) (hown : w.ownsRow base e sz v n xs) (x : Value) (m : Nat) (news : List Value) (hx : Cells w x sz m news) (h1 : ∀ u ∈ news, u.oneCell' = true)
   (hn : n + m ≤ 1000000) (hbase : base ≤ w.heap.size) :
   ∃ v' w', (Builtin.append_ #[t, t] ty #[v, x]).run P w = .ok v' w' ∧ w'.ownsRow base e sz v' (n + m) (xs ++ news) ∧ w.grownBy w' v.ownBlock ∧ (v ≠ .slice none 0 0 → v' ≠ .slice none 0 0) := by
 obtain ⟨i, z, bytes, h2, h3, h4, h5, h6, h7⟩ := E.info
 rcases hx.2 with ⟨rfl, a, c, rfl⟩ | ⟨b, o, c, rfl, hx2⟩
 · have hnn : news = [] := List.eq_nil_of_length_eq_zero (by have := hx.1; omega)
   subst hnn
   obtain ⟨bs, sl, sc, rfl, hle⟩ : ∃ bs sl sc, v = .slice bs sl sc ∧ sl ≤ sc := by
     rcases hown.2 with ⟨rfl, _⟩ | ⟨g, cap, cur, rfl, _, _, hc, _⟩
     · exact ⟨_, _, _, rfl, Nat.le_refl _⟩
     · exact ⟨_, _, _, rfl, hc⟩
   have hs : Src P i.size t (.slice a 0 c) 0 [] w := by
     cases a with
     | none => exact Src.ofNil w E.und c
     | some a => exact Src.ofSlice w E.und a 0 c [] (by simp) (fun j u h => by simp at h) (fun u h => by cases h)
   exact ⟨_, _, run_append_nothing w t t ty e i E.und h2 bs sl sc hle _ hs, by simpa using hown, grown_refl _ _, fun h => h⟩
 · have hb : (n + m) * bytes ≤ (n + m) * 128 := Nat.mul_le_mul_left _ h7
   obtain ⟨v', w', hr, h8, h9, h10⟩ := run_append_own (P := P) w base t ty e i z sz bytes E.und h2 h3 h4 h5 h6 E.pos v n xs hown ⟨b, o, none⟩ m c news hx.1
     (fun j u hj => by rw [show ((⟨b, o, none⟩ : Addr).add j) = ⟨b, o + j, none⟩ by unfold Addr.add; split <;> simp_all]; exact hx2 j u hj) h1 (by unfold maxLen; omega) (by omega) hbase
   exact ⟨v', w', hr, h8, h9, fun h g => h (h10.1 g).1⟩
theorem wp_append_row {P : Program} {o : Oper} {a : Act} {w : World} {K : Act → World → Prop} {Q : Exit → Act → World → Prop} (s x : Operand) {t e : TypeId} {sz : Nat}
   (ho : o.op = .call { callee := .builtin .append, args := #[s, x], argTypes := #[t, t] }) (E : ElemT P t e sz) (base : Nat) (v : Value) (n : Nat) (xs : List Value) (hs : a.eval s = v) (hown : w.ownsRow base e sz v n xs) (y : Value) (m : Nat) (news : List Value) (hy : a.eval x = y) (hx : Cells w y sz m news)
   (h1 : ∀ u ∈ news, u.oneCell' = true) (hn : n + m ≤ 1000000) (hbase : base ≤ w.heap.size)
   (h : ∀ v' w', w'.ownsRow base e sz v' (n + m) (xs ++ news) → w.grownBy w' v.ownBlock → (v ≠ .slice none 0 0 → v' ≠ .slice none 0 0) → K (a.put o.dst v') w') : Oper.wp P o a w K Q := by
 obtain ⟨v', w', hr, h2, h3, h4⟩ := run_append_row E w base o.type v n xs hown y m news hx h1 hn hbase
 unfold Oper.wp execOp
 simp only [ho, resolve, invoke, builtin, Sem.run_bind, Sem.run_pure, Result.andThen_ok, List.map_toArray, List.map_cons, List.map_nil, hs, hy, hr]
 exact h v' w' h2 h3 h4
theorem wpList_append_row {P : Program} {ops : Array Oper} {rest : List Oper} {o : Oper} {a : Act} {w : World} {Q : Exit → Act → World → Prop} (hwd : Region.wanted o (yielded ops a.tmps) = true) (s x : Operand) {t e : TypeId} {sz : Nat}
   (ho : o.op = .call { callee := .builtin .append, args := #[s, x], argTypes := #[t, t] }) (E : ElemT P t e sz) (base : Nat) (v : Value) (n : Nat) (xs : List Value) (hs : a.eval s = v) (hown : w.ownsRow base e sz v n xs) (y : Value) (m : Nat) (news : List Value) (hy : a.eval x = y) (hx : Cells w y sz m news)
   (h1 : ∀ u ∈ news, u.oneCell' = true) (hn : n + m ≤ 1000000) (hbase : base ≤ w.heap.size)
   (h : ∀ v' w', w'.ownsRow base e sz v' (n + m) (xs ++ news) → w.grownBy w' v.ownBlock → (v ≠ .slice none 0 0 → v' ≠ .slice none 0 0) → wpList P ops Q rest (a.put o.dst v') w') :
   wpList P ops Q (o :: rest) a w := by
 refine wpList_step fun K hK => ?_
 rw [if_pos hwd]
 exact wp_append_row s x ho E base v n xs hs hown y m news hy hx h1 hn hbase (fun v' w' a b c => hK _ _ (h v' w' a b c))
theorem step_append_row {P : Program} {ops : Array Oper} {o : Oper} {a : Act} {w : World} {K : Act → World → Prop} {Q : Exit → Act → World → Prop} {EE : Prop} (hwd : Region.wanted o (yielded ops a.tmps) = true) (s x : Operand) {t e : TypeId} {sz : Nat}
   (ho : o.op = .call { callee := .builtin .append, args := #[s, x], argTypes := #[t, t] }) (E : ElemT P t e sz) (base : Nat) (v : Value) (n : Nat) (xs : List Value) (hs : a.eval s = v) (hown : w.ownsRow base e sz v n xs) (y : Value) (m : Nat) (news : List Value) (hy : a.eval x = y) (hx : Cells w y sz m news)
   (h1 : ∀ u ∈ news, u.oneCell' = true) (hn : n + m ≤ 1000000) (hbase : base ≤ w.heap.size)
   (h : ∀ v' w', w'.ownsRow base e sz v' (n + m) (xs ++ news) → w.grownBy w' v.ownBlock → (v ≠ .slice none 0 0 → v' ≠ .slice none 0 0) → K (a.put o.dst v') w') :
   if Region.wanted o (yielded ops a.tmps) = true then Oper.wp P o a w K Q else EE := by
 rw [if_pos hwd]
 exact wp_append_row s x ho E base v n xs hs hown y m news hy hx h1 hn hbase h
theorem owns_fresh (w : World) (B : Nat) (e : TypeId) (sz : Nat) (hB : B ≤ w.heap.size) : (w.alloc (.cells #[] e)).ownsRow B e sz (.slice (some ⟨w.heap.size, 0, none⟩) 0 0) 0 [] :=
 ⟨by simp, .inr ⟨w.heap.size, 0, #[], rfl, hB, Array.getElem?_push_size, Nat.le_refl _, Nat.zero_le _, by simp, by simp⟩⟩
theorem enCells_one (ps : List EnX) (h : ∀ p ∈ ps, ∃ sa sl sc, p.2 = .slice sa sl sc) : ∀ u ∈ enCells ps, u.oneCell' = true := by
 intro u hu
 simp only [enCells, List.mem_flatMap] at hu
 obtain ⟨p, hp, hu⟩ := hu
 obtain ⟨sa, sl, sc, e⟩ := h p hp
 rw [e] at hu
 simp only [List.mem_cons, List.not_mem_nil, or_false] at hu
 rcases hu with rfl | rfl | rfl | rfl | rfl | rfl | rfl <;> rfl
def RepU (u : Int) (w : World) (d : Nat) (room : Int) (fs : List Dk.File) (ft : Nat → Prop) (bm : Nat) (D : DataW Unit) (g : List UInt8 → Nat) : Prop :=
   w.heap[d]? = some (.cells #[.int .i64 room, .int .i64 u, .map (some bm)] 152 (0, 0)) ∧
   w.ownsMap Tryz.prog 9 ptrR bm fs.length D ∧ Maps.size D = fs.length ∧ fs.length ≤ 40 ∧ Dk.Sorted fs ∧ (1 ≤ room ∧ room ≤ 1073741824 ∧ (Dk.total fs : Int) ≤ room) ∧ ft d ∧ ft bm ∧
   (∀ k, Dk.look fs k = none → Maps.has D (.string k) = false) ∧
   (∀ k x, Dk.look fs k = some x → Maps.has D (.string k) = true ∧ (∀ z, D.atKey (.string k) z = .lit (.int .i64 (g k : Nat))) ∧ FileAt (g k) x.bytes x.synced w ∧ ft (g k) ∧ x.synced ≤ x.bytes.size) ∧
   (∀ k k' x x', Dk.look fs k = some x → Dk.look fs k' = some x' → g k = g k' → k = k')
variable {u : Int} {w w' : World} {d : Nat} {room : Int} {fs : List Dk.File} {ft : Nat → Prop} {bm : Nat} {D : DataW Unit} {g : List UInt8 → Nat}
theorem names_perm (h : RepU u w d room fs ft bm D g) : (fs.map (·.name)).Perm (strKeys D) := by
 obtain ⟨h1, h2, h3, h4, h5, h6, h7, h8, h9, h10, h11⟩ := h
 refine Collected.perm (left := fun _ => false) ⟨?_, fun k => ?_⟩ h2 str_keyed Tryz.underlying9 (fun _ => rfl)
 · refine List.pairwise_map.2 (h5.imp fun {a b} hab e => ?_)
   rw [e] at hab
   exact Std.lt_irrefl hab
 · constructor
   · intro hk
     obtain ⟨x, hx, rfl⟩ := List.mem_map.1 hk
     refine ⟨?_, rfl⟩
     cases e : Dk.look fs x.name with
     | none => exact absurd rfl (Dk.look_none e x hx)
     | some z => exact (h10 _ z e).1
   · rintro ⟨hk, _⟩
     cases e : Dk.look fs k with
     | none => rw [h9 _ e] at hk; cases hk
     | some z =>
       have := Dk.look_name e
       exact List.mem_map.2 ⟨z, this.2, this.1⟩
theorem names_sorted (h : RepU u w d room fs ft bm D g) {ss : List (List UInt8)} (hp : ss.Perm (strKeys D)) : ss.mergeSort (fun x y => decide (x ≤ y)) = fs.map (·.name) := by
 have e := mergeSort_of_perm (hp.trans (names_perm h).symm)
 refine e.trans (List.mergeSort_of_pairwise ?_)
 refine List.pairwise_map.2 (h.2.2.2.2.1.imp fun {a b} hab => ?_)
 simp only [leB, decide_eq_true_eq]
 exact List.le_of_lt hab
set_option maxHeartbeats 1000000 in
theorem diskList_rep (w : World) (h : RepU u w d room fs ft bm D g) :
   Calls Tryz.prog 79 #[.pointer (some ⟨d, 0, none⟩)] w fun e w' => ∃ sa sc, e = .returned (.slice sa fs.length sc) ∧ Hid (w'.ownsRow w.heap.size 9 1 (.slice sa fs.length sc) fs.length (strCells (fs.map (·.name)))) ∧ Below w.heap.size w w' := by
 have H := Lib.hid h
 obtain ⟨h1, h2, h3, h4, _⟩ := h
 have d2 : w.cell? ⟨d, 2, none⟩ = some (.map (some bm)) := by rw [Lib.cell_of_heap h1]; rfl
 have HK := Lib.hid (callsIn_wide.1 (Tryz.maps_Keys_144 (some bm) w))
 have HS := Lib.hid (callsIn_wide.1 (Tryz.slices_Sorted_keys_130_144 bm fs.length D ptrR w h2 (by unfold maxLen; omega) (by omega)))
 clear h1 h2 h3
 go_enter Tryz.func79, Tryz.ntmps79
 go_wp2_with fail
 refine HK.out.mono ?_
 rintro e w1 ⟨rfl, rfl⟩
 go_wp2_with fail
 refine HS.out.mono ?_
 rintro e w2 ⟨v, ss, rfl, hp, hrow, _, hb⟩
 have hss := names_sorted H.out hp
 have hl : ss.length = fs.length := by
   have := congrArg List.length hss
   simpa using this
 rw [hss, hl] at hrow
 have HB := Lib.hid (((Below.refl _ w).alloc (Nat.le_refl _) (.cells #[.map (some bm)] 150)).trans (hb.mono (by simp)))
 have HC := Lib.hid (ownsRow_low hrow (show w.heap.size ≤ _ by simp))
 rcases hrow.2 with ⟨rfl, h0⟩ | ⟨gg, cap, cur, rfl, _⟩
 · clear hss hl hp hrow HK HS hb
   go_wp2
   go_ret
   refine ⟨none, 0, by rw [h0]; rfl, Lib.hid ?_, HB.out⟩
   have := HC.out
   rw [h0] at this ⊢
   simp only [strCells, List.map_map] at this ⊢
   exact this
 · clear hss hl hp hrow HK HS hb
   go_wp2
   go_ret
   refine ⟨_, _, rfl, Lib.hid ?_, HB.out⟩
   have := HC.out
   simp only [strCells, List.map_map] at this ⊢
   exact this
theorem Turn.wide {f1 f2 : Nat → Prop} (h : Turn f1 w w') (hf : ∀ j, f1 j → f2 j) : Turn f2 w w' := ⟨h.os, h.tape, h.output, h.size, fun j hj hn => h.block j hj (fun h => hn (hf j h))⟩
end Go.Proofs.YtgddgipjpdjoaaaGreatDoor
namespace Go.Proofs.YtgddgipjpdjoaaaGreatDoor
open Go.RowKit Go.Shelf
set_option maxHeartbeats 4000000 in
set_option maxRecDepth 100000 in
theorem same6_any (p ep : Int) (S : ByteArray) (ex se sq : Int) (va vb : Value) (es : List Evt.Event) (w : World) (ha : Evs w va es) (hb : Evs w vb es) (hn : es.length ≤ 1000000) :
   Calls Tryz.prog 54 #[.agg #[.int .i64 p, .int .i64 ep, .string S, .int .i64 ex, .int .i64 se, .int .i64 sq, va], .agg #[.int .i64 p, .int .i64 ep, .string S, .int .i64 ex, .int .i64 se, .int .i64 sq, vb]] w fun e w' => e = .returned (.bool true) ∧ Below w.heap.size w w' := by
 obtain ⟨sa, la, ca, rfl⟩ := evs_slice ha
 obtain ⟨sb, lb, cb, rfl⟩ := evs_slice hb
 have hla : la = es.length := by
   rcases cellsNil ha with ⟨h, a', c', e⟩ | ⟨b', o', c', e⟩
   · cases e; omega
   · cases e; rfl
 have hlb : lb = es.length := by
   rcases cellsNil hb with ⟨h, a', c', e⟩ | ⟨b', o', c', e⟩
   · cases e; omega
   · cases e; rfl
 subst hla hlb
 obtain ⟨W, hW⟩ : ∃ W, W = (((w.alloc (.cells #[.int .i64 p, .int .i64 ep, .string S, .int .i64 ex, .int .i64 se, .int .i64 sq, .slice sa es.length ca] 40)).alloc (.cells #[.int .i64 p, .int .i64 ep, .string S, .int .i64 ex, .int .i64 se, .int .i64 sq, .slice sb es.length cb] 40)).alloc
   (.cells #[.string S, .int .i64 ex, .int .i64 se, .int .i64 sq, .slice sa es.length ca] 38)).alloc (.cells #[.string S, .int .i64 ex, .int .i64 se, .int .i64 sq, .slice sb es.length cb] 38) := ⟨_, rfl⟩
 have hB : Below w.heap.size w W := by rw [hW]; exact ((((Below.refl _ w).alloc (Nat.le_refl _) _).alloc (by simp) _).alloc (by simp; omega) _).alloc (by simp; omega) _
 have ca4 : W.cell? ⟨w.heap.size + 1 + 1, 4, none⟩ = some (.slice sa es.length ca) := by
   rw [hW]
   refine cell_kept ((Below.refl _ _).alloc (Nat.le_refl _) _) (Nat.le_refl _) ?_
   have h := heap_alloc_new ((w.alloc (.cells #[.int .i64 p, .int .i64 ep, .string S, .int .i64 ex, .int .i64 se, .int .i64 sq, .slice sa es.length ca] 40)).alloc (.cells #[.int .i64 p, .int .i64 ep, .string S, .int .i64 ex, .int .i64 se, .int .i64 sq, .slice sb es.length cb] 40)) (.cells #[.string S, .int .i64 ex, .int .i64 se, .int .i64 sq, .slice sa es.length ca] 38)
   simp only [World.size_alloc] at h
   rw [Lib.cell_of_heap h]; rfl
 have cb4 : W.cell? ⟨w.heap.size + 1 + 1 + 1, 4, none⟩ = some (.slice sb es.length cb) := by
   rw [hW]
   have h := heap_alloc_new (((w.alloc (.cells #[.int .i64 p, .int .i64 ep, .string S, .int .i64 ex, .int .i64 se, .int .i64 sq, .slice sa es.length ca] 40)).alloc (.cells #[.int .i64 p, .int .i64 ep, .string S, .int .i64 ex, .int .i64 se, .int .i64 sq, .slice sb es.length cb] 40)).alloc (.cells #[.string S, .int .i64 ex, .int .i64 se, .int .i64 sq, .slice sa es.length ca] 38)) (.cells #[.string S, .int .i64 ex, .int .i64 se, .int .i64 sq, .slice sb es.length cb] 38)
   simp only [World.size_alloc] at h
   rw [Lib.cell_of_heap h]; rfl
 have HA := Lib.hid (Cells.next ha hB)
 have HB := Lib.hid (Cells.next hb hB)
 have HW := Lib.hid hW
 have HBW := Lib.hid hB
 clear ha hb hW hB
 go_enter Tryz.func54, Tryz.ntmps54
 go_wp2
 rw [← HW.out]
 have C0 := Lib.hid (And.intro ca4 cb4)
 clear ca4 cb4
 go_loopw [7] (fun lv wr => ∃ i : Nat, lv = .int .i64 i ∧ i ≤ es.length ∧ Below W.heap.size W wr) (fun lv _ => es.length - (intOf lv).toNat)
 case atStart => exact ⟨0, rfl, by omega, Below.refl _ _⟩
 case round =>
   obtain ⟨i, rfl, hi, hbr⟩ := hrel
   have ca4 := cell_kept hbr (Nat.le_refl _) C0.out.1
   have cb4 := cell_kept hbr (Nat.le_refl _) C0.out.2
   by_cases hp : i < es.length
   · obtain ⟨b1, o1, c1, hv1, p1, p2⟩ := evAt (Cells.next HA.out hbr) i hp
     obtain ⟨b2, o2, c2, hv2, q1, q2⟩ := evAt (Cells.next HB.out hbr) i hp
     cases hv1
     cases hv2
     obtain ⟨x, hx⟩ : ∃ x, es[i] = x := ⟨_, rfl⟩
     rw [hx] at p1 p2 q1 q2
     obtain ⟨K, hK, _, _⟩ := str_of x.kind
     obtain ⟨Dd, hDd, _, _⟩ := str_of x.data
     rw [hK] at p1 q1
     rw [hDd] at p2 q2
     clear hx hK hDd
     go_wp2
     go_quiet (fail)
     go_wp2
     exact ⟨⟨i + 1, by go_num, by omega, below_drewN hbr _⟩, by simp [intOf]; omega⟩
   · go_wp2
     go_ret
     exact ⟨rfl, Below.up HBW.out (Nat.le_refl _) hbr⟩
theorem cells7_kept {w w' : World} {b o : Nat} {u0 u1 u2 u3 u4 u5 u6 : Value} (hb : Below w.heap.size w w') (h : w.cell? ⟨b, o, none⟩ = some u0 ∧ w.cell? ⟨b, o + 1, none⟩ = some u1 ∧ w.cell? ⟨b, o + 2, none⟩ = some u2 ∧ w.cell? ⟨b, o + 3, none⟩ = some u3 ∧ w.cell? ⟨b, o + 4, none⟩ = some u4 ∧ w.cell? ⟨b, o + 5, none⟩ = some u5 ∧ w.cell? ⟨b, o + 6, none⟩ = some u6) :
   w'.cell? ⟨b, o, none⟩ = some u0 ∧ w'.cell? ⟨b, o + 1, none⟩ = some u1 ∧ w'.cell? ⟨b, o + 2, none⟩ = some u2 ∧ w'.cell? ⟨b, o + 3, none⟩ = some u3 ∧ w'.cell? ⟨b, o + 4, none⟩ = some u4 ∧ w'.cell? ⟨b, o + 5, none⟩ = some u5 ∧ w'.cell? ⟨b, o + 6, none⟩ = some u6 := by
 obtain ⟨h0, h1, h2, h3, h4, h5, h6⟩ := h
 exact ⟨cell_kept hb (Nat.le_refl _) h0, cell_kept hb (Nat.le_refl _) h1, cell_kept hb (Nat.le_refl _) h2, cell_kept hb (Nat.le_refl _) h3, cell_kept hb (Nat.le_refl _) h4, cell_kept hb (Nat.le_refl _) h5, cell_kept hb (Nat.le_refl _) h6⟩
set_option maxHeartbeats 8000000 in
set_option maxRecDepth 100000 in
theorem sameRow6_any (va vb : Value) (ps qs : List (Evt.Entry × Value)) (w : World) (ha : Ents w va ps) (hb : Ents w vb qs) (he : plainE ps = plainE qs) (hn : ps.length ≤ 1000000) :
   Calls Tryz.prog 22 #[va, vb] w fun e w' => e = .returned (.bool true) ∧ Below w.heap.size w w' := by
 have hlen : qs.length = ps.length := by have := congrArg List.length he; simpa [plainE] using this.symm
 obtain ⟨sa, ca, rfl⟩ : ∃ sa ca, va = .slice sa ps.length ca := by
   rcases cellsNil ha.1 with ⟨h, a', c', e⟩ | ⟨b', o', c', e⟩
   · exact ⟨_, _, by rw [h]; exact e⟩
   · exact ⟨_, _, e⟩
 obtain ⟨sb, cb, rfl⟩ : ∃ sb cb, vb = .slice sb qs.length cb := by
   rcases cellsNil hb.1 with ⟨h, a', c', e⟩ | ⟨b', o', c', e⟩
   · exact ⟨_, _, by rw [h]; exact e⟩
   · exact ⟨_, _, e⟩
 rw [hlen] at hb ⊢
 have HA := Lib.hid ha
 have HB := Lib.hid hb
 have HE := Lib.hid he
 have HL := Lib.hid hlen
 clear ha hb he hlen
 go_enter Tryz.func22, Tryz.ntmps22
 go_wp2
 go_loopw [5] (fun lv wr => ∃ i : Nat, lv = .int .i64 i ∧ i ≤ ps.length ∧ Below w.heap.size w wr) (fun lv _ => ps.length - (intOf lv).toNat)
 case atStart => exact ⟨0, rfl, by omega, Below.refl _ _⟩
 case round =>
   obtain ⟨i, rfl, hi, hbr⟩ := hrel
   by_cases hp : i < ps.length
   · obtain ⟨b1, o1, c1, p, ep, S, ex, se, sq, sa1, sl1, sc1, es, hv, k0, k1, k2, k3, k4, k5, k6, hev, hS, hsm, hes, hpe, _⟩ := enAt (HA.out.next hbr) i hp
     obtain ⟨b2, o2, c2, p', ep', S', ex', se', sq', sa2, sl2, sc2, es', hv', j0, j1, j2, j3, j4, j5, j6, hev', _, _, _, hpe', _⟩ := enAt (HB.out.next hbr) i (by rw [HL.out]; exact hp)
     cases hv
     rw [HL.out] at hv'
     cases hv'
     have hiq : i < qs.length := by rw [HL.out]; exact hp
     have hq := hpe'.out
     have e : ps[i].1 = qs[i].1 := by
       have h : (plainE ps)[i]? = (plainE qs)[i]? := by rw [HE.out]
       simpa [plainE, hp, hiq] using h
     rw [← e, hpe.out] at hq
     simp only [Evt.Entry.mk.injEq, Evt.Batch.mk.injEq] at hq
     obtain ⟨rfl, rfl, hSS, rfl, rfl, rfl, rfl⟩ := hq
     obtain rfl : S = S' := by apply ByteArray.ext; exact Array.toList_inj.1 hSS
     have HSM := Lib.hid (same6_any p ep S ex se sq _ _ es wr.drew (Cells.next hev (Below.refl _ _).drew) (Cells.next hev' (Below.refl _ _).drew) hes)
     have hc0 := And.intro (And.intro k0 (And.intro k1 (And.intro k2 (And.intro k3 (And.intro k4 (And.intro k5 k6)))))) (And.intro j0 (And.intro j1 (And.intro j2 (And.intro j3 (And.intro j4 (And.intro j5 j6))))))
     clear e hpe hpe' hSS hsm hS hiq
     go_wp2
     go_region_held3 (fun X => (X.cell? ⟨b1, o1 + i * 7, none⟩ = some (.int .i64 p) ∧ X.cell? ⟨b1, o1 + i * 7 + 1, none⟩ = some (.int .i64 ep) ∧ X.cell? ⟨b1, o1 + i * 7 + 2, none⟩ = some (.string S) ∧ X.cell? ⟨b1, o1 + i * 7 + 3, none⟩ = some (.int .i64 ex) ∧ X.cell? ⟨b1, o1 + i * 7 + 4, none⟩ = some (.int .i64 se) ∧ X.cell? ⟨b1, o1 + i * 7 + 5, none⟩ = some (.int .i64 sq) ∧ X.cell? ⟨b1, o1 + i * 7 + 6, none⟩ = some (.slice sa1 sl1 sc1)) ∧ X.cell? ⟨b2, o2 + i * 7, none⟩ = some (.int .i64 p) ∧ X.cell? ⟨b2, o2 + i * 7 + 1, none⟩ = some (.int .i64 ep) ∧ X.cell? ⟨b2, o2 + i * 7 + 2, none⟩ = some (.string S) ∧ X.cell? ⟨b2, o2 + i * 7 + 3, none⟩ = some (.int .i64 ex) ∧ X.cell? ⟨b2, o2 + i * 7 + 4, none⟩ = some (.int .i64 se) ∧ X.cell? ⟨b2, o2 + i * 7 + 5, none⟩ = some (.int .i64 sq) ∧ X.cell? ⟨b2, o2 + i * 7 + 6, none⟩ = some (.slice sa2 sl2 sc2))
       (first | exact hc0 | exact ⟨cells7_kept hb hc0.1, cells7_kept hb hc0.2⟩)
       (first | (go_at_call 54; refine HSM.out.mono ?_; rintro e w' ⟨rfl, hb⟩))
     go_wp2
     exact ⟨⟨i + 1, by go_num, by omega, Below.up hbr.drew (Nat.le_refl _) hb⟩, by simp [intOf]; omega⟩
   · go_wp2
     go_ret
     exact ⟨rfl, hbr⟩
variable {a w w' : World} {P d : Nat} {mv : Value} {room : Int} {fs fs' : List Dk.File} {ft : Nat → Prop}
theorem NewEnts.turn {base : Nat} {v : Value} {ps : List EnX} (h : NewEnts base w v ps) (hf : ∀ j, ft j → j < base) (ht : Turn ft w w') : NewEnts base w' v ps := by
 have key : ∀ {e sz n : Nat} {v : Value} {xs : List Value}, w.ownsRow base e sz v n xs → w'.ownsRow base e sz v n xs := fun {e sz n v xs} h => by
   obtain ⟨h1, h2⟩ := h
   refine ⟨h1, ?_⟩
   rcases h2 with h2 | ⟨g, cap, cur, hv, hg, hw, hr⟩
   · exact .inl h2
   · refine .inr ⟨g, cap, cur, hv, hg, ?_, hr⟩
     rw [ht.block g (Array.getElem?_eq_some_iff.1 hw).1 (fun h => by have := hf g h; omega)]; exact hw
 exact ⟨key h.1, fun p hp => ⟨key (h.2 p hp).1, (h.2 p hp).2⟩⟩
theorem SB.turn {b : Nat} {f : Int} {v : Value} {t : Bool} (h : SB b f v t w) (hf : ¬ ft b) (ht : Turn ft w w') : SB b f v t w' :=
 (ht.block b (Array.getElem?_eq_some_iff.1 h).1 hf).trans h
end Go.Proofs.YtgddgipjpdjoaaaGreatDoor
