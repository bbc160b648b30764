/-
  The keys of maps, in order: what a state's parts are made of. An index whatever number it bears; a row stored at a stream that had none.
  The walk of index.Clone: an index of its own, with the same streams.
  The walk of dedup.Clone: a table of its own, with the same sessions (the outcomes are shared).
  A clone of a state; what index.Names, Version, Range, Pos and dedup.Sessions, Seqs answer of it.
-/
import Derived.Test.YtgddgipjpdjoaaaGreatDoorMeP2
import Derived.Maps.RangeWalk
import Derived.Sort.KeysCollected
import Derived.Test.YtgddgipjpdjoaaaGreatDoorLays
namespace Go.Proofs.YtgddgipjpdjoaaaGreatDoor
open Go.RowKit Go.Shelf
theorem strKeys_facts {w : World} {b n : Nat} {D : DataW Value} (h : w.ownsMap Tryz.prog 9 heldR b n D) : (strKeys D).Nodup ∧ (∀ x, x ∈ strKeys D ↔ Maps.has D (.string x) = true) ∧ (strKeys D).length ≤ n := by
 have hsz := h.size_le
 obtain ⟨es, hD, hp, _⟩ := h.entries str_keyed
 obtain ⟨es', hD', hko⟩ := h.keysOf
 obtain rfl : es = es' := by rw [hD] at hD'; simpa using hD'
 subst hD
 have hk : ∀ p ∈ es, ∃ x, p.1 = .string x := fun p hp => by
   obtain ⟨v, hv⟩ := hko p hp
   obtain ⟨x, _, hx, _⟩ := Maps.keyOf_str Tryz.underlying9 hv
   exact ⟨x, hx⟩
 refine ⟨?_, fun x => ?_, by simpa [strKeys, Maps.size] using hsz⟩
 · show (es.map fun p => strOf p.1).Nodup
   refine List.pairwise_map.2 (hp.imp_of_mem fun {p q} hp' hq' hne e => hne ?_)
   obtain ⟨a, ha⟩ := hk p hp'
   obtain ⟨b, hb⟩ := hk q hq'
   rw [ha, hb] at e ⊢
   exact congrArg _ e
 · rw [Maps.has_eq, List.any_eq_true]
   show x ∈ es.map (fun p => strOf p.1) ↔ _
   rw [List.mem_map]
   constructor
   · rintro ⟨p, hp', rfl⟩
     obtain ⟨a, ha⟩ := hk p hp'
     exact ⟨p, hp', by rw [ha]; simp [Lit.sameKey, strOf]⟩
   · rintro ⟨p, hp', hs⟩
     obtain ⟨a, ha⟩ := hk p hp'
     rw [ha] at hs
     exact ⟨p, hp', by rw [ha]; simpa [Lit.sameKey, strOf] using hs⟩
theorem intKeys_facts {w : World} {b n : Nat} {D : DataW Value} (h : w.ownsMap Tryz.prog 3 heldR b n D) : (intKeys D).Nodup ∧ (∀ x, x ∈ intKeys D ↔ Maps.has D (.int .i64 x) = true) ∧ (intKeys D).length ≤ n := by
 have hsz := h.size_le
 obtain ⟨es, hD, hp, _⟩ := h.entries int_key
 obtain ⟨es', hD', hko⟩ := h.keysOf
 obtain rfl : es = es' := by rw [hD] at hD'; simpa using hD'
 subst hD
 have hk : ∀ p ∈ es, ∃ x, p.1 = .int .i64 x := fun p hp => by
   obtain ⟨v, hv⟩ := hko p hp
   obtain ⟨x, _, hx, _⟩ := Maps.keyOf_i64 Tryz.underlying3 hv
   exact ⟨x, hx⟩
 refine ⟨?_, fun x => ?_, by simpa [intKeys, Maps.size] using hsz⟩
 · show (es.map fun p => Go.intOf p.1).Nodup
   refine List.pairwise_map.2 (hp.imp_of_mem fun {p q} hp' hq' hne e => hne ?_)
   obtain ⟨a, ha⟩ := hk p hp'
   obtain ⟨b, hb⟩ := hk q hq'
   rw [ha, hb] at e ⊢
   exact congrArg _ e
 · rw [Maps.has_eq, List.any_eq_true]
   show x ∈ es.map (fun p => Go.intOf p.1) ↔ _
   rw [List.mem_map]
   constructor
   · rintro ⟨p, hp', rfl⟩
     obtain ⟨a, ha⟩ := hk p hp'
     exact ⟨p, hp', by rw [ha]; simp [Lit.sameKey, Go.intOf]⟩
   · rintro ⟨p, hp', hs⟩
     obtain ⟨a, ha⟩ := hk p hp'
     rw [ha] at hs
     exact ⟨p, hp', by rw [ha]; simpa [Lit.sameKey, Go.intOf] using hs⟩
def NamesOf (f : Streams) (ns : List (List UInt8)) : Prop := ns.Nodup ∧ ns.mergeSort (fun x y => decide (x ≤ y)) = ns ∧ ∀ k, k ∈ ns ↔ f k ≠ []
def KeysOf (P : Int → Prop) (ks : List Int) : Prop := ks.Nodup ∧ ks.mergeSort (fun x y => decide (x ≤ y)) = ks ∧ ∀ k, k ∈ ks ↔ P k
theorem NamesOf.one {f : Streams} {ns ns' : List (List UInt8)} (h : NamesOf f ns) (h' : NamesOf f ns') : ns = ns' := by
 rw [← h.2.1, ← h'.2.1]
 exact mergeSort_of_perm ((List.perm_ext_iff_of_nodup h.1 h'.1).2 fun k => (h.2.2 k).trans (h'.2.2 k).symm)
theorem KeysOf.one {P : Int → Prop} {ns ns' : List Int} (h : KeysOf P ns) (h' : KeysOf P ns') : ns = ns' := by
 rw [← h.2.1, ← h'.2.1]
 exact mergeSort_of_perm_i ((List.perm_ext_iff_of_nodup h.1 h'.1).2 fun k => (h.2.2 k).trans (h'.2.2 k).symm)
theorem NamesOf.make {f : Streams} {ss : List (List UInt8)} {w : World} {b n : Nat} {D : DataW Value} (h : w.ownsMap Tryz.prog 9 heldR b n D) (hp : ss.Perm (strKeys D)) (hf : ∀ k, Maps.has D (.string k) = true ↔ f k ≠ []) : NamesOf f (ss.mergeSort fun x y => decide (x ≤ y)) := by
 obtain ⟨h1, h2, _⟩ := strKeys_facts h
 have hq := (List.mergeSort_perm ss (fun x y => decide (x ≤ y))).trans hp
 exact ⟨hq.nodup_iff.2 h1, mergeSort_of_perm (List.mergeSort_perm ss _), fun k => by rw [hq.mem_iff, h2 k, hf k]⟩
theorem KeysOf.make {P : Int → Prop} {ss : List Int} {w : World} {b n : Nat} {D : DataW Value} (h : w.ownsMap Tryz.prog 3 heldR b n D) (hp : ss.Perm (intKeys D)) (hf : ∀ k, Maps.has D (.int .i64 k) = true ↔ P k) : KeysOf P (ss.mergeSort fun x y => decide (x ≤ y)) := by
 obtain ⟨h1, h2, _⟩ := intKeys_facts h
 have hq := (List.mergeSort_perm ss (fun x y => decide (x ≤ y))).trans hp
 exact ⟨hq.nodup_iff.2 h1, mergeSort_of_perm_i (List.mergeSort_perm ss _), fun k => by rw [hq.mem_iff, h2 k, hf k]⟩
def IsY (w : World) (x : Nat) (f : Streams) (N : Nat) (ft : Nat → Prop) : Prop := ∃ bm D g ev, MidX w x bm D g f ev N ft
theorem IsY.kept {w w' : World} {x N : Nat} {f : Streams} {ft : Nat → Prop} (h : IsY w x f N ft) (hk : ∀ j, j < w.heap.size → ft j → w'.heap[j]? = w.heap[j]?) : IsY w' x f N ft := by
 obtain ⟨bm, D, g, ev, hm⟩ := h
 exact ⟨bm, D, g, ev, hm.kept hk⟩
theorem IsY.next {w w' : World} {x N : Nat} {f : Streams} {ft : Nat → Prop} (h : IsY w x f N ft) (hb : Below w.heap.size w w') : IsY w' x f N ft := h.kept fun j hj _ => hb.block j hj
theorem MidX.has {w : World} {x bm n : Nat} {D : DataW Value} {g : List UInt8 → Value} {f : Streams} {ev : Int} {ft : Nat → Prop} (h : MidX w x bm D g f ev n ft) (k : List UInt8) : Maps.has D (.string k) = true ↔ f k ≠ [] := by
 obtain ⟨h1, h2, h3, h4, h5, h6, h7, h8⟩ := h
 constructor
 · intro hh e
   rw [Maps.has_false_of_atKey (h8 k e)] at hh
   cases hh
 · intro hf
   cases e : Maps.has D (.string k) with
   | true => rfl
   | false =>
     have a1 := h5 k
     rw [Maps.atKey_of_not_has e] at a1
     have a2 := (h6 k).1
     simp only [DataW.held.injEq] at a1
     rw [← a1] at a2
     obtain ⟨_, _, a3⟩ := owns_slice a2
     simp only [Value.slice.injEq] at a3
     exact (hf (List.length_eq_zero_iff.1 a3.2.1.symm)).elim
theorem MidX.store {w W w3 : World} {x bm n B : Nat} {D : DataW Value} {g : List UInt8 → Value} {f : Streams} {ev : Int} {ft : Nat → Prop} {nm : List UInt8} {v : Value} {l : List (Int × Evt.Event)}
   (h : MidX w x bm D g f ev n ft) (hf : f nm = []) (hW : Below w.heap.size w W) (hown : W.ownsRow B 244 3 v l.length (keptCells l)) (hB : w.heap.size ≤ B) (hl : l ≠ []) (hln : l.length ≤ n) {n3 : Nat} (hn : n ≤ n3)
   (hmap : w3.ownsMap Tryz.prog 9 heldR bm n3 (D.put (.string nm) (.held v))) (hg3 : W.grownBy w3 (some bm)) :
   MidX w3 x bm (D.put (.string nm) (.held v)) (fun k => if k = nm then v else g k) (fun k => if k = nm then l else f k) ev n3 (fun j => ft j ∨ (B ≤ j ∧ j < w3.heap.size)) := by
 obtain ⟨h1, h2, h3, h4, h5, h6, h7, h8⟩ := h
 have hx := (Array.getElem?_eq_some_iff.1 h1).1
 have hm := h2.lt
 have hxm : x ≠ bm := by
   intro e
   obtain ⟨es, c, hh, _⟩ := h2
   rw [← e, h1] at hh
   cases hh
 have keep3 : ∀ j, j < w.heap.size → j ≠ bm → w3.heap[j]? = w.heap[j]? := fun j hj hb => (hg3.block j (Nat.lt_of_lt_of_le hj hW.size) (by simpa using hb)).trans (hW.block j hj)
 have hvb : ∀ b, v.ownBlock = some b → B ≤ b ∧ b < W.heap.size := hown.lt
 refine ⟨(keep3 x hx hxm).trans h1, hmap, .inl h3, .inl h4, fun k => ?_, fun k => ?_, fun k k' b hb hb' => ?_, fun k hk0 z => ?_⟩
 · by_cases hk : k = nm
   · subst hk
     simp only [if_true]
     exact Maps.atKey_put_same h2.isMap (by trivial) _ _
   · simp only [if_neg hk]
     rw [Maps.atKey_put_other (by simpa using hk)]
     exact h5 k
 · by_cases hk : k = nm
   · subst hk
     simp only [if_true]
     refine ⟨(ownsRow_low hown (Nat.zero_le _)).kept hg3 ?_, by omega, fun b hb => ?_⟩
     · by_cases e : v.ownBlock = some bm
       · have := (hvb bm e).1; omega
       · exact .inr e
     · have := hvb b hb
       exact ⟨.inr ⟨this.1, Nat.lt_of_lt_of_le this.2 hg3.size⟩, by omega, by omega⟩
   · simp only [if_neg hk]
     refine ⟨ownsRow_at (h6 k).1 fun b hb hlb => keep3 b hlb ((h6 k).2.2 b hb).2.2, Nat.le_trans (h6 k).2.1 hn, fun b hb => ⟨.inl ((h6 k).2.2 b hb).1, ((h6 k).2.2 b hb).2⟩⟩
 · have far : ∀ k b, k ≠ nm → (g k).ownBlock = some b → v.ownBlock = some b → False := fun k b hk hb hv => by
     have l1 := (hvb b hv).1
     have l2 := ((h6 k).1.lt b hb).2
     omega
   by_cases hk : k = nm <;> by_cases hk' : k' = nm
   · rw [hk, hk']
   · simp only [if_pos hk] at hb
     simp only [if_neg hk'] at hb'
     exact (far k' b hk' hb' hb).elim
   · simp only [if_neg hk] at hb
     simp only [if_pos hk'] at hb'
     exact (far k b hk hb hb').elim
   · simp only [if_neg hk] at hb
     simp only [if_neg hk'] at hb'
     exact h7 k k' b hb hb'
 · by_cases hk : k = nm
   · simp only [if_pos hk] at hk0
     exact (hl hk0).elim
   · rw [Maps.atKey_put_other (by simpa using hk)]
     simp only [if_neg hk] at hk0
     exact h8 k hk0 z
theorem flatMap_at {α : Type} (g : α → List Value) (sz : Nat) (hg : ∀ x, (g x).length = sz) : ∀ (xs : List α) (i j : Nat) (hi : i < xs.length), j < sz → (xs.flatMap g)[i * sz + j]? = (g xs[i])[j]?
 | x :: xs, 0, j, _, hj => by
   rw [List.flatMap_cons, Nat.zero_mul, Nat.zero_add, List.getElem?_append_left (by rw [hg]; exact hj)]
   rfl
 | x :: xs, i + 1, j, hi, hj => by
   rw [List.flatMap_cons, show (i + 1) * sz + j = sz + (i * sz + j) by rw [Nat.add_mul, Nat.one_mul]; omega, List.getElem?_append_right (by rw [hg]; omega), hg, Nat.add_sub_cancel_left]
   exact flatMap_at g sz hg xs i j (by simpa using hi) hj
theorem cellsFlat {α : Type} {w : World} {v : Value} (g : α → List Value) (sz : Nat) (hg : ∀ x, (g x).length = sz) {xs : List α} (h : Cells w v sz xs.length (xs.flatMap g)) (i : Nat) (hi : i < xs.length) :
   ∃ b o c, v = .slice (some ⟨b, o, none⟩) xs.length c ∧ ∀ j u, j < sz → (g xs[i])[j]? = some u → w.cell? ⟨b, o + i * sz + j, none⟩ = some u := by
 rcases h.2 with ⟨h0, _⟩ | ⟨b, o, c, h1, h2⟩
 · omega
 · refine ⟨b, o, c, h1, fun j u hj hu => ?_⟩
   have := h2 (i * sz + j) u (by rw [flatMap_at g sz hg xs i j hi hj]; exact hu)
   rw [show o + i * sz + j = o + (i * sz + j) by omega]
   exact this
theorem keptCells_ones (l : List (Int × Evt.Event)) : ∀ u ∈ keptCells l, u.oneCell' = true := by
 intro u hu
 obtain ⟨p, _, hp⟩ := List.mem_flatMap.1 hu
 simp only [List.mem_cons, List.not_mem_nil, or_false] at hp
 rcases hp with rfl | rfl | rfl <;> rfl
theorem MidX.setEv {w : World} {x bm n : Nat} {D : DataW Value} {g : List UInt8 → Value} {f : Streams} {ev : Int} {ft : Nat → Prop} (h : MidX w x bm D g f ev n ft) (m : Int) :
   MidX (w.setCell ⟨x, 1, none⟩ (.int .i64 m)) x bm D g f m n ft ∧ w.grownBy (w.setCell ⟨x, 1, none⟩ (.int .i64 m)) (some x) := by
 obtain ⟨h1, h2, h3, h4, h5, h6, h7⟩ := h
 have hg : w.grownBy (w.setCell ⟨x, 1, none⟩ (.int .i64 m)) (some x) := grown_set _ _ _ _
 have hxm : bm ≠ x := by
   intro e
   obtain ⟨es, c, hh, _⟩ := h2
   rw [e, h1] at hh
   cases hh
 exact ⟨⟨setCell_at (i := 1) h1 _, ownsMap_atH h2 (hg.block bm h2.lt (by simpa using hxm)), h3, h4, h5, fun k => ⟨ownsRow_at (h6 k).1 fun b hb hl => hg.block b hl (by simpa using ((h6 k).2.2 b hb).2.1), (h6 k).2⟩, h7⟩, hg⟩
theorem sameKey_str (j x : List UInt8) : (Lit.string j).sameKey (.string x) = decide (j = x) := by
 simp only [Lit.sameKey]
 by_cases e : j = x <;> simp [e]
def leftF (f : Streams) (left : Lit → Bool) : Streams := fun k => if left (.string k) then [] else f k
theorem leftF_done {f : Streams} {left : Lit → Bool} (h : ∀ kl, left kl = false) : leftF f left = f := by
 funext k
 unfold leftF
 rw [h]
 rfl
theorem leftF_step {f : Streams} {left : Lit → Bool} {x : List UInt8} (h : left (.string x) = true) : (fun k => if k = x then f x else leftF f left k) = leftF f (fun z => left z && !z.sameKey (.string x)) := by
 funext k
 show (if k = x then f x else if left (.string k) = true then [] else f k) = if (left (.string k) && !(Lit.string k).sameKey (.string x)) = true then [] else f k
 rw [sameKey_str]
 by_cases e : k = x
 · subst e
   simp
 · simp [e]
set_option maxHeartbeats 4000000 in
set_option maxRecDepth 100000 in
theorem indexClone_any (x : Nat) (f : Streams) (n : Nat) (ft : Nat → Prop) (w : World) (h : IsX w x f n ft) (hn : n ≤ 100000) :
   Calls Tryz.prog 128 #[.pointer (some ⟨x, 0, none⟩)] w fun e w' => ∃ x2 ft2, e = .returned (.pointer (some ⟨x2, 0, none⟩)) ∧ Hid (IsY w' x2 f (n + n) ft2) ∧ Below w.heap.size w w' := by
 obtain ⟨bm, D, g, hM⟩ := MidX.of h
 have HM := Lib.hid hM
 have HN := Lib.hid (indexNew_any w)
 clear h hM
 go_enter Tryz.func128, Tryz.ntmps128
 go_wp2_with fail
 refine HN.out.mono ?_
 rintro e w1 ⟨x2, rfl, hx2, hb1⟩
 obtain ⟨bm2, D2, g2, hm2⟩ := MidX.of hx2
 have hM1 := HM.out.next hb1
 have k1 : w1.cell? ⟨x, 1, none⟩ = some (.int .i64 (n : Int)) := by rw [Lib.cell_of_heap hM1.1]; rfl
 have fr := Lib.frozen_of_heap hm2.1 1
 have x1 : w1.cell? ⟨x2, 1, none⟩ = some (.int .i64 ((0 : Nat) : Int)) := by rw [Lib.cell_of_heap hm2.1]; rfl
 obtain ⟨hm3, hg3⟩ := hm2.setEv (n : Int)
 have hb2 : Below w.heap.size w (w1.setCell ⟨x2, 1, none⟩ (.int .i64 (n : Int))) := hb1.grown hg3 hb1.size (fun j hj => by cases hj; exact hx2.choose_spec.choose_spec.choose_spec.2.2.1.1)
 have hM2 := HM.out.next hb2
 have k0 : (w1.setCell ⟨x2, 1, none⟩ (.int .i64 (n : Int))).cell? ⟨x, 0, none⟩ = some (.map (some bm)) := by rw [Lib.cell_of_heap hM2.1]; rfl
 have hown0 := hM2.2.1
 obtain ⟨r, hr⟩ : ∃ r, (w1.setCell ⟨x2, 1, none⟩ (.int .i64 (n : Int))).heap.size = r := ⟨_, rfl⟩
 have HR := Lib.hid (show w.heap.size ≤ r ∧ r = w1.heap.size from ⟨by rw [← hr]; exact hb2.size, by rw [← hr]; simp [World.size_setCell]⟩)
 have H3 := Lib.hid (And.intro hm3 hb2)
 clear HN hM1 hM2 hm3 hm2 hx2 hb1 hb2 hg3
 go_wp2_with (first
   | (at_range; refine wpList_range_own _ rfl _ 239 rfl 9 240 str_keyed Tryz.underlying239 heldR bm n D rfl hown0 ?_; intro w0 hrg0 hg0 hs0)
   | fail)
 go_frame
 rw [hr] at hrg0
 try rw [hr]
 try rw [← HR.out.2]
 have hgb : Below w.heap.size w w0 := H3.out.2.grown hg0 H3.out.2.size (fun j hj => by cases hj)
 have hY0 : MidX w0 x2 bm2 D2 g2 (fun _ => []) (n : Int) 0 (fun j => w.heap.size ≤ j ∧ j < w1.heap.size) := H3.out.1.kept fun j hj _ => hg0.block j hj (by simp)
 have HI := Lib.hid (And.intro hrg0 (And.intro hY0 hgb))
 clear hrg0 hY0 hgb hg0 hs0 k0 k1 x1 fr hown0 hr H3
 go_loopw [4] (fun _ wr => ∃ (left : Lit → Bool) (cnt : Nat) (ft2 : Nat → Prop), wr.ranges Tryz.prog 9 heldR bm r n D left cnt ∧ cnt ≤ n ∧ Hid (IsY wr x2 (leftF f left) (n + (n - cnt)) ft2) ∧ Hid (∀ j, ft2 j → w.heap.size ≤ j ∧ j ≠ r) ∧ Below w.heap.size w wr) (fun _ wr => wr.rangeLeft bm r)
 case atStart =>
   obtain ⟨q1, q2, q3⟩ := HI.out
   have hsz := q1.owns.size_le
   refine ⟨_, _, fun j => w.heap.size ≤ j ∧ j < w1.heap.size, q1, hsz, Lib.hid ⟨bm2, D2, g2, (n : Int), ?_⟩, Lib.hid (fun j hj => ⟨hj.1, by have := HR.out; omega⟩), q3⟩
   have e : leftF f (Maps.has D) = fun _ => [] := by
     funext k
     unfold leftF
     by_cases e : Maps.has D (.string k) = true
     · rw [if_pos e]
     · rw [if_neg e]
       cases hc : f k with
       | nil => rfl
       | cons a l => exact (e ((HM.out.has k).2 (by rw [hc]; simp))).elim
   rw [e]
   obtain ⟨h1, h2, h3, h4, h5, h6, h7⟩ := q2
   exact ⟨h1, h2.mono (Nat.zero_le _), h3, h4, h5, fun k => ⟨(h6 k).1, Nat.le_trans (h6 k).2.1 (Nat.zero_le _), (h6 k).2.2⟩, h7⟩
 case round =>
   obtain ⟨left, cnt, ft2, hrg, hcs, HY, HF2, hnx⟩ := hrel
   have HRG := Lib.hid hrg
   have HNX := Lib.hid hnx
   clear hnx
   go_wp2_with (first
     | (at_next; refine wpList_next_ranges _ rfl _ rfl 9 str_keyed heldR (fun x : List UInt8 => Value.string ⟨x.toArray⟩) (fun v : Value => v) (fun key kl hk => by obtain ⟨x, hx, _⟩ := Maps.keyOf_str Tryz.underlying9 hk; exact ⟨x, hx⟩) (fun v y hv => ⟨v, rfl⟩) bm r n D left cnt rfl hrg ?_ ?_)
     | fail)
   · intro hc0 hl0
     clear hrg
     go_wp2
     go_ret
     refine ⟨x2, ft2, rfl, Lib.hid ?_, HNX.out⟩
     have := HY.out
     rw [leftF_done hl0, hc0] at this
     exact this
   · intro y c kl yy yp wA cnt1 hkx hlx hRc hat hrg1 hlt hg1 hs1 hen
     obtain ⟨y', hy', rfl, hxl⟩ := Maps.keyOf_str Tryz.underlying9 hkx
     obtain rfl : y = y' := by simpa [encStr] using hy'
     have hbA : Below w.heap.size w wA := HNX.out.grown hg1 HNX.out.size (fun j hj => by cases hj; exact HR.out.1)
     have hMA := HM.out.next hbA.drew
     have hgc : g y = c := by
       have a1 := hMA.2.2.2.2.1 y
       rw [hat] at a1
       rw [a1] at hRc
       exact (heldR_of hRc).symm
     have hfy : f y ≠ [] := (hMA.has y).1 (Maps.has_true_of_atKey hat)
     obtain ⟨hrow, hlen, _⟩ := hMA.2.2.2.2.2.1 y
     rw [hgc] at hrow
     have hln : (f y).length ≠ 0 := fun e => hfy (List.length_eq_zero_iff.1 e)
     have HCL := Lib.hid (cloneKept_any c (f y).length (keptCells (f y)) wA.drew (cells_of_owns hrow) (keptCells_ones _) (by omega) (fun e => (hln e).elim))
     obtain ⟨va, vc, rfl⟩ := owns_slice hrow
     obtain ⟨bY, DY, gY, evY, hmY⟩ := HY.out
     have hYA : MidX wA x2 bY DY gY (leftF f left) evY (n + (n - cnt)) ft2 := hmY.kept fun j hj hf => hg1.block j hj (by simpa using (HF2.out j hf).2)
     have xA : wA.drew.cell? ⟨x2, 0, none⟩ = some (.map (some bY)) := by rw [Lib.cell_of_heap (show wA.drew.heap[x2]? = _ from hYA.1)]; rfl
     have HA := Lib.hid (And.intro hYA (And.intro hbA (And.intro hrg1 (And.intro hlx hfy))))
     have HL := Lib.hid (And.intro hcs (And.intro hlt (And.intro hlen hrg1.lt)))
     have HNi := Lib.hid (show n + (n - cnt) < maxLen by unfold maxLen; omega)
     have HXL := Lib.hid (show (⟨y.toArray⟩ : ByteArray).size ≤ maxLen by rw [Lib.size_eq]; exact hxl)
     clear hgc hfy hrow hln hMA hmY hYA hbA hrg1 hkx hat hRc hlx hy' hxl hrg hs1 hg1 hlen hlt
     go_upto_region 6 with fail
     go_region_held3 (fun Z => Z.cell? ⟨x2, 0, none⟩ = some (.map (some bY))) (first | exact xA | exact xB | exact xC) (first
       | (go_at_call 205
          refine HCL.out.mono ?_
          rintro e wB ⟨v', rfl, hown, hbB0⟩
          have hbB : Below wA.heap.size wA wB := (Below.refl _ wA).drew.trans hbB0
          have hmB := HA.out.1.next hbB
          have xB : wB.cell? ⟨x2, 0, none⟩ = some (.map (some bY)) := by rw [Lib.cell_of_heap hmB.1]; rfl
          obtain ⟨wC, hmu, hownC, hgC⟩ := hmB.2.1.update str_keyed Tryz.underlying239 HNi.out (WideMaps.keyOf_string_mk (s := ⟨y.toArray⟩) Tryz.underlying9 HXL.out) (val := v') (d := .held v') (ps := []) rfl
          have hst := HA.out.1.store (W := wB) (w3 := wC) (B := wA.heap.size) (n3 := n + (n - cnt1)) (by unfold leftF; rw [if_pos HA.out.2.2.2.1]) hbB hown.out (Nat.le_refl _) HA.out.2.2.2.2 (by have := HL.out; omega) (by have := HL.out; omega) (hownC.mono (by have := HL.out; omega)) hgC
          rw [leftF_step HA.out.2.2.2.1] at hst
          have xC : wC.cell? ⟨x2, 0, none⟩ = some (.map (some bY)) := by rw [Lib.cell_of_heap hst.1]; rfl
          have hne := HA.out.2.2.1.ne
          have hbm := HA.out.2.2.1.owns.lt
          have hrgC := (HA.out.2.2.1.kept (grown_of_below hbB) (by simp) (by simp)).kept hgC (fun e => by have := Option.some.inj e; have := (HF2.out bY HA.out.1.2.2.2.1).1; have := HM.out.2.1.lt; omega) (fun e => (HF2.out bY HA.out.1.2.2.2.1).2 (Option.some.inj e).symm)
          have HFIN := Lib.hid (And.intro hst (And.intro hrgC ((HA.out.2.1.trans (hbB.mono HA.out.2.1.size)).grown hgC (HA.out.2.1.trans (hbB.mono HA.out.2.1.size)).size (fun j hj => by cases hj; exact (HF2.out _ HA.out.1.2.2.2.1).1))))
          clear hmB hownC hgC hst hrgC hown hbB hbB0 hne hbm))
     all_goals go_wp2
     all_goals go_roundw
     all_goals first
       | exact ⟨_, cnt1, _, HFIN.out.2.1, by have := HL.out; omega, Lib.hid ⟨_, _, _, _, HFIN.out.1⟩, Lib.hid (fun j hj => by
           rcases hj with hj | hj
           · exact HF2.out j hj
           · have := HL.out; have := HA.out.2.1.size; exact ⟨by omega, by omega⟩), HFIN.out.2.2⟩
       | (rw [HFIN.out.2.1.left_eq, HRG.out.left_eq]; exact HL.out.2.1)
theorem sameKey_int (j x : Int) : (Lit.int .i64 j).sameKey (.int .i64 x) = decide (j = x) := by
 simp only [Lit.sameKey]
 by_cases e : j = x <;> simp [e]
def leftS (S : Sess) (left : Lit → Bool) : Sess := fun k => if left (.int .i64 k) then none else S k
theorem leftS_done {S : Sess} {left : Lit → Bool} (h : ∀ kl, left kl = false) : leftS S left = S := by
 funext k
 unfold leftS
 rw [h]
 rfl
theorem leftS_step {S : Sess} {left : Lit → Bool} {x hi : Int} {O : Int → Option Outc} (hS : S x = some (hi, O)) (h : left (.int .i64 x) = true) : (fun k => if k = x then some (hi, O) else leftS S left k) = leftS S (fun z => left z && !z.sameKey (.int .i64 x)) := by
 funext k
 show (if k = x then some (hi, O) else if left (.int .i64 k) = true then none else S k) = if (left (.int .i64 k) && !(Lit.int .i64 k).sameKey (.int .i64 x)) = true then none else S k
 rw [sameKey_int]
 by_cases e : k = x
 · subst e
   simp [hS]
 · simp [e]
theorem cloneOut_any (b n : Nat) (D : DataW Value) (w : World) (h : w.ownsMap Tryz.prog 3 heldR b n D) :
   Calls Tryz.prog 206 #[.map (some b)] w fun e w' => e = .returned (.map (some w.heap.size)) ∧ Hid (w'.ownsMap Tryz.prog 3 heldR w.heap.size n D) ∧ Below w.heap.size w w' :=
 (AnyW.maps_Clone_owns Tryz.cloneW 3 heldR b n D w h).mono fun _ _ hh => ⟨hh.1, Lib.hid hh.2.1, hh.2.2.2⟩
theorem IsT.cloned {w wB w' : World} {t n n' bm : Nat} {S : Sess} {ft fo : Nat → Prop} {D D0 : DataW Value} {gs go : Int → Nat} {k hi : Int} {O : Int → Option Outc}
   (h1 : w.heap[t]? = some (.cells #[.map (some bm)] 252 (0, 0))) (h2 : w.ownsMap Tryz.prog 3 heldR bm n D) (h3 : ft t) (h4 : ft bm)
   (h5 : ∀ k, S k = none → ∀ z, D.atKey (.int .i64 k) z = z)
   (h6 : ∀ k hi O, S k = some (hi, O) → D.atKey (.int .i64 k) (.held (.pointer none)) = .held (.pointer (some ⟨gs k, 0, none⟩)) ∧ SessAt w (gs k) hi O n (go k) ft ∧ go k ≠ bm)
   (h7 : ∀ k k' x x', S k = some x → S k' = some x' → (gs k = gs k' ∨ go k = go k') → k = k') (hS : S k = none)
   (hO : ∀ q, (O q = none → ∀ z, D0.atKey (.int .i64 q) z = z) ∧ (∀ o, O q = some o → ∃ b, D0.atKey (.int .i64 q) (.held (.pointer none)) = .held (.pointer (some ⟨b, 0, none⟩)) ∧ OutAt w b o ∧ fo b))
   (hb : Below w.heap.size w wB) (hm : wB.ownsMap Tryz.prog 3 heldR w.heap.size n D0) (hn : n ≤ n')
   (hM : w'.ownsMap Tryz.prog 3 heldR bm n' (D.put (.int .i64 k) (.held (.pointer (some ⟨wB.heap.size, 0, none⟩)))))
   (hg : (wB.alloc (.cells #[.int .i64 hi, .map (some w.heap.size)] 257)).grownBy w' (some bm)) :
   IsT w' t (fun j => if j = k then some (hi, O) else S j) n' (fun j => ft j ∨ fo j ∨ (w.heap.size ≤ j ∧ j < w'.heap.size)) := by
 have hlt := h2.lt
 have hmB := hm.lt
 have bA : Below w.heap.size w (wB.alloc (.cells #[.int .i64 hi, .map (some w.heap.size)] 257)) := hb.alloc hb.size _
 have hz : (wB.alloc (.cells #[.int .i64 hi, .map (some w.heap.size)] 257)).heap.size = wB.heap.size + 1 := by simp [World.size_alloc]
 have hs := heap_alloc_new wB (.cells #[.int .i64 hi, .map (some w.heap.size)] 257)
 have hgz := hg.size
 have keep : ∀ j, j < w.heap.size → j ≠ bm → w'.heap[j]? = w.heap[j]? := fun j hj e => (hg.block j (by omega) (by simpa using e)).trans (bA.block j hj)
 refine IsT.turned (w' := w') (sb := wB.heap.size) (bo := w.heap.size) h1 h2 h3 h4 h5 h6 h7 hM (fun j hj _ => Maps.atKey_put_other (by simpa using hj) _ _) (Maps.atKey_put_same h2.isMap (by trivial) _ _) ?_ hn (fun j hj => .inl hj) (fun j hj hf e1 e2 e3 => keep j hj e1) (.inl ⟨hS, by omega, Nat.le_refl _⟩)
 refine ⟨D0, (hg.block _ (by omega) (by simp; omega)).trans hs, (ownsMap_atH (hm.alloc _) (hg.block _ (by omega) (by simp; omega))).mono hn, .inr (.inr ⟨by omega, by omega⟩), .inr (.inr ⟨Nat.le_refl _, by omega⟩), fun q => ⟨(hO q).1, fun o ho => ?_⟩⟩
 obtain ⟨b, b1, b2, b3⟩ := (hO q).2 o ho
 exact ⟨b, b1, (keep b (Array.getElem?_eq_some_iff.1 b2).1 (sess_ne (x := [.int .i64 o.code, .int .i64 o.pos, .int .i64 o.first, .int .i64 o.version]) b2 h2)).trans b2, .inr (.inl b3)⟩
set_option maxHeartbeats 4000000 in
set_option maxRecDepth 100000 in
theorem dedupClone_any (t : Nat) (S : Sess) (n : Nat) (ft : Nat → Prop) (w : World) (h : IsT w t S n ft) (hn : n ≤ 100000) :
   Calls Tryz.prog 129 #[.pointer (some ⟨t, 0, none⟩)] w fun e w' => ∃ t2 ft2, e = .returned (.pointer (some ⟨t2, 0, none⟩)) ∧ Hid (IsT w' t2 S (n + n) ft2) ∧ Below w.heap.size w w' := by
 obtain ⟨bm, D, gs, go, h1, h2, h3, h4, h5, h6, h7⟩ := h.narrow
 have H0 := Lib.hid (And.intro h1 (And.intro h2 (And.intro h5 (And.intro h6 (And.intro h3 h4)))))
 have HN := Lib.hid (dedupNew_any w)
 clear h h1 h2 h3 h4 h5 h6 h7
 go_enter Tryz.func129, Tryz.ntmps129
 go_wp2_with fail
 refine HN.out.mono ?_
 rintro e w1 ⟨t2, bm2, rfl, ht2, hm2, hz1, hz2, hz3, hb1⟩
 have k0 : w1.cell? ⟨t, 0, none⟩ = some (.map (some bm)) := by rw [Lib.cell_of_heap ((hb1.block t (Array.getElem?_eq_some_iff.1 H0.out.1).1).trans H0.out.1)]; rfl
 have hown0 := ownsMap_atH H0.out.2.1 (hb1.block bm H0.out.2.1.lt)
 obtain ⟨r, hr⟩ : ∃ r, w1.heap.size = r := ⟨_, rfl⟩
 have HR := Lib.hid (show w.heap.size ≤ r ∧ bm2 < r ∧ t2 < r from ⟨by rw [← hr]; exact hb1.size, by omega, by omega⟩)
 have HZ := Lib.hid (And.intro hz1 hz2)
 have H3 := Lib.hid (And.intro (isT_new (ft := fun j => w.heap.size ≤ j ∧ j < r) ht2 hm2 ⟨by omega, by omega⟩ ⟨by omega, by omega⟩) (And.intro hb1 ht2))
 clear HN hm2 ht2 hb1 hz1 hz2 hz3
 go_wp2_with (first
   | (at_range; refine wpList_range_own _ rfl _ 249 rfl 3 250 int_key Tryz.underlying249 heldR bm n D rfl hown0 ?_; intro w0 hrg0 hg0 hs0)
   | fail)
 go_frame
 rw [hr] at hrg0
 try rw [hr]
 have hgb : Below w.heap.size w w0 := H3.out.2.1.grown hg0 H3.out.2.1.size (fun j hj => by cases hj)
 have hY0 : IsT w0 t2 (fun _ => none) 0 (fun j => w.heap.size ≤ j ∧ j < r) := H3.out.1.kept fun j hj _ => hg0.block j hj (by simp)
 have HI := Lib.hid (And.intro hrg0 (And.intro hY0 (And.intro hgb ((hg0.block t2 (Array.getElem?_eq_some_iff.1 H3.out.2.2).1 (by simp)).trans H3.out.2.2))))
 clear hrg0 hY0 hgb hg0 hs0 k0 hown0 hr H3
 go_loopw [4] (fun _ wr => ∃ (left : Lit → Bool) (cnt : Nat) (ft2 : Nat → Prop), wr.ranges Tryz.prog 3 heldR bm r n D left cnt ∧ cnt ≤ n ∧ Hid (IsT wr t2 (leftS S left) (n + (n - cnt)) ft2) ∧ Hid (∀ j, ft2 j → (ft j ∧ j < w.heap.size) ∨ (w.heap.size ≤ j ∧ j ≠ r)) ∧ Hid (wr.heap[t2]? = some (.cells #[.map (some bm2)] 252 (0, 0))) ∧ Below w.heap.size w wr) (fun _ wr => wr.rangeLeft bm r)
 case atStart =>
   obtain ⟨q1, q2, q3, q4⟩ := HI.out
   have hsz := q1.owns.size_le
   refine ⟨_, _, fun j => w.heap.size ≤ j ∧ j < r, q1, hsz, Lib.hid ?_, Lib.hid (fun j hj => .inr ⟨hj.1, by omega⟩), Lib.hid q4, q3⟩
   have e : leftS S (Maps.has D) = fun _ => none := by
     funext k
     unfold leftS
     by_cases e : Maps.has D (.int .i64 k) = true
     · rw [if_pos e]
     · rw [if_neg e]
       cases hc : S k with
       | none => rfl
       | some x =>
         have a1 := (H0.out.2.2.2.1 k x.1 x.2 hc).1
         rw [Maps.atKey_of_not_has (by simpa using e)] at a1
         simp at a1
   rw [e]
   exact q2.mono (Nat.zero_le _)
 case round =>
   obtain ⟨left, cnt, ft2, hrg, hcs, HY, HF2, HT2, hnx⟩ := hrel
   have HRG := Lib.hid hrg
   have HNX := Lib.hid hnx
   clear hnx
   go_wp2_with (first
     | (at_next; refine wpList_next_ranges _ rfl _ rfl 3 int_key heldR (fun x : Int => Value.int .i64 x) (fun v : Value => v) (fun key kl hk => by obtain ⟨x, hx, _⟩ := Maps.keyOf_i64 Tryz.underlying3 hk; exact ⟨x, hx⟩) (fun v y hv => ⟨v, rfl⟩) bm r n D left cnt rfl hrg ?_ ?_)
     | fail)
   · intro hc0 hl0
     clear hrg
     go_wp2
     go_ret
     refine ⟨t2, ft2, rfl, Lib.hid ?_, HNX.out⟩
     have := HY.out
     rw [leftS_done hl0, hc0] at this
     exact this
   · intro y c kl yy yp wA cnt1 hkx hlx hRc hat hrg1 hlt hg1 hs1 hen
     obtain ⟨y', hy', rfl, hyw⟩ := Maps.keyOf_i64 Tryz.underlying3 hkx
     obtain rfl : y = y' := by simpa using hy'
     have hbA : Below w.heap.size w wA := HNX.out.grown hg1 HNX.out.size (fun j hj => by cases hj; exact HR.out.1)
     obtain ⟨hi, O, hSy⟩ : ∃ hi O, S y = some (hi, O) := by
       cases hc : S y with
       | some x => exact ⟨x.1, x.2, rfl⟩
       | none =>
         have a1 := H0.out.2.2.1 y hc .nil
         have a2 := H0.out.2.2.1 y hc (.lit (.bool true))
         rw [hat] at a1 a2
         rw [a1] at a2
         cases a2
     obtain ⟨e1, ⟨D0, s1, s2, s3, s4, s5⟩, e3⟩ := H0.out.2.2.2.1 y hi O hSy
     have hgc : c = .pointer (some ⟨gs y, 0, none⟩) := by
       rw [hat] at e1
       rw [e1] at hRc
       exact heldR_of hRc
     subst hgc
     obtain ⟨sb, hsb⟩ : ∃ sb, gs y = sb := ⟨_, rfl⟩
     obtain ⟨bo, hbo⟩ : ∃ bo, go y = bo := ⟨_, rfl⟩
     rw [hsb] at s1 hen ⊢
     rw [hbo] at s1 s2
     have s1A := (hbA.block sb (Array.getElem?_eq_some_iff.1 s1).1).trans s1
     have s2A := ownsMap_atH s2 (hbA.block bo s2.lt)
     have hOA : ∀ q, (O q = none → ∀ z, D0.atKey (.int .i64 q) z = z) ∧ (∀ o, O q = some o → ∃ b, D0.atKey (.int .i64 q) (.held (.pointer none)) = .held (.pointer (some ⟨b, 0, none⟩)) ∧ OutAt wA b o ∧ (ft b ∧ b < w.heap.size)) := fun q => ⟨(s5 q).1, fun o ho => by
       obtain ⟨b, b1, b2, b3⟩ := (s5 q).2 o ho
       exact ⟨b, b1, (hbA.block b (Array.getElem?_eq_some_iff.1 b2).1).trans b2, b3⟩⟩
     have HCL := Lib.hid (cloneOut_any bo n D0 wA.drew s2A)
     have hTA : IsT wA t2 (leftS S left) (n + (n - cnt)) ft2 := HY.out.kept fun j hj hf => hg1.block j hj (by
       rcases HF2.out j hf with q | q
       · have := HR.out.1; simp; omega
       · simpa using q.2)
     obtain ⟨bY, DY, gY, oY, y1, y2, y3, y4, y5, y6, y7⟩ := hTA
     obtain rfl : bY = bm2 := by
       have e := (hg1.block t2 (Array.getElem?_eq_some_iff.1 HT2.out).1 (by have := HR.out.2.2; simp; omega)).trans HT2.out
       rw [y1] at e
       simpa using e
     have xA : wA.drew.cell? ⟨t2, 0, none⟩ = some (.map (some bY)) := by rw [Lib.cell_of_heap (show wA.drew.heap[t2]? = _ from y1)]; rfl
     have zA : wA.drew.cell? ⟨sb, 0, none⟩ = some (.int .i64 hi) := by rw [Lib.cell_of_heap (show wA.drew.heap[sb]? = _ from s1A)]; rfl
     have uA : wA.drew.cell? ⟨sb, 1, none⟩ = some (.map (some bo)) := by rw [Lib.cell_of_heap (show wA.drew.heap[sb]? = _ from s1A)]; rfl
     have HA := Lib.hid (And.intro y1 (And.intro y2 (And.intro y3 (And.intro y4 (And.intro y5 (And.intro y6 y7))))))
     have HB := Lib.hid (And.intro hbA (And.intro hrg1 (And.intro hlx (And.intro hSy (And.intro s1A hOA)))))
     have HL := Lib.hid (And.intro hcs (And.intro hlt hrg1.lt))
     have HNi := Lib.hid (show n + (n - cnt) < maxLen by unfold maxLen; omega)
     have HYW := Lib.hid hyw
     clear y1 y2 y3 y4 y5 y6 y7 hbA hrg1 hkx hat hRc hlx hy' hyw hrg hs1 hg1 hlt e1 e3 s1 s2 s3 s4 s5 s1A s2A hOA hSy hsb hbo
     go_upto_region 5 with fail
     go_region_held3 (fun Z => Z.cell? ⟨t2, 0, none⟩ = some (.map (some bY)) ∧ Z.cell? ⟨sb, 0, none⟩ = some (.int .i64 hi) ∧ Z.cell? ⟨sb, 1, none⟩ = some (.map (some bo))) (first | exact ⟨xA, zA, uA⟩ | exact XB | exact XD | exact XC) (first
       | (go_at_call 206
          refine HCL.out.mono ?_
          rintro e wB ⟨rfl, hown, hbB0⟩
          have hbB : Below wA.heap.size wA wB := (Below.refl _ wA).drew.trans hbB0
          have y1B := (hbB.block t2 (Array.getElem?_eq_some_iff.1 HA.out.1).1).trans HA.out.1
          have s1B := (hbB.block sb (Array.getElem?_eq_some_iff.1 HB.out.2.2.2.2.1).1).trans HB.out.2.2.2.2.1
          have XB : wB.cell? ⟨t2, 0, none⟩ = some (.map (some bY)) ∧ wB.cell? ⟨sb, 0, none⟩ = some (.int .i64 hi) ∧ wB.cell? ⟨sb, 1, none⟩ = some (.map (some bo)) := by
            refine ⟨?_, ?_, ?_⟩
            · rw [Lib.cell_of_heap y1B]; rfl
            · rw [Lib.cell_of_heap s1B]; rfl
            · rw [Lib.cell_of_heap s1B]; rfl
          obtain ⟨wD, hwD⟩ : ∃ wD, wB.alloc (.cells #[.int .i64 hi, .map (some wA.heap.size)] 257) = wD := ⟨_, rfl⟩
          have hbD : Below wB.heap.size wB wD := by rw [← hwD]; exact (Below.refl _ wB).alloc (Nat.le_refl _) _
          have y1D := (hbD.block t2 (Array.getElem?_eq_some_iff.1 y1B).1).trans y1B
          have s1D := (hbD.block sb (Array.getElem?_eq_some_iff.1 s1B).1).trans s1B
          have y2D : wD.ownsMap Tryz.prog 3 heldR bY (n + (n - cnt)) DY := ownsMap_atH HA.out.2.1 ((hbD.block bY (by have := HA.out.2.1.lt; have := hbB.size; simp at *; omega)).trans (hbB.block bY HA.out.2.1.lt))
          obtain ⟨wC, hmu, hownC, hgC⟩ := y2D.update int_key Tryz.underlying249 HNi.out (Maps.keyOf_int_mk Tryz.underlying3 HYW.out) (val := .pointer (some ⟨wB.heap.size, 0, none⟩)) (d := .held (.pointer (some ⟨wB.heap.size, 0, none⟩))) (ps := []) rfl
          have hne1 : t2 ≠ bY := sess_ne (x := [.map (some bY)]) y1D y2D
          have hne2 : sb ≠ bY := sess_ne (x := [.int .i64 hi, .map (some bo)]) s1D y2D
          have y1C := (hgC.block t2 (Array.getElem?_eq_some_iff.1 y1D).1 (by simpa using hne1)).trans y1D
          have s1C := (hgC.block sb (Array.getElem?_eq_some_iff.1 s1D).1 (by simpa using hne2)).trans s1D
          have XC : wC.cell? ⟨t2, 0, none⟩ = some (.map (some bY)) ∧ wC.cell? ⟨sb, 0, none⟩ = some (.int .i64 hi) ∧ wC.cell? ⟨sb, 1, none⟩ = some (.map (some bo)) := by
            refine ⟨?_, ?_, ?_⟩
            · rw [Lib.cell_of_heap y1C]; rfl
            · rw [Lib.cell_of_heap s1C]; rfl
            · rw [Lib.cell_of_heap s1C]; rfl
          have XD : wD.cell? ⟨t2, 0, none⟩ = some (.map (some bY)) ∧ wD.cell? ⟨sb, 0, none⟩ = some (.int .i64 hi) ∧ wD.cell? ⟨sb, 1, none⟩ = some (.map (some bo)) := by
            refine ⟨?_, ?_, ?_⟩
            · rw [Lib.cell_of_heap y1D]; rfl
            · rw [Lib.cell_of_heap s1D]; rfl
            · rw [Lib.cell_of_heap s1D]; rfl
          have hst := IsT.cloned (n' := n + (n - cnt1)) HA.out.1 HA.out.2.1 HA.out.2.2.1 HA.out.2.2.2.1 HA.out.2.2.2.2.1 HA.out.2.2.2.2.2.1 HA.out.2.2.2.2.2.2 (k := y) (hi := hi) (O := O) (by unfold leftS; rw [if_pos HB.out.2.2.1]) HB.out.2.2.2.2.2 hbB (hown.out.mono (by omega)) (by have := HL.out; omega) (hownC.mono (by have := HL.out; omega)) (by rw [hwD]; exact hgC)
          rw [leftS_step HB.out.2.2.2.1 HB.out.2.2.1] at hst
          have hbm := H0.out.2.1.lt
          have hbmY : bm ≠ bY := by have := HZ.out.1; omega
          have hrgC := (HB.out.2.1.kept (grown_of_below (hbB.trans (hbD.mono hbB.size))) (by simp) (by simp)).kept hgC (fun e => hbmY (Option.some.inj e)) (fun e => by have := Option.some.inj e; have := HR.out.2.1; omega)
          have HFIN := Lib.hid (And.intro hst (And.intro hrgC (And.intro (((HB.out.1.trans (hbB.mono HB.out.1.size)).trans (hbD.mono (Nat.le_trans HB.out.1.size hbB.size))).grown hgC (Nat.le_trans HB.out.1.size (Nat.le_trans hbB.size hbD.size)) (fun j hj => by cases hj; exact HZ.out.1)) y1C)))
          clear y1B s1B hbD y1D s1D y2D hownC hgC hst hrgC hown hbB hbB0 hne1 hne2 hbm y1C s1C hbmY))
     all_goals go_wp2
     all_goals go_roundw
     all_goals first
       | exact ⟨_, cnt1, _, HFIN.out.2.1, by have := HL.out; omega, Lib.hid HFIN.out.1, Lib.hid (fun j hj => by
           rcases hj with hj | hj | hj
           · exact HF2.out j hj
           · exact .inl hj
           · have := HL.out; have := HB.out.1.size; exact .inr ⟨by omega, by omega⟩), Lib.hid HFIN.out.2.2.2, HFIN.out.2.2.1⟩
       | (rw [HFIN.out.2.1.left_eq, HRG.out.left_eq]; exact HL.out.2.1)
def IsC (w : World) (c : Nat) (st : Stat) : Prop := ∃ x t fx fq, SB17 w c x t st.app ∧ IsY w x st.f (st.n + st.n) fx ∧ IsT w t st.S (st.m + st.m) fq
theorem IsC.next {w w' : World} {c : Nat} {st : Stat} (h : IsC w c st) (hb : Below w.heap.size w w') : IsC w' c st := by
 obtain ⟨x, t, fx, fq, h1, h2, h3⟩ := h
 exact ⟨x, t, fx, fq, (hb.block c (Array.getElem?_eq_some_iff.1 h1).1).trans h1, h2.next hb, h3.next hb⟩
theorem stateClone_any (sb : Nat) (st : Stat) (ft : Nat → Prop) (w : World) (h : IsS w sb st ft) (hn : st.n ≤ 100000) (hm : st.m ≤ 100000) :
   Calls Tryz.prog 65 #[.pointer (some ⟨sb, 0, none⟩)] w fun e w' => ∃ c, e = .returned (.pointer (some ⟨c, 0, none⟩)) ∧ Hid (IsC w' c st) ∧ Below w.heap.size w w' := by
 obtain ⟨x, t, fx, fq, h⟩ := h
 have hsb := (Array.getElem?_eq_some_iff.1 h.box).1
 have hS : ∀ Z : World, Below w.heap.size w Z → Z.cell? ⟨sb, 0, none⟩ = some (.pointer (some ⟨x, 0, none⟩)) ∧ Z.cell? ⟨sb, 1, none⟩ = some (.pointer (some ⟨t, 0, none⟩)) ∧ Z.cell? ⟨sb, 2, none⟩ = some (.int .i64 st.app) := fun Z hZ => by
   have := (hZ.block sb hsb).trans h.box
   refine ⟨?_, ?_, ?_⟩ <;> (rw [Lib.cell_of_heap this]; rfl)
 have HS := Lib.hid hS
 have HX := Lib.hid (indexClone_any x st.f st.n fx w.drew (h.ix.next (Below.refl _ w).drew) hn)
 have HT := Lib.hid (fun (Z : World) (hZ : Below w.heap.size w Z) => dedupClone_any t st.S st.m fq Z (h.tb.next hZ) hm)
 have h0 := hS w.drew (Below.refl _ w).drew
 have HB0 := Lib.hid (show Below w.heap.size w w.drew from (Below.refl _ w).drew)
 clear h hS hsb
 go_enter Tryz.func65, Tryz.ntmps65
 go_upto_region 1 with fail
 go_region_held3 (fun Z => Z.cell? ⟨sb, 0, none⟩ = some (.pointer (some ⟨x, 0, none⟩)) ∧ Z.cell? ⟨sb, 1, none⟩ = some (.pointer (some ⟨t, 0, none⟩)) ∧ Z.cell? ⟨sb, 2, none⟩ = some (.int .i64 st.app))
   (first | exact h0 | exact h1 | exact h2 | exact h3)
   (first
     | (go_at_call 128
        refine HX.out.mono ?_
        rintro e w1 ⟨x2, fx2, rfl, hY, hb1⟩
        have HB1 := Lib.hid (show Below w.heap.size w w1 from HB0.out.trans (hb1.mono HB0.out.size))
        have h1 := HS.out w1 HB1.out
        clear hb1)
     | (go_at_call 129
        refine (HT.out w1 HB1.out).mono ?_
        rintro e w2 ⟨t2, ft2, rfl, hT2, hb2⟩
        have HB2 := Lib.hid (show Below w.heap.size w w2 from HB1.out.trans (hb2.mono HB1.out.size))
        have h2 := HS.out w2 HB2.out
        have HB3 := Lib.hid (show Below w.heap.size w (w2.alloc (.cells #[.pointer (some ⟨x2, 0, none⟩), .pointer (some ⟨t2, 0, none⟩), .int .i64 st.app] 138)) from HB2.out.alloc HB2.out.size _)
        have h3 := HS.out _ HB3.out
        have HC := Lib.hid (show IsC (w2.alloc (.cells #[.pointer (some ⟨x2, 0, none⟩), .pointer (some ⟨t2, 0, none⟩), .int .i64 st.app] 138)) w2.heap.size st from
          ⟨x2, t2, _, _, heap_alloc_new w2 _, (hY.out.next hb2).next ((Below.refl _ w2).alloc (Nat.le_refl _) _), hT2.out.next ((Below.refl _ w2).alloc (Nat.le_refl _) _)⟩)
        clear hb2))
 go_wp2
 go_ret
 exact ⟨_, rfl, HC, HB3.out⟩
theorem look_keptM {w : World} {bm n : Nat} {D : DataW Value} {g : List UInt8 → Value} (h : w.ownsMap Tryz.prog 9 heldR bm n D) (hg : ∀ k, D.atKey (.string k) (.held (.slice none 0 0)) = .held (g k)) (nm : ByteArray) (hs : nm.size ≤ maxLen) :
   (Instr.lookup 239 (.map (some bm)) (.string nm) false).run Tryz.prog w = .ok (g nm.data.toList) w := by
 obtain ⟨v, ps, hrun, hR⟩ := h.lookup str_keyed Tryz.underlying239 (zero_kept w) (zd := .held (.slice none 0 0)) (zp := []) rfl (WideMaps.keyOf_string_mk (s := nm) Tryz.underlying9 hs)
 rw [hg] at hR
 rw [hrun, heldR_of hR]
theorem IsY.look {w : World} {x N : Nat} {f : Streams} {ft : Nat → Prop} (h : IsY w x f N ft) (nm : List UInt8) (hs : nm.length ≤ maxLen) :
   ∃ bm a c, w.cell? ⟨x, 0, none⟩ = some (.map (some bm)) ∧ (Instr.lookup 239 (.map (some bm)) (.string ⟨nm.toArray⟩) false).run Tryz.prog w = .ok (.slice a (f nm).length c) w ∧
     Cells w (.slice a (f nm).length c) 3 (f nm).length (keptCells (f nm)) ∧ (f nm).length ≤ N := by
 obtain ⟨bm, D, g, ev, h1, h2, h3, h4, h5, h6, h7⟩ := h
 have hrun := look_keptM h2 h5 ⟨nm.toArray⟩ (by rw [Lib.size_eq]; exact hs)
 obtain ⟨a, c, hv⟩ := owns_slice (h6 nm).1
 have hc := cells_of_owns (h6 nm).1
 have hrun : (Instr.lookup 239 (.map (some bm)) (.string ⟨nm.toArray⟩) false).run Tryz.prog w = .ok (g nm) w := hrun
 rw [hv] at hrun hc
 exact ⟨bm, a, c, by rw [Lib.cell_of_heap h1]; rfl, hrun, hc, (h6 nm).2.1⟩
theorem verY_any (x : Nat) (f : Streams) (N : Nat) (ft : Nat → Prop) (nm : List UInt8) (w : World) (h : IsY w x f N ft) (hs : nm.length ≤ maxLen) :
   Calls Tryz.prog 70 #[.pointer (some ⟨x, 0, none⟩), .string ⟨nm.toArray⟩] w fun e w' => e = .returned (.int .i64 ((f nm).length : Nat)) ∧ w' = w := by
 obtain ⟨bm, a, c, d0, hrun, _, _⟩ := h.look nm hs
 go_enter Tryz.func70, Tryz.ntmps70
 go_wp2
 go_ret
 exact ⟨rfl, rfl⟩
theorem keptAt {w : World} {v : Value} {l : List (Int × Evt.Event)} (h : Cells w v 3 l.length (keptCells l)) (i : Nat) (hi : i < l.length) :
   ∃ b o c, v = .slice (some ⟨b, o, none⟩) l.length c ∧ w.cell? ⟨b, o + i * 3, none⟩ = some (.int .i64 l[i].1) ∧ w.cell? ⟨b, o + i * 3 + 1, none⟩ = some (.string ⟨l[i].2.kind.toArray⟩) ∧ w.cell? ⟨b, o + i * 3 + 2, none⟩ = some (.string ⟨l[i].2.data.toArray⟩) := by
 obtain ⟨b, o, c, h1, h2⟩ := cellsFlat (fun p : Int × Evt.Event => [Value.int .i64 p.1, .string ⟨p.2.kind.toArray⟩, .string ⟨p.2.data.toArray⟩]) 3 (fun _ => rfl) h i hi
 exact ⟨b, o, c, h1, h2 0 _ (by omega) rfl, h2 1 _ (by omega) rfl, h2 2 _ (by omega) rfl⟩
theorem posY_any (x : Nat) (f : Streams) (N : Nat) (ft : Nat → Prop) (nm : List UInt8) (i : Nat) (w : World) (h : IsY w x f N ft) (hs : nm.length ≤ maxLen) (hN : N ≤ 1000000) (hi : i < (f nm).length) :
   Calls Tryz.prog 71 #[.pointer (some ⟨x, 0, none⟩), .string ⟨nm.toArray⟩, .int .i64 ((i : Int) + 1)] w fun e w' => e = .returned (.int .i64 (f nm)[i].1) ∧ w' = w := by
 obtain ⟨bm, a, c, d0, hrun, hc, hlen⟩ := h.look nm hs
 obtain ⟨b, o, c', hv, k0, _, _⟩ := keptAt hc i hi
 obtain ⟨L, hL⟩ : ∃ L, (f nm).length = L := ⟨_, rfl⟩
 obtain ⟨p, hp⟩ : ∃ p, (f nm)[i].1 = p := ⟨_, rfl⟩
 rw [hL] at hrun hv hlen
 rw [hp] at k0 ⊢
 cases hv
 have hw : wrap64 ((i : Int) + 1 - 1) = (i : Int) := (IntWalk.wrap64_in _ (by omega)).trans (by omega)
 have h1 : ¬ ((i : Int) + 1 < 1) := by omega
 have h2 : ¬ ((L : Int) < (i : Int) + 1) := by omega
 have h3 : ¬ ((i : Int) + 1 > (L : Int)) := by omega
 have h4 : (0 : Int) ≤ (i : Int) := by omega
 have h5 : (i : Int) < (L : Int) := by omega
 clear hc
 go_enter Tryz.func71, Tryz.ntmps71
 go_wp2
 go_ret
 exact ⟨rfl, rfl⟩
set_option maxHeartbeats 2000000 in
theorem rangeY_any (x : Nat) (f : Streams) (N : Nat) (ft : Nat → Prop) (nm : List UInt8) (w : World) (h : IsY w x f N ft) (hs : nm.length ≤ maxLen) (hN : N ≤ 900000) :
   Calls Tryz.prog 69 #[.pointer (some ⟨x, 0, none⟩), .string ⟨nm.toArray⟩, .int .i64 1, .int .i64 ((f nm).length : Nat)] w fun e w' => ∃ ea ec, e = .returned (.slice ea (f nm).length ec) ∧ Hid (w'.ownsRow w.heap.size 149 2 (.slice ea (f nm).length ec) (f nm).length (evCells ((f nm).map (·.2)))) ∧ Below w.heap.size w w' := by
 obtain ⟨bm, a, c, d0, hrun, hc, hlen⟩ := h.look nm hs
 obtain ⟨l, hl⟩ : ∃ l, f nm = l := ⟨_, rfl⟩
 rw [hl] at hrun hc hlen ⊢
 have HC := Lib.hid hc
 have hw1 : wrap64 ((l.length : Int) + 1) = (l.length : Int) + 1 := IntWalk.wrap64_in _ (by omega)
 have hmn : min (1 : Int) ((l.length : Int) + 1) = 1 := by omega
 clear hc h
 go_enter Tryz.func69, Tryz.ntmps69
 go_wp2
 clear hrun d0
 go_loopw [10, 30] (fun gv iv wr => ∃ (i : Nat) (va : Option Addr) (vc : Nat), iv = .int .i64 i ∧ i ≤ l.length ∧ gv = .slice va i vc ∧ Hid (wr.ownsRow w.heap.size 149 2 (.slice va i vc) i (evCells ((l.map (·.2)).take i))) ∧ Below w.heap.size w wr) (fun _ iv _ => l.length - (Go.RowKit.intOf iv).toNat)
 case atStart => exact ⟨0, none, 0, rfl, by omega, rfl, Lib.hid (World.ownsRow_nil _ _ _ _), Below.refl _ _⟩
 case round =>
   obtain ⟨i, va, vc, rfl, hi, rfl, HO, hb⟩ := hrel
   obtain ⟨w4, rfl⟩ : ∃ w4, w4 = wr := ⟨_, rfl⟩
   by_cases hp : i < l.length
   · obtain ⟨b, o, c', hv, k0, k1, k2⟩ := keptAt (HC.out.next hb) i hp
     cases hv
     obtain ⟨y, hy⟩ : ∃ y, l[i] = y := ⟨_, rfl⟩
     rw [hy] at k0 k1 k2
     have hge : ¬ ((l.length : Int) ≤ (i : Int)) := by omega
     have HTK := Lib.hid (show evCells ((l.map (·.2)).take (i + 1)) = evCells ((l.map (·.2)).take i) ++ [.string ⟨y.2.kind.toArray⟩, .string ⟨y.2.data.toArray⟩] by
       rw [List.take_succ_eq_append_getElem (by rw [List.length_map]; exact hp), List.getElem_map, hy]
       simp [evCells])
     obtain ⟨K, hK⟩ : ∃ K : ByteArray, ⟨y.2.kind.toArray⟩ = K := ⟨_, rfl⟩
     obtain ⟨Dd, hD⟩ : ∃ Dd : ByteArray, ⟨y.2.data.toArray⟩ = Dd := ⟨_, rfl⟩
     rw [hK] at k1 HTK
     rw [hD] at k2 HTK
     have hbA : Below w4.heap.size w4 ((w4.alloc (.cells #[.int .i64 y.1, .string K, .string Dd] 244)).alloc (.cells #[.string K, .string Dd] 149)) := ((Below.refl _ w4).alloc (Nat.le_refl _) _).alloc (by simp) _
     have HB := Lib.hid (hb.trans (hbA.mono hb.size))
     have HO2 := Lib.hid (owns_next HO.out hbA)
     have hx := cells_newN (w4.alloc (.cells #[.int .i64 y.1, .string K, .string Dd] 244)) [.string K, .string Dd] 149
     rw [World.size_alloc] at hx
     clear hb hy hbA hK hD
     go_wp2_with (at_builtin; refine wpList_append_row rfl _ _ rfl evT w.heap.size (.slice va i vc) i _ rfl HO2.out _ 1 [.string K, .string Dd] rfl hx (by simp [Value.oneCell']) ?c3 ?c2 ?_)
     case c3 => omega
     case c2 => have := HB.out.size; simp only [World.size_alloc] at this ⊢; omega
     intro v' w5 hown hgr _
     obtain ⟨va5, vc5, rfl⟩ := owns_slice hown
     have HO5 := Lib.hid (show w5.ownsRow w.heap.size 149 2 (.slice va5 (i + 1) vc5) (i + 1) (evCells ((l.map (·.2)).take (i + 1))) by rw [HTK.out]; exact hown)
     have HB5 := Lib.hid (HB.out.grown hgr HB.out.size (fun k hk => (HO2.out.lt k hk).1))
     clear hown hgr hx k0 k1 k2
     go_wp2
     exact ⟨⟨i + 1, va5, vc5, by go_num, by omega, rfl, HO5, HB5.out⟩, by simp [Go.RowKit.intOf]; omega⟩
   · obtain rfl : i = l.length := by omega
     clear HC
     go_wp2
     go_ret
     refine ⟨_, _, rfl, Lib.hid ?_, hb⟩
     have := HO.out
     rw [List.take_of_length_le (by rw [List.length_map]; exact Nat.le_refl _)] at this
     exact this
theorem namesY_any (x : Nat) (f : Streams) (N : Nat) (ft : Nat → Prop) (w : World) (h : IsY w x f N ft) (hN : N ≤ 1000000) :
   Calls Tryz.prog 68 #[.pointer (some ⟨x, 0, none⟩)] w fun e w' => ∃ sa sc ns, e = .returned (.slice sa ns.length sc) ∧ Hid (NamesOf f ns) ∧ Hid (∀ k ∈ ns, k.length ≤ maxLen) ∧ ns.length ≤ N ∧ Hid (w'.ownsRow w.heap.size 9 1 (.slice sa ns.length sc) ns.length (strCells ns)) ∧ Below w.heap.size w w' := by
 obtain ⟨bm, D, g, ev, hM⟩ := h
 have d0 : w.cell? ⟨x, 0, none⟩ = some (.map (some bm)) := by rw [Lib.cell_of_heap hM.1]; rfl
 have hsz := hM.2.1.size_le
 have HK := Lib.hid (callsIn_wide.1 (Tryz.maps_Keys_131 (some bm) w))
 have HS := Lib.hid (callsIn_wide.1 (Tryz.slices_Sorted_keys_130_131 bm N D heldR w hM.2.1 (by unfold maxLen; omega) (by omega)))
 have H := Lib.hid hM
 clear hM hsz
 go_enter Tryz.func68, Tryz.ntmps68
 go_wp2_with fail
 refine HK.out.mono ?_
 rintro e w1 ⟨rfl, rfl⟩
 go_wp2_with fail
 refine HS.out.mono ?_
 rintro e w2 ⟨v, ss, rfl, hp, hrow, _, hb⟩
 obtain ⟨ns, hns⟩ : ∃ ns, ss.mergeSort (fun x y => decide (x ≤ y)) = ns := ⟨_, rfl⟩
 have hq : ns.Perm (strKeys D) := by rw [← hns]; exact (List.mergeSort_perm ss _).trans hp
 have hl : ss.length = ns.length := by rw [← hns, List.length_mergeSort]
 have HNm := Lib.hid (show NamesOf f ns from by rw [← hns]; exact NamesOf.make H.out.2.1 hp fun k => H.out.has k)
 have HLe := Lib.hid (show ∀ k ∈ ns, k.length ≤ maxLen from fun k hk => strKeys_le H.out.2.1 Tryz.underlying9 k (hq.mem_iff.1 hk))
 have HN := Lib.hid (show ns.length ≤ N by rw [hq.length_eq]; exact (strKeys_facts H.out.2.1).2.2)
 rw [hns, hl] at hrow
 have HB := Lib.hid (((Below.refl _ w).alloc (Nat.le_refl _) (.cells #[.map (some bm)] 239)).trans (hb.mono (by simp)))
 have HC := Lib.hid (show w2.ownsRow w.heap.size 9 1 v ns.length (strCells ns) from by
   have := ownsRow_low hrow (show w.heap.size ≤ _ by simp)
   exact this)
 obtain ⟨sa, sc, rfl⟩ := owns_slice hrow
 clear hq hl hp hrow HK HS hb hns
 go_wp2
 go_ret
 exact ⟨sa, sc, ns, rfl, HNm, HLe, HN.out, HC, HB.out⟩
theorem sess_has {S : Sess} {D : DataW Value} {gs : Int → Nat} (h5 : ∀ k, S k = none → ∀ z, D.atKey (.int .i64 k) z = z) (h6 : ∀ k hi O, S k = some (hi, O) → D.atKey (.int .i64 k) (.held (.pointer none)) = .held (.pointer (some ⟨gs k, 0, none⟩))) (k : Int) : Maps.has D (.int .i64 k) = true ↔ S k ≠ none := by
 constructor
 · intro hh e
   rw [Maps.has_false_of_atKey (h5 k e)] at hh
   cases hh
 · intro hf
   cases e : Maps.has D (.int .i64 k) with
   | true => rfl
   | false =>
     cases hS : S k with
     | none => exact (hf hS).elim
     | some x =>
       have a1 := h6 k x.1 x.2 hS
       rw [Maps.atKey_of_not_has e] at a1
       simp at a1
theorem outs_has {w : World} {O : Int → Option Outc} {D : DataW Value} {ft : Nat → Prop} (h5 : ∀ q, (O q = none → ∀ z, D.atKey (.int .i64 q) z = z) ∧ (∀ o, O q = some o → ∃ b, D.atKey (.int .i64 q) (.held (.pointer none)) = .held (.pointer (some ⟨b, 0, none⟩)) ∧ OutAt w b o ∧ ft b)) (k : Int) : Maps.has D (.int .i64 k) = true ↔ O k ≠ none := by
 constructor
 · intro hh e
   rw [Maps.has_false_of_atKey ((h5 k).1 e)] at hh
   cases hh
 · intro hf
   cases e : Maps.has D (.int .i64 k) with
   | true => rfl
   | false =>
     cases hS : O k with
     | none => exact (hf hS).elim
     | some x =>
       obtain ⟨b, a1, _⟩ := (h5 k).2 x hS
       rw [Maps.atKey_of_not_has e] at a1
       simp at a1
theorem IsT.seqs {w : World} {t n : Nat} {S : Sess} {ft : Nat → Prop} (h : IsT w t S n ft) : ∃ qf : Int → List Int, ∀ k hi O, S k = some (hi, O) → KeysOf (fun q => O q ≠ none) (qf k) := by
 obtain ⟨bm, D, gs, go, h1, h2, h3, h4, h5, h6, h7⟩ := h
 have key : ∀ k : Int, ∃ qs : List Int, ∀ hi O, S k = some (hi, O) → KeysOf (fun q => O q ≠ none) qs := fun k => by
   cases hS : S k with
   | none => exact ⟨[], fun hi O e => by cases e⟩
   | some x =>
     obtain ⟨hi, O⟩ := x
     obtain ⟨_, ⟨D2, s1, s2, s3, s4, s5⟩, _⟩ := h6 k hi O hS
     refine ⟨(intKeys D2).mergeSort (fun x y => decide (x ≤ y)), fun hi' O' e => ?_⟩
     cases e
     exact KeysOf.make s2 (List.Perm.refl _) fun q => outs_has s5 q
 exact Classical.skolem.1 key
theorem sessions_any (t : Nat) (S : Sess) (n : Nat) (ft : Nat → Prop) (w : World) (h : IsT w t S n ft) (hN : n ≤ 1000000) :
   Calls Tryz.prog 72 #[.pointer (some ⟨t, 0, none⟩)] w fun e w' => ∃ sa sc ks, e = .returned (.slice sa ks.length sc) ∧ Hid (KeysOf (fun k => S k ≠ none) ks) ∧ Hid (∀ k ∈ ks, (Lit.int .i64 k).wf = true) ∧ ks.length ≤ n ∧ Hid (w'.ownsRow w.heap.size 3 1 (.slice sa ks.length sc) ks.length (intCells ks)) ∧ Below w.heap.size w w' := by
 obtain ⟨bm, D, gs, go, h1, h2, h3, h4, h5, h6, h7⟩ := h
 have d0 : w.cell? ⟨t, 0, none⟩ = some (.map (some bm)) := by rw [Lib.cell_of_heap h1]; rfl
 have hsz := h2.size_le
 have HK := Lib.hid (callsIn_wide.1 (Tryz.maps_KeysI_133 (some bm) w))
 have HS := Lib.hid (callsIn_wide.1 (Tryz.slices_SortedI_keys_132_133 bm n D heldR w h2 (by unfold maxLen; omega) (by omega)))
 have H := Lib.hid (And.intro h2 (sess_has h5 fun k hi O e => (h6 k hi O e).1))
 clear h1 h2 h3 h4 h5 h6 h7 hsz
 go_enter Tryz.func72, Tryz.ntmps72
 go_wp2_with fail
 refine HK.out.mono ?_
 rintro e w1 ⟨rfl, rfl⟩
 go_wp2_with fail
 refine HS.out.mono ?_
 rintro e w2 ⟨v, ss, rfl, hp, hrow, _, hb⟩
 obtain ⟨ns, hns⟩ : ∃ ns, ss.mergeSort (fun x y => decide (x ≤ y)) = ns := ⟨_, rfl⟩
 have hq : ns.Perm (intKeys D) := by rw [← hns]; exact (List.mergeSort_perm ss _).trans hp
 have hl : ss.length = ns.length := by rw [← hns, List.length_mergeSort]
 have HNm := Lib.hid (show KeysOf (fun k => S k ≠ none) ns from by rw [← hns]; exact KeysOf.make H.out.1 hp fun k => H.out.2 k)
 have HLe := Lib.hid (show ∀ k ∈ ns, (Lit.int .i64 k).wf = true from fun k hk => intKeys_wf H.out.1 Tryz.underlying3 k (hq.mem_iff.1 hk))
 have HN := Lib.hid (show ns.length ≤ n by rw [hq.length_eq]; exact (intKeys_facts H.out.1).2.2)
 rw [hns, hl] at hrow
 have HB := Lib.hid (((Below.refl _ w).alloc (Nat.le_refl _) (.cells #[.map (some bm)] 249)).trans (hb.mono (by simp)))
 have HC := Lib.hid (show w2.ownsRow w.heap.size 3 1 v ns.length (intCells ns) from by
   have := ownsRow_low hrow (show w.heap.size ≤ _ by simp)
   exact this)
 obtain ⟨sa, sc, rfl⟩ := owns_slice hrow
 clear hq hl hp hrow HK HS hb hns
 go_wp2
 go_ret
 exact ⟨sa, sc, ns, rfl, HNm, HLe, HN.out, HC, HB.out⟩
theorem seqs_any (t : Nat) (S : Sess) (n : Nat) (ft : Nat → Prop) (k hi : Int) (O : Int → Option Outc) (w : World) (h : IsT w t S n ft) (hS : S k = some (hi, O)) (hk : (Lit.int .i64 k).wf = true) (hN : n ≤ 1000000) :
   Calls Tryz.prog 73 #[.pointer (some ⟨t, 0, none⟩), .int .i64 k] w fun e w' => ∃ sa sc ks, e = .returned (.slice sa ks.length sc) ∧ Hid (KeysOf (fun q => O q ≠ none) ks) ∧ Hid (∀ k ∈ ks, (Lit.int .i64 k).wf = true) ∧ ks.length ≤ n ∧ Hid (w'.ownsRow w.heap.size 3 1 (.slice sa ks.length sc) ks.length (intCells ks)) ∧ Below w.heap.size w w' := by
 obtain ⟨bm, D0, gs, go, h1, h2, h3, h4, h5, h6, h7⟩ := h
 obtain ⟨e1, ⟨D, s1, s2, s3, s4, s5⟩, e3⟩ := h6 k hi O hS
 have d0 : w.cell? ⟨t, 0, none⟩ = some (.map (some bm)) := by rw [Lib.cell_of_heap h1]; rfl
 have hrun := look_sess h2 e1 hk
 obtain ⟨sb, hsb⟩ : ∃ sb, gs k = sb := ⟨_, rfl⟩
 obtain ⟨bo, hbo⟩ : ∃ bo, go k = bo := ⟨_, rfl⟩
 rw [hsb] at s1 hrun
 rw [hbo] at s1 s2
 have d1 : w.cell? ⟨sb, 1, none⟩ = some (.map (some bo)) := by rw [Lib.cell_of_heap s1]; rfl
 have hsz := s2.size_le
 have HK := Lib.hid (callsIn_wide.1 (Tryz.maps_KeysI_134 (some bo) w))
 have HS := Lib.hid (callsIn_wide.1 (Tryz.slices_SortedI_keys_132_134 bo n D heldR w s2 (by unfold maxLen; omega) (by omega)))
 have H := Lib.hid (And.intro s2 (outs_has s5))
 clear h1 h2 h3 h4 h5 h6 h7 hsz s1 s2 s3 s4 s5 e1 e3 hsb hbo
 go_enter Tryz.func73, Tryz.ntmps73
 go_wp2_with fail
 refine HK.out.mono ?_
 rintro e w1 ⟨rfl, rfl⟩
 go_wp2_with fail
 refine HS.out.mono ?_
 rintro e w2 ⟨v, ss, rfl, hp, hrow, _, hb⟩
 obtain ⟨ns, hns⟩ : ∃ ns, ss.mergeSort (fun x y => decide (x ≤ y)) = ns := ⟨_, rfl⟩
 have hq : ns.Perm (intKeys D) := by rw [← hns]; exact (List.mergeSort_perm ss _).trans hp
 have hl : ss.length = ns.length := by rw [← hns, List.length_mergeSort]
 have HNm := Lib.hid (show KeysOf (fun k => O k ≠ none) ns from by rw [← hns]; exact KeysOf.make H.out.1 hp fun k => H.out.2 k)
 have HLe := Lib.hid (show ∀ k ∈ ns, (Lit.int .i64 k).wf = true from fun k hk => intKeys_wf H.out.1 Tryz.underlying3 k (hq.mem_iff.1 hk))
 have HN := Lib.hid (show ns.length ≤ n by rw [hq.length_eq]; exact (intKeys_facts H.out.1).2.2)
 rw [hns, hl] at hrow
 have HB := Lib.hid (((Below.refl _ w).alloc (Nat.le_refl _) (.cells #[.map (some bo)] 254)).trans (hb.mono (by simp)))
 have HC := Lib.hid (show w2.ownsRow w.heap.size 3 1 v ns.length (intCells ns) from by
   have := ownsRow_low hrow (show w.heap.size ≤ _ by simp)
   exact this)
 obtain ⟨sa, sc, rfl⟩ := owns_slice hrow
 clear hq hl hp hrow HK HS hb hns hrun d0 d1
 go_wp2
 go_ret
 exact ⟨sa, sc, ns, rfl, HNm, HLe, HN.out, HC, HB.out⟩
end Go.Proofs.YtgddgipjpdjoaaaGreatDoor
