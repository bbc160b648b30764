/-
  The document's answer to layer 9: the walk of Load. UNDER WAY.
-/
import Derived.Test.YtiaddfghojdgkaaGreatDoorRCre
import Derived.Test.YtiaddfghojdgkaaGreatDoorRLoP
import Derived.Test.YtiaddfghojdgkaaGreatDoorAt
import Derived.Deep.CutBlock
namespace Go.Proofs.YtiaddfghojdgkaaGreatDoor
open Go.RowKit Go.Shelf

def SR (b : Nat) (first : Int) (v : Value) (t : Bool) (w : World) : Prop := w.heap[b]? = some (.cells #[.int .i64 first, v, .bool t] 42 (0, 0))
theorem SR.kept {b : Nat} {f : Int} {v : Value} {t : Bool} {w w' : World} {r : Option Nat} (h : SR b f v t w) (hg : w.grownBy w' r) (hr : some b ≠ r) : SR b f v t w' :=
  (hg.block b (Array.getElem?_eq_some_iff.1 h).1 hr).trans h
theorem SR.next {b : Nat} {f : Int} {v : Value} {t : Bool} {w w' : World} (h : SR b f v t w) (hb : Below w.heap.size w w') : SR b f v t w' := h.kept (grown_of_below hb) (by simp)
theorem SR.put3 {b : Nat} {f0 : Int} {v0 : Value} {t0 : Bool} {w : World} (h : SR b f0 v0 t0 w) (f : Int) (v : Value) (t : Bool) :
    SR b f v t (((w.setCell ⟨b, 0, none⟩ (.int .i64 f)).setCell ⟨b, 1, none⟩ v).setCell ⟨b, 2, none⟩ (.bool t)) ∧ w.grownBy (((w.setCell ⟨b, 0, none⟩ (.int .i64 f)).setCell ⟨b, 1, none⟩ v).setCell ⟨b, 2, none⟩ (.bool t)) (some b) :=
  ⟨setCell_at (i := 2) (setCell_at (i := 1) (setCell_at (i := 0) h _) _) _, grown_trans (grown_trans (grown_set _ _ _ _) (grown_set _ _ _ _)) (grown_set _ _ _ _)⟩
theorem SR.cells {b : Nat} {f : Int} {v : Value} {t : Bool} {w : World} (h : SR b f v t w) : w.cell? ⟨b, 0, none⟩ = some (.int .i64 f) ∧ w.cell? ⟨b, 1, none⟩ = some v ∧ w.cell? ⟨b, 2, none⟩ = some (.bool t) :=
  ⟨by rw [Lib.cell_of_heap h]; rfl, by rw [Lib.cell_of_heap h]; rfl, by rw [Lib.cell_of_heap h]; rfl⟩
theorem SR.frozen {b : Nat} {f : Int} {v : Value} {t : Bool} {w : World} (h : SR b f v t w) : ∀ i, w.frozen? ⟨b, i, none⟩ = false := fun i => Lib.frozen_of_heap h i
theorem rseg_size : (Tryz.prog.info? 42).map (·.size) = some 3 := by kernel_rfl
theorem rread_room {w : World} {d : Nat} {room : Int} {fs : List Dk.File} {ft : Nat → Prop} (h : IsR w d room fs ft) (hr : room ≤ 1048576) (nm : List UInt8) : (Dk.read nm fs).1.size ≤ 1048576 := by
  have hf := h.fit
  unfold Dk.read
  cases e : Dk.look fs nm with
  | none => exact Nat.zero_le _
  | some x => have h1 := Dk.look_le e; have h2 := hf.2.2.1.2.2; simp only; omega
theorem la1 {i n : Nat} (h1 : 1 ≤ i) (h : i < n + 1) : i - 1 < n := by omega
theorem la2 {i n : Nat} (h1 : 1 ≤ i) (h : ¬ i < n + 1) : n ≤ i - 1 := by omega
theorem la3 {i n : Nat} (h : i < n + 1) : (i : Int) < (n : Int) + 1 := by omega
theorem la4 {i n : Nat} (h : ¬ i < n + 1) : ¬ (i : Int) < (n : Int) + 1 := by omega
theorem la5 {i n : Nat} (h : i ≤ n) (hn : n ≤ 1000000) : wrap64 ((i : Int) + 1) = (i : Int) + 1 := IntWalk.wrap64_in _ (by omega)
theorem la6 {i n k : Nat} (h : k < i) (h2 : i ≤ n + 1) (hn : n ≤ 200000) : k + 1 ≤ 1000000 := by omega
theorem la7 {k : Nat} (h : k + 1 ≤ 1000000) : 0 + k ≤ 1000000 := by omega
theorem la8 {k : Nat} (h : k + 1 ≤ 1000000) : 0 + k + 1 ≤ 1000000 := by omega
/-- What the round's drawn region reads: the segment's row, the entry. -/
def KS (G : Nat) (v : Value) (X0 : Nat) (p ep : Int) (S : ByteArray) (ex se sq : Int) (ev : Value) (Z : World) : Prop :=
  Z.cell? ⟨G, 1, none⟩ = some v ∧ Z.cell? ⟨X0, 0, none⟩ = some (.int .i64 p) ∧ Z.cell? ⟨X0, 1, none⟩ = some (.int .i64 ep) ∧ Z.cell? ⟨X0, 2, none⟩ = some (.string S) ∧ Z.cell? ⟨X0, 3, none⟩ = some (.int .i64 ex) ∧ Z.cell? ⟨X0, 4, none⟩ = some (.int .i64 se) ∧ Z.cell? ⟨X0, 5, none⟩ = some (.int .i64 sq) ∧ Z.cell? ⟨X0, 6, none⟩ = some ev
def KK (G : Nat) (f : Int) (v : Value) (X0 : Nat) (p ep : Int) (S : ByteArray) (ex se sq : Int) (ev : Value) (Z : World) : Prop := SR G f v false Z ∧ EB X0 p ep S ex se sq ev Z
theorem KK.next {G : Nat} {f : Int} {v : Value} {X0 : Nat} {p ep : Int} {S : ByteArray} {ex se sq : Int} {ev : Value} {Z Z' : World} {B : Nat} (h : KK G f v X0 p ep S ex se sq ev Z) (hb : Below B Z Z') (hB : B = Z.heap.size := by rfl) : KK G f v X0 p ep S ex se sq ev Z' := by
  subst hB; exact ⟨h.1.next hb, h.2.next hb⟩
theorem KK.s {G : Nat} {f : Int} {v : Value} {X0 : Nat} {p ep : Int} {S : ByteArray} {ex se sq : Int} {ev : Value} {Z : World} (h : KK G f v X0 p ep S ex se sq ev Z) : KS G v X0 p ep S ex se sq ev Z := ⟨h.1.cells.2.1, h.2.cells⟩
theorem cells_new7 (w : World) (e : TypeId) (u0 u1 u2 u3 u4 u5 u6 : Value) : Cells (w.alloc (.cells #[u0, u1, u2, u3, u4, u5, u6] e)) (.slice (some ⟨w.heap.size, 0, none⟩) 1 1) 7 1 [u0, u1, u2, u3, u4, u5, u6] :=
  ⟨rfl, .inr ⟨w.heap.size, 0, 1, rfl, fun j u hj => by rw [Nat.zero_add, Lib.cell_of_heap (heap_alloc_new w _)]; simpa using hj⟩⟩
theorem one7 {p ep ex se sq : Int} {S : ByteArray} {ea : Option Addr} {el ec : Nat} {u : Value} (h : u ∈ ([.int .i64 p, .int .i64 ep, .string S, .int .i64 ex, .int .i64 se, .int .i64 sq, .slice ea el ec] : List Value)) : u.oneCell' = true := by
  simp only [List.mem_cons, List.not_mem_nil, or_false] at h
  rcases h with h | h | h | h | h | h | h <;> (subst h; rfl)
theorem enCells_slices {B : Nat} {X Y : World} {ys : List EnX} (h : ∀ p ∈ ys, Got B p X Y) : ∀ u ∈ enCells ys, u.oneCell' = true := enCells_one ys fun p hp => by
  obtain ⟨a, b, c, e⟩ := slice_of_owns (h p hp).1
  exact ⟨a, b, c, e⟩
theorem cells_eb {W : World} {b : Nat} {p ep : Int} {S : ByteArray} {ex se sq : Int} {v : Value} (h : EB b p ep S ex se sq v W) : Cells W (.slice (some ⟨b, 0, none⟩) 1 1) 7 1 [.int .i64 p, .int .i64 ep, .string S, .int .i64 ex, .int .i64 se, .int .i64 sq, v] :=
  ⟨rfl, .inr ⟨b, 0, 1, rfl, fun j u hj => by rw [Nat.zero_add, Lib.cell_of_heap h]; simpa using hj⟩⟩
theorem some_ne1 (n : Nat) : some (n + 1) ≠ some n := by simp
theorem some_ne2 (n : Nat) : some n ≠ some (n + 1) := by simp
theorem owns_low {W : World} {B B' e sz n : Nat} {v : Value} {xs : List Value} (h : W.ownsRow B e sz v n xs) (hB : B' ≤ B) : W.ownsRow B' e sz v n xs := ownsRow_low h hB
theorem la9 {f : Nat} (h1 : ¬ f < 1) (h2 : ¬ 274877906944 < f) : wrap64 ((f : Int) - 1) = (f : Int) - 1 := IntWalk.wrap64_in _ (by omega)
theorem la10 {f : Nat} (h1 : ¬ f < 1) (h2 : ¬ 274877906944 < f) : -1000000000000 ≤ (f : Int) - 1 ∧ (f : Int) - 1 ≤ 1000000000000 := by omega
theorem owns_put {W : World} {B e sz n G k : Nat} {v u : Value} {xs : List Value} (h : W.ownsRow B e sz v n xs) (hG : G < B) : (W.setCell ⟨G, k, none⟩ u).ownsRow B e sz v n xs := own_yields h (grown_set W G k u) (.inl hG)
theorem rload_stop {G fs1 : Nat} {v : Value} {ys : List EnX} {w3 wr W5 wc w6 : World} {Lr : List (List UInt8)} (s6 : SR G fs1 v false w6) (hf : wr.ownsRow (G + 1) 61 7 v ys.length (enCells ys) ∧ (∀ p ∈ ys, Got (G + 1) p wr wr) ∧ Below G w3 wr) (h5 : Below wr.heap.size wr W5) (hc : Below W5.heap.size W5 wc) (h6 : Below wc.heap.size wc w6) (hs : G < wr.heap.size)
    (HN : Hid (plainE ys = Seg.entF ((fs1 : Int) - 1) 0 Lr)) : ∃ (ys : List EnX) (v : Value), SR G fs1 v false w6 ∧ w6.ownsRow (G + 1) 61 7 v ys.length (enCells ys) ∧ (∀ p ∈ ys, Got (G + 1) p w6 w6) ∧ Below G w3 w6 ∧ G < w6.heap.size ∧ Hid (plainE ys = Seg.entF ((fs1 : Int) - 1) 0 Lr) := by
  have hb := h5.trans ((hc.mono h5.size).trans (h6.mono (Nat.le_trans h5.size hc.size)))
  exact ⟨ys, v, s6, owns_next hf.1 hb, fun p hp => ⟨owns_next (hf.2.1 p hp).1 hb, (hf.2.1 p hp).2⟩, hf.2.2.trans (hb.mono (Nat.le_of_lt hs)), Nat.lt_of_lt_of_le hs hb.size, HN⟩
theorem rload_next {G fs1 i : Nat} {v v2 : Value} {ys : List EnX} {x : EnX} {w3 wr W5 wc w6 : World} {Lr : List (List UInt8)} (s6 : SR G fs1 v false w6) (hx : wc.ownsRow W5.heap.size 61 7 v2 (ys ++ [x]).length (enCells (ys ++ [x])) ∧ (∀ y ∈ ys ++ [x], Got (G + 1) y wc wc) ∧ Below wr.heap.size wr wc) (h6 : Below wc.heap.size wc w6) (hb0 : Below G w3 wr) (h5 : Below wr.heap.size wr W5) (hc : Below W5.heap.size W5 wc) (hs : G < wr.heap.size)
    (hi1 : 1 ≤ i) (hgo : i < Lr.length + 1) (hyi : ys.length < i) (HG : Hid (Seg.LoadInv ((fs1 : Int) - 1) 0 Lr (i + 1 - 1) (plainE (ys ++ [x])))) :
    ∃ (j : Nat) (zs : List EnX) (u : Value), Value.int .i64 ((i : Int) + 1) = .int .i64 (j : Int) ∧ 1 ≤ j ∧ j ≤ Lr.length + 1 ∧ zs.length < j ∧ SR G fs1 u false (w6.setCell ⟨G, 1, none⟩ v2) ∧ (w6.setCell ⟨G, 1, none⟩ v2).ownsRow (G + 1) 61 7 u zs.length (enCells zs) ∧ (∀ p ∈ zs, Got (G + 1) p (w6.setCell ⟨G, 1, none⟩ v2) (w6.setCell ⟨G, 1, none⟩ v2)) ∧ Below G w3 (w6.setCell ⟨G, 1, none⟩ v2) ∧ G < (w6.setCell ⟨G, 1, none⟩ v2).heap.size ∧ Hid (Seg.LoadInv ((fs1 : Int) - 1) 0 Lr (j - 1) (plainE zs)) := by
  have hb := hx.2.2.trans (h6.mono (Nat.le_trans h5.size hc.size))
  have hg := grown_set w6 G 1 v2
  have hG6 : G < w6.heap.size := Nat.lt_of_lt_of_le hs hb.size
  refine ⟨i + 1, ys ++ [x], v2, by simp, by omega, by omega, by rw [List.length_append]; simp; omega, setCell_at (i := 1) s6 v2, ?_, fun p hp => ⟨owns_put (owns_next (hx.2.1 p hp).1 h6) (by omega), (hx.2.1 p hp).2⟩, (hb0.trans (hb.mono (Nat.le_of_lt hs))).trans (below_of_grown hg (Nat.le_refl _) (Nat.le_of_lt hG6)), Nat.lt_of_lt_of_le hG6 hg.size, HG⟩
  exact owns_put (owns_low (owns_next hx.1 h6) (Nat.le_trans hs h5.size)) (by omega)
theorem rload_new {G R : Nat} {W W6 W7 W8 : World} {ys : List EnX} {v : Value} (h1 : W.ownsRow (G + 1) 61 7 v ys.length (enCells ys)) (h2 : ∀ p ∈ ys, Got (G + 1) p W W) (b6 : Below W.heap.size W W6) (hR : R < G)
    (g7 : W6.grownBy W7 (some G)) (g8 : W7.grownBy W8 (some R)) : NewEnts R W8 v ys := by
  have all : ∀ {e sz n : Nat} {v : Value} {xs : List Value}, W.ownsRow (G + 1) e sz v n xs → W8.ownsRow R e sz v n xs := fun h =>
    ownsRow_low (own_yields (own_yields (owns_next h b6) g7 (.inl (by omega))) g8 (.inl (by omega))) (by omega)
  exact ⟨all h1, fun p hp => ⟨all (h2 p hp).1, (h2 p hp).2⟩⟩
theorem rload_below {w w3 W W6 W7 W8 : World} (hb3 : Below w.heap.size w w3) (hlt : w.heap.size < w3.heap.size) (hB : Below w3.heap.size w3 W) (hs : w3.heap.size < W.heap.size) (b6 : Below W.heap.size W W6) (g7 : W6.grownBy W7 (some w3.heap.size)) (g8 : W7.grownBy W8 (some w.heap.size)) : Below w.heap.size w W8 := by
  have s3 := hb3.size
  have s6 := b6.size
  have s7 := g7.size
  exact hb3.trans ((hB.mono s3).trans ((b6.mono (by omega)).trans ((below_of_grown g7 (by omega) (by omega)).trans (below_of_grown g8 (Nat.le_refl _) (by omega)))))
set_option maxHeartbeats 4000000 in
set_option maxRecDepth 100000 in
theorem rsegLoad_any (d : Nat) (room n : Int) (fs : List Dk.File) (ft : Nat → Prop) (w : World) (h : IsR w d room fs ft) (hroom : room ≤ 1048576) :
    Calls Tryz.prog 16 #[.pointer (some ⟨d, 0, none⟩), .int .i64 n] w fun e w' => ∃ (first : Int) (v : Value) (ps : List EnX) (torn : Bool) (c : Nat), e = .returned (.tuple #[.agg #[.int .i64 first, v, .bool torn], .int .i64 (c : Int)]) ∧
      Hid (Seg.loadD n fs = (⟨first, plainE ps, torn⟩, c)) ∧ Hid (NewEnts w.heap.size w' v ps) ∧ Below w.heap.size w w' := by
  obtain ⟨W, hW⟩ : ∃ W, W = w.alloc (.cells #[.int .i64 0, .slice none 0 0, .bool false] 42) := ⟨_, rfl⟩
  have z : SR w.heap.size 0 (.slice none 0 0) false W := by rw [hW]; exact heap_alloc_new w _
  have hb : Below w.heap.size w W := by rw [hW]; exact (Below.refl _ _).alloc (Nat.le_refl _) _
  have HW := Lib.hid hW
  have hnl := Seg.name_len n
  have HLD := Lib.hid (show Seg.loadD n fs = if (Dk.read (Seg.nameOf n) fs).2 = 0 then Seg.load (Dk.read (Seg.nameOf n) fs).1.data.toList else (Seg.zeroS, 6) from rfl)
  have HNM := Lib.hid ((refSegName_any n W).mono (fun _ _ h => (And.intro h.1 h.2.symm)))
  obtain ⟨nm, hnm⟩ : ∃ nm, Seg.nameOf n = nm := ⟨_, rfl⟩
  rw [hnm] at HLD HNM hnl
  clear hnm hW
  obtain ⟨s, hs⟩ : ∃ s, (Dk.read nm fs).1 = s := ⟨_, rfl⟩
  obtain ⟨c0, hc0⟩ : ∃ c, (Dk.read nm fs).2 = c := ⟨_, rfl⟩
  have hss : s.size ≤ 1048576 := by rw [← hs]; exact rread_room h hroom nm
  have HRD := rdRead_any d room fs ft ⟨nm.toArray⟩ W (h.next hb)
  rw [show (Dk.read (⟨nm.toArray⟩ : ByteArray).data.toList fs).1 = s from hs, show (Dk.read (⟨nm.toArray⟩ : ByteArray).data.toList fs).2 = c0 from hc0] at HRD
  have HRD := Lib.hid HRD
  rw [hs, hc0] at HLD
  clear h hs hc0 hnl
  go_enter Tryz.func16, Tryz.ntmps16
  go_upto_region 1 with fail
  rw [← HW.out]
  clear HW
  go_wp2_with fail
  refine HNM.out.mono ?_
  rintro e w1 ⟨rfl, rfl⟩
  go_wp2_with fail
  refine HRD.out.mono ?_
  rintro e w1 ⟨rfl, b1⟩
  replace z := z.next b1
  replace hb := Below.up hb (Nat.le_refl _) b1
  clear HNM HRD b1
  by_cases hc : ¬ c0 = 0
  · have hcb : ((c0 : Int) != 0) = true := by simp; omega
    have HL := Lib.hid (HLD.out.trans (if_neg hc))
    clear hc HLD
    have HP := Lib.hid (SR.put3 z 0 (.slice none 0 0) false)
    have HBN := Lib.hid (hb.trans (below_of_grown HP.out.2 (Nat.le_refl _) hb.size))
    obtain ⟨m0, m1, m2⟩ := z.cells
    have g0 := z.frozen 0
    have g1 := z.frozen 1
    have g2 := z.frozen 2
    clear z hb
    go_wp2
    (try simp only [Exit.inBlock, Exit.then])
    refine bodyPost_ret (results_cell1 rfl _ _ w.heap.size _ _ _ _ rfl HP.out.1 Tryz.underlying42 rfl rseg_size) rfl ?_
    exact ⟨0, _, [], false, 6, rfl, HL, Lib.hid ⟨World.ownsRow_nil _ _ _ _, fun p hp => by cases hp⟩, HBN.out⟩
  have hc := Classical.not_not.mp hc
  subst hc
  have HLL := Lib.hid (HLD.out.trans (if_pos rfl))
  have HSC := Lib.hid (rscan_any s w1 (by omega))
  clear HLD
  go_wp2_with fail
  refine HSC.out.mono ?_
  rintro e w2 ⟨v, at_, rfl, own, b2⟩
  replace z := z.next b2
  replace hb := Below.up hb (Nat.le_refl _) b2
  have hmem := Frm.scan_members _ s.data.toList (Nat.le_refl _)
  have hcnt := Frm.scan_count _ s.data.toList (Nat.le_refl _)
  rw [← Lib.size_eq] at hcnt
  obtain ⟨Ls, hLs⟩ : ∃ Ls, (Frm.scan s.data.toList).1 = Ls := ⟨_, rfl⟩
  rw [hLs] at own hmem hcnt
  have hcl := cells_of_owns own
  obtain ⟨sa, sc, rfl⟩ := cells_sliceV hcl
  clear own HSC b2
  cases Ls with
  | nil =>
    have HL := Lib.hid (HLL.out.trans (load_nil hLs))
    clear hLs hmem hcnt hcl HLL
    have HP := Lib.hid (SR.put3 z 0 (.slice none 0 0) false)
    have HBN := Lib.hid (hb.trans (below_of_grown HP.out.2 (Nat.le_refl _) hb.size))
    obtain ⟨m0, m1, m2⟩ := z.cells
    have g0 := z.frozen 0
    have g1 := z.frozen 1
    have g2 := z.frozen 2
    clear z hb
    go_wp2
    (try simp only [Exit.inBlock, Exit.then])
    refine bodyPost_ret (results_cell1 rfl _ _ w.heap.size _ _ _ _ rfl HP.out.1 Tryz.underlying42 rfl rseg_size) rfl ?_
    exact ⟨0, _, [], false, 2, rfl, HL, Lib.hid ⟨World.ownsRow_nil _ _ _ _, fun p hp => by cases hp⟩, HBN.out⟩
  | cons q Lr =>
    obtain ⟨b, o, c, hv, hq⟩ := strAt hcl 0 (by simp)
    cases hv
    have hq1 : 1 ≤ q.length := (hmem q (by simp)).1
    have hq8 : q.length ≤ 8000 := (hmem q (by simp)).2
    simp only [List.getElem_cons_zero, Nat.add_zero] at hq
    obtain ⟨qs, hqs, hqd, hqz⟩ := str_of q
    rw [hqs] at hq
    have hz1 : 0 < qs.size := by omega
    have hz8 : qs.size ≤ 8000 := by omega
    have hhd : q.head? = some qs[0] := by
      have := drop_head qs 0 hz1
      rw [List.drop_zero, hqd] at this
      rw [this]; rfl
    have HQD := Lib.hid hqd
    have HLS := Lib.hid hLs
    have HM := Lib.hid hmem
    have HCN := Lib.hid hcnt
    have HCL := Lib.hid hcl
    have HHD := Lib.hid hhd
    clear hLs hmem hcnt hcl hqs hqd hqz hq1 hq8 hhd
    by_cases h115 : ¬ qs[0].toNat = 115
    · have h115b : (((qs[0].toNat : Nat) : Int) != 115) = true := by rw [bne_iff_ne]; omega
      have HL := Lib.hid (HLL.out.trans (load_shut HLS.out (by
        unfold Seg.opens; rw [HHD.out]
        have : (some qs[0] == some (115 : UInt8)) = false := by
          rw [beq_eq_false_iff_ne]; intro e; injection e with e; exact h115 (by rw [e]; rfl)
        rw [this]; rfl)))
      clear HLL
      have HP := Lib.hid (SR.put3 z 0 (.slice none 0 0) false)
      have HBN := Lib.hid (hb.trans (below_of_grown HP.out.2 (Nat.le_refl _) hb.size))
      obtain ⟨m0, m1, m2⟩ := z.cells
      have g0 := z.frozen 0
      have g1 := z.frozen 1
      have g2 := z.frozen 2
      clear z hb
      go_wp2
      (try simp only [Exit.inBlock, Exit.then])
      refine bodyPost_ret (results_cell1 rfl _ _ w.heap.size _ _ _ _ rfl HP.out.1 Tryz.underlying42 rfl rseg_size) rfl ?_
      exact ⟨0, _, [], false, 2, rfl, HL, Lib.hid ⟨World.ownsRow_nil _ _ _ _, fun p hp => by cases hp⟩, HBN.out⟩
    have h115 := Classical.not_not.mp h115
    have h115b : (((qs[0].toNat : Nat) : Int) != 115) = false := by rw [bne_eq_false_iff_eq]; omega
    obtain ⟨Q, hQ⟩ : ∃ Q, qs.extract 1 qs.size = Q := ⟨_, rfl⟩
    have HQ := Lib.hid (show Q.data.toList = q.drop 1 by rw [← hQ, Lib.extract_to_end, HQD.out])
    have hQz : Q.size ≤ 8000 := by rw [← hQ, ByteArray.size_extract]; omega
    have HTK := Lib.hid (rtake_any Q w2 (by omega))
    go_wp2_with fail
    refine HTK.out.mono ?_
    rintro e w3 ⟨fs1, r1, c1, rfl, HT, b3⟩
    replace z := z.next b3
    replace hb := Below.up hb (Nat.le_refl _) b3
    have HCL := Lib.hid (Cells.next HCL.out b3)
    have HO := Lib.hid (show Seg.opens q = ((c1 == 0) && r1.data.toList.isEmpty && decide (1 ≤ fs1) && decide (fs1 ≤ 274877906944)) by
      unfold Seg.opens
      rw [HHD.out, ← HQ.out, HT.out]
      have : (some qs[0] == some (115 : UInt8)) = true := by
        rw [beq_iff_eq]; congr 1; exact UInt8.toNat_inj.1 h115
      rw [this]; simp)
    have HF1 := Lib.hid (show (Num.take (q.drop 1)).1 = fs1 by rw [← HQ.out, HT.out])
    clear HTK HT HQ hQ HHD b3 hq h115
    by_cases hc1 : ¬ c1 = 0
    · have hcb : ((c1 : Int) != 0) = true := by simp; omega
      have HL := Lib.hid (HLL.out.trans (load_shut HLS.out (by rw [HO.out]; simp; omega)))
      clear HLL hc1
      have HP := Lib.hid (SR.put3 z 0 (.slice none 0 0) false)
      have HBN := Lib.hid (hb.trans (below_of_grown HP.out.2 (Nat.le_refl _) hb.size))
      obtain ⟨m0, m1, m2⟩ := z.cells
      have g0 := z.frozen 0
      have g1 := z.frozen 1
      have g2 := z.frozen 2
      clear z hb
      go_wp2
      (try simp only [Exit.inBlock, Exit.then])
      refine bodyPost_ret (results_cell1 rfl _ _ w.heap.size _ _ _ _ rfl HP.out.1 Tryz.underlying42 rfl rseg_size) rfl ?_
      exact ⟨0, _, [], false, 2, rfl, HL, Lib.hid ⟨World.ownsRow_nil _ _ _ _, fun p hp => by cases hp⟩, HBN.out⟩
    have hc1 := Classical.not_not.mp hc1
    subst hc1
    cases hre : r1.toList.isEmpty with
    | false =>
      have HL := Lib.hid (HLL.out.trans (load_shut HLS.out (by rw [HO.out, ← Lib.toList_data, hre]; simp)))
      clear HLL
      have HP := Lib.hid (SR.put3 z 0 (.slice none 0 0) false)
      have HBN := Lib.hid (hb.trans (below_of_grown HP.out.2 (Nat.le_refl _) hb.size))
      obtain ⟨m0, m1, m2⟩ := z.cells
      have g0 := z.frozen 0
      have g1 := z.frozen 1
      have g2 := z.frozen 2
      clear z hb
      go_wp2
      (try simp only [Exit.inBlock, Exit.then])
      refine bodyPost_ret (results_cell1 rfl _ _ w.heap.size _ _ _ _ rfl HP.out.1 Tryz.underlying42 rfl rseg_size) rfl ?_
      exact ⟨0, _, [], false, 2, rfl, HL, Lib.hid ⟨World.ownsRow_nil _ _ _ _, fun p hp => by cases hp⟩, HBN.out⟩
    | true =>
    by_cases hf1 : fs1 < 1
    · have hf1i : (fs1 : Int) < 1 := by omega
      have HL := Lib.hid (HLL.out.trans (load_shut HLS.out (by rw [HO.out]; simp; omega)))
      clear HLL
      have HP := Lib.hid (SR.put3 z 0 (.slice none 0 0) false)
      have HBN := Lib.hid (hb.trans (below_of_grown HP.out.2 (Nat.le_refl _) hb.size))
      obtain ⟨m0, m1, m2⟩ := z.cells
      have g0 := z.frozen 0
      have g1 := z.frozen 1
      have g2 := z.frozen 2
      clear z hb
      go_wp2
      (try simp only [Exit.inBlock, Exit.then])
      refine bodyPost_ret (results_cell1 rfl _ _ w.heap.size _ _ _ _ rfl HP.out.1 Tryz.underlying42 rfl rseg_size) rfl ?_
      exact ⟨0, _, [], false, 2, rfl, HL, Lib.hid ⟨World.ownsRow_nil _ _ _ _, fun p hp => by cases hp⟩, HBN.out⟩
    by_cases hf2 : 274877906944 < fs1
    · have hf2i : (fs1 : Int) > 274877906944 := by omega
      have HL := Lib.hid (HLL.out.trans (load_shut HLS.out (by rw [HO.out]; simp; omega)))
      clear HLL
      have HP := Lib.hid (SR.put3 z 0 (.slice none 0 0) false)
      have HBN := Lib.hid (hb.trans (below_of_grown HP.out.2 (Nat.le_refl _) hb.size))
      obtain ⟨m0, m1, m2⟩ := z.cells
      have g0 := z.frozen 0
      have g1 := z.frozen 1
      have g2 := z.frozen 2
      clear z hb
      go_wp2
      (try simp only [Exit.inBlock, Exit.then])
      refine bodyPost_ret (results_cell1 rfl _ _ w.heap.size _ _ _ _ rfl HP.out.1 Tryz.underlying42 rfl rseg_size) rfl ?_
      exact ⟨0, _, [], false, 2, rfl, HL, Lib.hid ⟨World.ownsRow_nil _ _ _ _, fun p hp => by cases hp⟩, HBN.out⟩
    have HL := Lib.hid (HLL.out.trans (load_open HLS.out (by rw [HO.out, ← Lib.toList_data, hre]; simp; omega) HF1.out))
    clear HLL HO HF1
    obtain ⟨W3, hW3⟩ : ∃ W3, W3 = w3.alloc (.cells #[.int .i64 (fs1 : Int), .slice none 0 0, .bool false] 42) := ⟨_, rfl⟩
    have sr : SR w3.heap.size fs1 (.slice none 0 0) false W3 := by rw [hW3]; exact heap_alloc_new w3 _
    have hb3 : Below w3.heap.size w3 W3 := by rw [hW3]; exact (Below.refl _ _).alloc (Nat.le_refl _) _
    have hs3 : W3.heap.size = w3.heap.size + 1 := by rw [hW3]; simp
    have HW := Lib.hid hW3
    have HI0 := Lib.hid (And.intro sr (And.intro hb3 hs3))
    have HZ := Lib.hid z
    have HB := Lib.hid hb
    clear z hb sr hb3 hW3 hs3
    go_upto_block 0 with fail
    rw [← HW.out]
    go_cut [] (fun wx => ∃ (ys : List EnX) (v : Value), SR w3.heap.size fs1 v false wx ∧ wx.ownsRow (w3.heap.size + 1) 61 7 v ys.length (enCells ys) ∧ (∀ p ∈ ys, Got (w3.heap.size + 1) p wx wx) ∧ Below w3.heap.size w3 wx ∧ w3.heap.size < wx.heap.size ∧ Hid (plainE ys = Seg.entF ((fs1 : Int) - 1) 0 Lr))
    case first =>
      have hlr : Lr.length ≤ 200000 := by have := HCN.out; simp only [List.length_cons] at this; omega
      go_wp2
      go_loopw [14] (fun iv wr => ∃ (i : Nat) (ys : List EnX) (v : Value), iv = .int .i64 (i : Int) ∧ 1 ≤ i ∧ i ≤ Lr.length + 1 ∧ ys.length < i ∧ SR w3.heap.size fs1 v false wr ∧ wr.ownsRow (w3.heap.size + 1) 61 7 v ys.length (enCells ys) ∧ (∀ p ∈ ys, Got (w3.heap.size + 1) p wr wr) ∧ Below w3.heap.size w3 wr ∧ w3.heap.size < wr.heap.size ∧ Hid (Seg.LoadInv ((fs1 : Int) - 1) 0 Lr (i - 1) (plainE ys))) (fun iv _ => Lr.length + 1 - (intOf iv).toNat)
      case atStart => exact ⟨1, [], .slice none 0 0, rfl, Nat.le_refl _, by omega, by simp, HI0.out.1, World.ownsRow_nil _ _ _ _, (fun p hp => by cases hp), HI0.out.2.1, by have := HI0.out.2.2; omega, Seg.loadInv_start _ _ _⟩
      case round =>
        obtain ⟨i, ys, v, rfl, hi1, hi2, hyi, sv, hown, hgot, hbr, hszr, hinv⟩ := hrel
        by_cases hgo : i < Lr.length + 1
        · have hgoI : (i : Int) < (Lr.length : Int) + 1 := la3 hgo
          have hlt := la1 hi1 hgo
          obtain ⟨b', o', c', hv, hr0⟩ := strAt (Cells.next HCL.out hbr) i (by simpa using hgo)
          cases hv
          have hri : (q :: Lr)[i]'(by simpa using hgo) = Lr[i - 1]'hlt := by
            rcases i with _ | j
            · omega
            · simp
          rw [hri] at hr0
          obtain ⟨row, hrow⟩ : ∃ row, Lr[i - 1]'hlt = row := ⟨_, rfl⟩
          rw [hrow] at hr0
          have hrl := HM.out row (by rw [← hrow]; exact List.mem_cons_of_mem _ (List.getElem_mem _))
          obtain ⟨rs, hrs, hrd, hrz⟩ := str_of row
          rw [hrs] at hr0
          have hz1 : 0 < rs.size := by omega
          have hz8 : rs.size ≤ 8000 := by omega
          have hhd : row.head? = some rs[0] := by
            have := drop_head rs 0 hz1
            rw [List.drop_zero, hrd] at this
            rw [this]; rfl
          have HRD := Lib.hid hrd
          have HHD := Lib.hid hhd
          have HRW := Lib.hid hrow
          clear hri hrow hrs hrd hrz hhd hrl
          by_cases h101 : ¬ rs[0].toNat = 101
          · have h101b : (((rs[0].toNat : Nat) : Int) != 101) = true := by rw [bne_iff_ne]; omega
            have HN := Lib.hid (show plainE ys = Seg.entF ((fs1 : Int) - 1) 0 Lr from Seg.loadInv_stop hinv.out hlt (fun g => by
              have g1 := g.1
              rw [HRW.out, HHD.out] at g1
              injection g1 with g1
              exact h101 (by rw [g1]; rfl)))
            clear hinv HRW HHD HRD
            go_wp2
            go_meet
            exact ⟨ys, v, sv, hown, hgot, hbr, hszr, HN⟩
          have h101 := Classical.not_not.mp h101
          have h101b : (((rs[0].toNat : Nat) : Int) != 101) = false := by rw [bne_eq_false_iff_eq]; omega
          have HH1 := Lib.hid (show row.head? = some 101 by rw [HHD.out]; congr 1; exact UInt8.toNat_inj.1 h101)
          obtain ⟨Q, hQ⟩ : ∃ Q, rs.extract 1 rs.size = Q := ⟨_, rfl⟩
          have HQ := Lib.hid (show Q.data.toList = row.drop 1 by rw [← hQ, Lib.extract_to_end, HRD.out])
          have hQz : Q.size ≤ 8000 := by rw [← hQ, ByteArray.size_extract]; omega
          have HTK := Lib.hid (rrecTake_any Q wr (by omega))
          clear HHD h101
          go_wp2_with fail
          refine HTK.out.mono ?_
          rintro e w4 ⟨p, ep, S, ex, se, sq, ev, es, r, c, rfl, HT, oev, hS, hsm, hes, hrr, b4⟩
          obtain ⟨ea, el, ec, rfl⟩ := slice_of_owns oev
          obtain ⟨va, vl, vc, rfl⟩ := slice_of_owns hown
          obtain ⟨W5, hW5⟩ : ∃ W5, W5 = w4.alloc (.cells #[.int .i64 p, .int .i64 ep, .string S, .int .i64 ex, .int .i64 se, .int .i64 sq, .slice ea el ec] 61) := ⟨_, rfl⟩
          have hb45 : Below w4.heap.size w4 W5 := by rw [hW5]; exact (Below.refl _ _).alloc (Nat.le_refl _) _
          have eb : EB w4.heap.size p ep S ex se sq (.slice ea el ec) W5 := by rw [hW5]; exact heap_alloc_new w4 _
          have hbr5 : Below wr.heap.size wr W5 := Below.up b4 (Nat.le_refl _) hb45
          have hA : KK w3.heap.size fs1 (.slice va vl vc) w4.heap.size p ep S ex se sq (.slice ea el ec) W5 := ⟨sv.next hbr5, eb⟩
          have HW5 := Lib.hid hW5
          have HC1 := Lib.hid (Cells.next (cells_of_owns hown) ((hbr5.alloc hbr5.size (.cells #[] 61)).drew))
          have HBR := Lib.hid hbr5
          have HEV := Lib.hid (owns_next (owns_low oev hszr) hb45)
          have HFX := Lib.hid (And.intro hown (And.intro hgot hbr))
          have HO1 := Lib.hid (enCells_slices hgot)
          have HTX := Lib.hid (And.intro HT (And.intro hS (And.intro hsm hes)))
          have HN1 := Lib.hid (show ys.length + 1 ≤ 1000000 from la6 hyi hi2 hlr)
          have hrz : r.size ≤ 8000 := Nat.le_trans hrr hQz
          have hA0 := hA
          clear hW5 hb45 eb hbr5 oev hown hgot hbr HT hS hsm hes b4 hr0 hrr
          go_upto_region 16 with fail
          rw [← HW5.out]
          go_cut [18] (fun v2 wx => wx.ownsRow W5.heap.size 61 7 v2 (ys.length + 1) (enCells ys ++ [.int .i64 p, .int .i64 ep, .string S, .int .i64 ex, .int .i64 se, .int .i64 sq, .slice ea el ec]) ∧ Below W5.heap.size W5 wx)
          case first =>
            have be : Below W5.heap.size W5 (W5.alloc (.cells #[] 61)).drew := ((Below.refl _ W5).alloc (Nat.le_refl _) _).drew
            have bx : Below W5.heap.size W5 (W5.alloc (.cells #[.int .i64 p, .int .i64 ep, .string S, .int .i64 ex, .int .i64 se, .int .i64 sq, .slice ea el ec] 61)).drew := ((Below.refl _ W5).alloc (Nat.le_refl _) _).drew
            have bex : Below W5.heap.size W5 ((W5.alloc (.cells #[] 61)).alloc (.cells #[.int .i64 p, .int .i64 ep, .string S, .int .i64 ex, .int .i64 se, .int .i64 sq, .slice ea el ec] 61)).drew := (((Below.refl _ W5).alloc (Nat.le_refl _) _).alloc (by simp) _).drew
            have bxe : Below W5.heap.size W5 ((W5.alloc (.cells #[.int .i64 p, .int .i64 ep, .string S, .int .i64 ex, .int .i64 se, .int .i64 sq, .slice ea el ec] 61)).alloc (.cells #[] 61)).drew := (((Below.refl _ W5).alloc (Nat.le_refl _) _).alloc (by simp) _).drew
            have HAX := Lib.hid (And.intro (And.intro (hA0.next be).s (hA0.next bx).s) (And.intro (hA0.next bex).s (hA0.next bxe).s))
            have hcw := cells_of_owns HFX.out.1
            have HCX := Lib.hid (And.intro (Cells.next hcw (HBR.out.trans (be.mono HBR.out.size))) (And.intro (Cells.next hcw (HBR.out.trans (bex.mono HBR.out.size))) (Cells.next hcw (HBR.out.trans (bxe.mono HBR.out.size)))))
            have HBB := Lib.hid (And.intro be (And.intro bex bxe))
            have HE1 := Lib.hid (show EB (W5.heap.size + 1) p ep S ex se sq (.slice ea el ec) ((W5.alloc (.cells #[] 61)).alloc (.cells #[.int .i64 p, .int .i64 ep, .string S, .int .i64 ex, .int .i64 se, .int .i64 sq, .slice ea el ec] 61)).drew from by have := heap_alloc_new (W5.alloc (.cells #[] 61)) (.cells #[.int .i64 p, .int .i64 ep, .string S, .int .i64 ex, .int .i64 se, .int .i64 sq, .slice ea el ec] 61); rw [World.size_alloc] at this; exact this)
            have HE2 := Lib.hid (show EB W5.heap.size p ep S ex se sq (.slice ea el ec) ((W5.alloc (.cells #[.int .i64 p, .int .i64 ep, .string S, .int .i64 ex, .int .i64 se, .int .i64 sq, .slice ea el ec] 61)).alloc (.cells #[] 61)).drew from (Below.heap_alloc _ _ _ (by simp)).trans (heap_alloc_new W5 (.cells #[.int .i64 p, .int .i64 ep, .string S, .int .i64 ex, .int .i64 se, .int .i64 sq, .slice ea el ec] 61)))
            have HR3 := Lib.hid (show ((W5.alloc (.cells #[.int .i64 p, .int .i64 ep, .string S, .int .i64 ex, .int .i64 se, .int .i64 sq, .slice ea el ec] 61)).alloc (.cells #[] 61)).drew.ownsRow W5.heap.size 61 7 (.slice (some ⟨W5.heap.size + 1, 0, none⟩) 0 0) 0 [] from by have := owns_fresh (W5.alloc (.cells #[.int .i64 p, .int .i64 ep, .string S, .int .i64 ex, .int .i64 se, .int .i64 sq, .slice ea el ec] 61)) W5.heap.size 61 7 (by simp); rw [World.size_alloc] at this; exact this)
            clear be bx bex bxe hcw
            go_region_held3 (fun Z => Z.cell? ⟨w3.heap.size, 1, none⟩ = some (.slice va vl vc) ∧ Z.cell? ⟨w4.heap.size, 0, none⟩ = some (.int .i64 p) ∧ Z.cell? ⟨w4.heap.size, 1, none⟩ = some (.int .i64 ep) ∧ Z.cell? ⟨w4.heap.size, 2, none⟩ = some (.string S) ∧ Z.cell? ⟨w4.heap.size, 3, none⟩ = some (.int .i64 ex) ∧ Z.cell? ⟨w4.heap.size, 4, none⟩ = some (.int .i64 se) ∧ Z.cell? ⟨w4.heap.size, 5, none⟩ = some (.int .i64 sq) ∧ Z.cell? ⟨w4.heap.size, 6, none⟩ = some (.slice ea el ec))
              (first | exact hA.s | exact HAX.out.1.1 | exact HAX.out.1.2 | exact HAX.out.2.1 | exact HAX.out.2.2 | exact (hA.next (Below.refl _ _).drew).s | exact (hA.next ((Below.refl _ _).alloc (Nat.le_refl _) _)).s)
              (first
                | (refine step_append_row rfl _ _ rfl enT W5.heap.size _ 0 [] rfl (owns_fresh W5 _ 61 7 (Nat.le_refl _)) _ ys.length (enCells ys) rfl HCX.out.1 HO1.out (la7 HN1.out) HBB.out.1.size ?_; intro v1 wa hown1 hg1 hne1; have hBw1 := Lib.hid (HBB.out.1.grown hg1 HBB.out.1.size (fun k hk => by cases hk; exact Nat.le_refl _)); have hA := hA0.next hBw1.out; have hOwn1 := Lib.hid (hown1.alloc (.cells #[.int .i64 p, .int .i64 ep, .string S, .int .i64 ex, .int .i64 se, .int .i64 sq, .slice ea el ec] 61)); have hX1 := Lib.hid (cells_new7 wa 61 (.int .i64 p) (.int .i64 ep) (.string S) (.int .i64 ex) (.int .i64 se) (.int .i64 sq) (.slice ea el ec)); have hBX1 := Lib.hid (hBw1.out.alloc hBw1.out.size (.cells #[.int .i64 p, .int .i64 ep, .string S, .int .i64 ex, .int .i64 se, .int .i64 sq, .slice ea el ec] 61)); clear hown1 hg1 hne1)
                | (refine step_append_row rfl _ _ rfl enT W5.heap.size _ 0 [] rfl ((owns_fresh W5 _ 61 7 (Nat.le_refl _)).alloc _) _ ys.length (enCells ys) rfl HCX.out.2.1 HO1.out (la7 HN1.out) HBB.out.2.1.size ?_; intro v1 wa hown1 hg1 hne1; have hBX1 := Lib.hid (HBB.out.2.1.grown hg1 HBB.out.2.1.size (fun k hk => by cases hk; exact Nat.le_refl _)); have hA := hA0.next hBX1.out; have hOwn1 := Lib.hid hown1; have hX1 := Lib.hid (cells_eb (HE1.out.kept hg1 (some_ne1 _))); clear hown1 hg1 hne1)
                | (refine step_append_row rfl _ _ rfl enT W5.heap.size _ 0 [] rfl HR3.out _ ys.length (enCells ys) rfl HCX.out.2.2 HO1.out (la7 HN1.out) HBB.out.2.2.size ?_; intro v1 wa hown1 hg1 hne1; have hBX1 := Lib.hid (HBB.out.2.2.grown hg1 HBB.out.2.2.size (fun k hk => by cases hk; exact Nat.le_succ _)); have hA := hA0.next hBX1.out; have hOwn1 := Lib.hid hown1; have hX1 := Lib.hid (cells_eb (HE2.out.kept hg1 (some_ne2 _))); clear hown1 hg1 hne1)
                | (refine step_append_row rfl _ _ rfl enT W5.heap.size v1 _ _ rfl hOwn1.out _ 1 _ rfl hX1.out (fun u hu => one7 hu) (la8 HN1.out) hBX1.out.size ?_; intro v2 wb hown2 hg2 hne2; have hBw2 := Lib.hid (hBX1.out.grown hg2 hBX1.out.size (fun k hk => (hOwn1.out.lt k hk).1)); have hA := hA0.next hBw2.out; have hOwn2 := Lib.hid hown2; clear hown2 hg2 hne2))
            all_goals (
              go_wp2
              go_meet
              exact ⟨by have := hOwn2.out; rwa [Nat.zero_add, List.nil_append] at this, hBw2.out⟩)
          case rest =>
            obtain ⟨hown2, hbw2⟩ := hcut
            obtain ⟨g2, l2, c2, rfl⟩ := slice_of_owns hown2
            obtain ⟨x, hx⟩ : ∃ x : EnX, x = (⟨p, ep, ⟨S.data.toList, ex, se, sq, es⟩⟩, .slice ea el ec) := ⟨_, rfl⟩
            obtain ⟨hown, hgot, hbr⟩ := HFX.out
            obtain ⟨hT, hS, hsm, hes⟩ := HTX.out
            have hb6 := HBR.out.trans (hbw2.mono HBR.out.size)
            have hownx : wc.ownsRow W5.heap.size 61 7 (.slice g2 l2 c2) (ys ++ [x]).length (enCells (ys ++ [x])) := by
              rw [List.length_append, enCells_snoc, hx]; exact hown2
            have hgotx : ∀ y ∈ ys ++ [x], Got (w3.heap.size + 1) y wc wc := by
              intro y hy
              rcases List.mem_append.1 hy with h | h
              · exact ⟨owns_next (hgot y h).1 hb6, (hgot y h).2⟩
              · rw [List.mem_singleton.1 h, hx]
                exact ⟨owns_next HEV.out hbw2, ⟨by rw [← Lib.size_eq]; exact hS, hsm, Nat.le_trans hes (by decide)⟩, hes⟩
            have hEx : Ents wc (.slice g2 l2 c2) (ys ++ [x]) := ⟨cells_of_owns hownx, fun y hy => ⟨cells_of_owns (hgotx y hy).1, (hgotx y hy).2.1⟩⟩
            obtain ⟨F, hF⟩ : ∃ F, Evt.follows (plainE (ys ++ [x])) ((fs1 : Int) - 1) 0 = F := ⟨_, rfl⟩
            have hT' : Evt.take (row.drop 1) = (x.1, r.data.toList, c) := by rw [← HQ.out, hT.out, hx]
            have hpx : plainE (ys ++ [x]) = plainE ys ++ [x.1] := by simp [plainE]
            have HST := Lib.hid (fun (hn : ¬ (c = 0 ∧ r.data.toList = [] ∧ F = true)) => (show plainE ys = Seg.entF ((fs1 : Int) - 1) 0 Lr from Seg.loadInv_stop hinv.out hlt (fun g => hn (by
              rw [HRW.out, hT'] at g
              exact ⟨g.2.1, g.2.2.1, by rw [← hF, hpx]; exact g.2.2.2⟩))))
            have HGO := Lib.hid (fun (h1 : c = 0) (h2 : r.data.toList = []) (h3 : F = true) => (show Seg.LoadInv ((fs1 : Int) - 1) 0 Lr (i + 1 - 1) (plainE (ys ++ [x])) by
              have g := Seg.loadInv_go hinv.out hlt (by rw [HRW.out, hT']; exact ⟨HH1.out, h1, h2, by rw [← hpx, hF]; exact h3⟩)
              rw [HRW.out, hT', Nat.sub_add_cancel hi1, ← hpx] at g
              exact g))
            have hf1w : wrap64 ((fs1 : Int) - 1) = (fs1 : Int) - 1 := la9 hf1 hf2
            have HF := Lib.hid (rfollows_any (.slice g2 l2 c2) (ys ++ [x]) ((fs1 : Int) - 1) 0 wc hEx (by rw [List.length_append]; exact HN1.out) (la10 hf1 hf2).1 (la10 hf1 hf2).2)
            rw [hF] at HF
            have HOX := Lib.hid (And.intro hownx (And.intro hgotx hb6))
            have HSV := Lib.hid (hA0.1.next hbw2)
            clear hownx hgotx hb6 hF hT' hpx hT hinv hown hgot hbr hEx HTX HC1 HEV hown2 hA hA0 HW5 HTK HRD HH1 hQ HRW
            go_wp2_with fail
            refine HF.out.mono ?_
            rintro e w6 ⟨rfl, b6⟩
            have s6 := HSV.out.next b6
            have HB6 := Lib.hid b6
            have hw6 := b6.size
            clear HF HSV b6
            by_cases hc0 : ¬ c = 0
            · have hcb : ((c : Int) != 0) = true := by simp; omega
              have HN := Lib.hid (HST.out (fun h => hc0 h.1))
              clear hc0 HST HGO
              go_wp2
              go_meet
              exact rload_stop s6 HFX.out HBR.out hbw2 HB6.out hszr HN
            have hc0 := Classical.not_not.mp hc0
            subst hc0
            cases hre2 : r.toList.isEmpty with
            | false =>
              have HN := Lib.hid (HST.out (fun h => by rw [← Lib.toList_data] at h; rw [h.2.1] at hre2; cases hre2))
              clear HST HGO
              go_wp2
              go_meet
              exact rload_stop s6 HFX.out HBR.out hbw2 HB6.out hszr HN
            | true =>
            cases F with
            | false =>
              have HN := Lib.hid (HST.out (fun h => by cases h.2.2))
              clear HST HGO
              go_wp2
              go_meet
              exact rload_stop s6 HFX.out HBR.out hbw2 HB6.out hszr HN
            | true =>
              have HG := Lib.hid (HGO.out rfl (by rw [← Lib.toList_data]; exact List.isEmpty_iff.1 hre2) rfl)
              obtain ⟨m0, m1, m2⟩ := s6.cells
              have f1 := s6.frozen 1
              have HS6 := Lib.hid s6
              clear HST HGO s6
              go_wp2
              exact ⟨rload_next HS6.out HOX.out HB6.out HFX.out.2.2 HBR.out hbw2 hszr hi1 hgo hyi HG, by simp [intOf]; omega⟩
        · have hgoI : ¬ (i : Int) < (Lr.length : Int) + 1 := la4 hgo
          have HN := Lib.hid (show plainE ys = Seg.entF ((fs1 : Int) - 1) 0 Lr from Seg.loadInv_end hinv.out (la2 hi1 hgo))
          clear hinv
          go_wp2
          go_meet
          exact ⟨ys, v, sv, hown, hgot, hbr, hszr, HN⟩
    case rest =>
      obtain ⟨ys, v, sv, hown, hgot, hbx, hszx, hall⟩ := hcut
      obtain ⟨va, vl, vc, rfl⟩ := slice_of_owns hown
      have hzlt : w.heap.size < w3.heap.size := (Array.getElem?_eq_some_iff.1 HZ.out).1
      have zW := HZ.out.next hbx
      have hyl : ys.length ≤ 200000 := by
        have h1 := congrArg List.length hall.out
        have h2 := Seg.entF_len Lr ((fs1 : Int) - 1) 0
        have h3 := HCN.out
        simp only [plainE, List.length_map, List.length_cons] at h1 h3
        omega
      have HBY := Lib.hid (rsegBytes_any (fs1 : Int) (.slice va vl vc) ys wc (NewEnts.ents ⟨hown, hgot⟩) (by omega))
      obtain ⟨x0, x1, x2⟩ := sv.cells
      have HOW := Lib.hid (And.intro hown (And.intro hgot hbx))
      have HS := Lib.hid (And.intro sv zW)
      clear hown hgot hbx sv zW HCL HM HCN
      go_wp2_with fail
      refine HBY.out.mono ?_
      rintro e w6 ⟨R, rfl, hR, b6⟩
      have s6 := HS.out.1.next b6
      have z6 := HS.out.2.next b6
      obtain ⟨cb, hcb⟩ : ∃ cb, (R.toList == s.toList) = cb := ⟨_, rfl⟩
      have HC := Lib.hid (show (Seg.bytesH fs1 ++ Seg.bytesB (plainE ys) != s.data.toList) = !cb by
        rw [← hcb, Lib.toList_data, Lib.toList_data, hR.out]; rfl)
      have s7 : SR w3.heap.size fs1 (.slice va vl vc) (!cb) (w6.setCell ⟨w3.heap.size, 2, none⟩ (.bool (!cb))) := setCell_at (i := 2) s6 _
      have G7 := Lib.hid (grown_set w6 w3.heap.size 2 (.bool (!cb)))
      have z7 := z6.kept G7.out (by simp; omega)
      obtain ⟨y0, y1, y2⟩ := s6.cells
      have f2 := s6.frozen 2
      obtain ⟨t0, t1, t2⟩ := s7.cells
      obtain ⟨q0, q1, q2⟩ := z7.cells
      have h0z := z7.frozen 0
      have h1z := z7.frozen 1
      have h2z := z7.frozen 2
      have HP := Lib.hid (SR.put3 z7 fs1 (.slice va vl vc) (!cb))
      have HNE := Lib.hid (rload_new HOW.out.1 HOW.out.2.1 b6 hzlt G7.out HP.out.2)
      have HBE := Lib.hid (rload_below HB.out hzlt HOW.out.2.2 hszx b6 G7.out HP.out.2)
      have HFIN := Lib.hid (show Seg.loadD n fs = (⟨fs1, plainE ys, !cb⟩, 0) by
        rw [HL.out, ← hall.out, Seg.loaded]
        show ((⟨fs1, plainE ys, Seg.bytesH fs1 ++ Seg.bytesB (plainE ys) != s.data.toList⟩ : Seg.Seg), 0) = _
        rw [HC.out])
      clear HBY s7 z7 s6 z6 HS HOW HC hR b6
      go_wp2
      (try simp only [Exit.inBlock, Exit.then])
      refine bodyPost_ret (results_cell1 rfl _ _ w.heap.size _ _ _ _ rfl HP.out.1 Tryz.underlying42 rfl rseg_size) rfl ?_
      exact ⟨fs1, _, ys, !cb, 0, rfl, HFIN, HNE, HBE.out⟩
end Go.Proofs.YtiaddfghojdgkaaGreatDoor
