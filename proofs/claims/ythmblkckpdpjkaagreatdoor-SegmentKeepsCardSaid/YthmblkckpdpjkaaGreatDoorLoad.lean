/-
  The walk of segment.Load.
-/
import Derived.Test.YthmblkckpdpjkaaGreatDoorLoadR
namespace Go.Proofs.YthmblkckpdpjkaaGreatDoor
open Go.RowKit Go.Shelf

attribute [local go_sem] Oper.semAt_some

def Seg.loadD (n : Int) (fs : List Dk.File) : Seg.Seg × Nat := if (Dk.read (Seg.nameOf n) fs).2 = 0 then Seg.load (Dk.read (Seg.nameOf n) fs).1.data.toList else (Seg.zeroS, 6)
theorem seg_size : (Tryz.prog.info? 48).map (·.size) = some 3 := by kernel_rfl
theorem results_cell1 {P : Program} {fn : Func} {p u : Tmp} {ty : TypeId} (h : fn.results = #[.cell p ty, .tmp u]) (tmps : Array Value) (w : World) (g : Nat) (t : TypeId) (cs : Array Value) (fr : Nat × Nat) (d : TypeDesc)
    (hp : tmps.getD p undef = .pointer (some ⟨g, 0, none⟩)) (hg : w.heap[g]? = some (.cells cs t fr))
    (hu : P.underlying ty = some d) (hd : (match d with | .struct _ | .array _ _ => true | _ => false) = true) (hi : (P.info? ty).map (·.size) = some cs.size) :
    (results fn tmps).run P w = .ok (.tuple #[.agg cs, tmps.getD u undef]) w := by
  have hp' : tmps[p]?.getD undef = .pointer (some ⟨g, 0, none⟩) := by simpa using hp
  simp [results, h, hp', asAddr, run_loadVar_row w g t ty cs fr d hg hu hd hi]

theorem cells_tail {w : World} {b o c : Nat} {q : List UInt8} {L : List (List UInt8)} (h : Cells w (.slice (some ⟨b, o, none⟩) (L.length + 1) c) 1 (q :: L).length (strCells (q :: L))) : Cells w (.slice (some ⟨b, o + 1, none⟩) L.length (c - 1)) 1 L.length (strCells L) := by
  refine ⟨by simp [strCells], .inr ⟨b, o + 1, c - 1, rfl, fun j u hj => ?_⟩⟩
  rcases h.2 with ⟨h0, _⟩ | ⟨b', o', c', hv, hx⟩
  · simp at h0
  · cases hv
    have := hx (j + 1) u (by simpa [strCells] using hj)
    rwa [show o + (j + 1) = o + 1 + j by omega] at this
theorem cells_tail1 {w : World} {b o : Nat} {q : List UInt8} {L : List (List UInt8)} (_h : Cells w (.slice (some ⟨b, o, none⟩) (L.length + 1) 1) 1 (q :: L).length (strCells (q :: L))) (h0 : L.length = 0) : Cells w (.slice (some ⟨b, o, none⟩) L.length 0) 1 L.length (strCells L) := by
  have := List.eq_nil_of_length_eq_zero h0
  subst this
  exact ⟨rfl, .inl ⟨rfl, _, _, rfl⟩⟩
theorem entries_seq {w3 w5 : World} {b o c : Nat} {L : List (List UInt8)} {pos : Int} (ha : Env w3) (bL : Boxed w5 (w3.heap.size + 1) 58 (.slice (some ⟨b, o, none⟩) L.length c)) (bP : Boxed w5 (w3.heap.size + 2) 3 (.int .i64 pos))
    (hs5 : w5.heap.size = w3.heap.size + 3) (hb : Below w3.heap.size w3 w5) (hcl : Cells w3 (.slice (some ⟨b, o, none⟩) L.length c) 1 L.length (strCells L)) (hL : ∀ p ∈ L, p.length ≤ 1000000) (hn : L.length ≤ 1000000000) (hp0 : 0 ≤ pos) (hp1 : pos ≤ 274877906944) :
    SeqBox Fence.wide 5 Tryz.prog 83 #[.pointer (some ⟨w3.heap.size + 1, 0, none⟩), .pointer (some ⟨w3.heap.size + 2, 0, none⟩)] (fun x : EnX => #[enVal x]) (Got (w3.heap.size + 3)) (KeepsBut w3.heap.size (w3.heap.size + 3)) (fun ys => ys.map (·.1) = Seg.entF pos 0 L) L.length (w3.heap.size + 2) w5 := by
  intro l J W hW hJ hY h0
  have hWs := hW.size
  exact entries1_in 5 (by omega) l w3.heap.size (w3.heap.size + 3) (w3.heap.size + 1) (w3.heap.size + 2) (w3.heap.size + 3) L pos w3 ha (Nat.le_refl _) b o c W hp0 hp1 (hb.trans (hW.mono (by omega))) (by omega) (by omega) (by omega) (by omega)
    (bL.kept (grown_of_below hW) (by simp)) (bP.kept (grown_of_below hW) (by simp)) hcl hL hn J hJ hY h0
theorem own_cap {w : World} {B e sz n : Nat} {v : Value} {xs : List Value} (h : w.ownsRow B e sz v n xs) : ∀ (a : Option Addr) (m c : Nat), v = .slice a m c → m ≤ c := by
  intro a m c hv
  rcases h.2 with ⟨h1, h2⟩ | ⟨g, cap, cur, h1, _, _, h2, _⟩
  · rw [hv] at h1; cases h1; omega
  · rw [hv] at h1; cases h1; exact h2
theorem enT : ElemT Tryz.prog 26 38 7 := by
  have h : (Tryz.prog.info? 38).map (fun i => (i.zero, i.size, i.bytes)) = some (some (.agg #[.int .i64 0, .int .i64 0, .string ⟨#[]⟩, .int .i64 0, .int .i64 0, .int .i64 0, .slice none 0 0]), 7, 80) := by kernel_rfl
  obtain ⟨i0, hi, hz0, hz1, hz2⟩ := info_parts h
  exact ⟨Tryz.underlying26, ⟨i0, _, 80, hi, hz0, hz1, hz2, rfl, by omega⟩, by omega⟩
theorem look_total : ∀ (fs : List Dk.File) (k : List UInt8) (x : Dk.File), Dk.look fs k = some x → x.bytes.size ≤ Dk.total fs
  | [], _, _, h => by cases h
  | y :: fs, k, x, h => by
    rw [Dk.look] at h
    rw [Dk.total]
    split at h
    · cases h; omega
    · have := look_total fs k x h; omega
theorem read_room {w : World} {d : Nat} {room : Int} {fs : List Dk.File} {ft : Nat → Prop} (h : IsDisk w d room fs ft) (hr : room ≤ 1048576) (nm : List UInt8) : (Dk.read nm fs).1.size ≤ 1048576 := by
  obtain ⟨bm, D, g, h1, h2, h3, h4, h5, ⟨h6, h6b, h6c⟩, _⟩ := h
  unfold Dk.read
  split
  · simp [ByteArray.size]
  · rename_i x hx
    have := look_total fs nm x hx
    simp only; omega
theorem s_head (q : List UInt8) : Lib.hasPrefix q [115] = (q.head? == some 115) := by
  cases q with
  | nil => rfl
  | cons c r => simp [Lib.hasPrefix, List.isPrefixOf]; rw [Bool.eq_iff_iff]; simp; exact ⟨fun h => h.symm, fun h => h.symm⟩
theorem load_nil {s : List UInt8} (h : (Frm.scan s).1 = []) : Seg.load s = (Seg.zeroS, 2) := by unfold Seg.load; rw [h]
theorem load_shut {s : List UInt8} {q : List UInt8} {l : List (List UInt8)} (h : (Frm.scan s).1 = q :: l) (ho : Seg.opens q = false) : Seg.load s = (Seg.zeroS, 2) := by unfold Seg.load; rw [h]; simp [ho]
theorem load_open {s : List UInt8} {q : List UInt8} {l : List (List UInt8)} {f : Nat} (h : (Frm.scan s).1 = q :: l) (ho : Seg.opens q = true) (hf : (Num.take (q.drop 1)).1 = f) : Seg.load s = (Seg.loaded f (Seg.entF ((f : Int) - 1) 0 l) s, 0) := by subst hf; unfold Seg.load; rw [h]; simp only [ho, if_true]

set_option maxRecDepth 100000 in
set_option maxHeartbeats 4000000 in
theorem segLoad_any (a : World) (d : Nat) (room n : Int) (fs : List Dk.File) (ft : Nat → Prop) (w : World) (hA : Base a w ft) (h : IsDisk w d room fs ft) (hroom : room ≤ 1048576) :
    Calls Tryz.prog 22 #[.pointer (some ⟨d, 0, none⟩), .int .i64 n] w fun e w' => ∃ (first : Int) (v : Value) (ps : List EnX) (torn : Bool) (c : Nat), e = .returned (.tuple #[.agg #[.int .i64 first, v, .bool torn], .int .i64 (c : Int)]) ∧
      Hid (Seg.loadD n fs = (⟨first, plainE ps, torn⟩, c)) ∧ Hid (NewEnts w.heap.size w' v ps) ∧ Below w.heap.size w w' := by
  have z0 : SB w.heap.size 0 (.slice none 0 0) false (w.alloc (.cells #[.int .i64 0, .slice none 0 0, .bool false] 48)) := heap_alloc_new w _
  have hb0 : Below w.heap.size w (w.alloc (.cells #[.int .i64 0, .slice none 0 0, .bool false] 48)) := (Below.refl _ _).alloc (Nat.le_refl _) _
  have hnl := Seg.name_len n
  have HLD := Lib.hid (show Seg.loadD n fs = if (Dk.read (Seg.nameOf n) fs).2 = 0 then Seg.load (Dk.read (Seg.nameOf n) fs).1.data.toList else (Seg.zeroS, 6) from rfl)
  have HNM := Lib.hid (segName_any n _ (hA.next hb0).envW)
  obtain ⟨nm, hnm⟩ : ∃ nm, Seg.nameOf n = nm := ⟨_, rfl⟩
  rw [hnm] at HLD HNM hnl
  clear hnm
  have hns : (⟨nm.toArray⟩ : ByteArray).size ≤ 14 := by rw [Lib.size_eq]; exact hnl
  obtain ⟨s, hs⟩ : ∃ s, (Dk.read nm fs).1 = s := ⟨_, rfl⟩
  obtain ⟨c0, hc0⟩ : ∃ c, (Dk.read nm fs).2 = c := ⟨_, rfl⟩
  have hss : s.size ≤ 1048576 := by rw [← hs]; exact read_room h hroom nm
  have HD := Lib.hid h
  have HA := Lib.hid hA
  have HRD := fun (w1 : World) (hb : Below w.heap.size w w1) => diskRead_any d room fs ft ⟨nm.toArray⟩ w1 (HD.out.next hb) (by omega)
  rw [show (Dk.read (⟨nm.toArray⟩ : ByteArray).data.toList fs).1 = s from hs, show (Dk.read (⟨nm.toArray⟩ : ByteArray).data.toList fs).2 = c0 from hc0] at HRD
  have HRD := Lib.hid HRD
  rw [hs, hc0] at HLD
  clear h hA hs hc0 hnl
  have Z0 := Lib.hid z0
  have HB0 := Lib.hid hb0
  clear z0 hb0
  refine (callsIn_wide (n := 6)).1 ?_
  refine callsIn_of_wp_marks Tryz.func22 rfl trivial ?_ rfl
  simp only [Tryz.ntmps22, List.size_toArray, List.length_cons, List.length_nil, Nat.reduceAdd, Nat.reduceSub, Array.replicate_succ, Array.replicate_zero, List.push_toArray, List.append_toArray, List.nil_append, List.cons_append]
  gi_wp2
  refine ⟨trivial, (callsIn_wide.2 HNM.out).mono ?_⟩
  rintro e w1 ⟨rfl, b1⟩
  have z1 := Z0.out.next b1
  have hb1 := Below.up HB0.out (Nat.le_refl _) b1
  gi_wp2
  refine ⟨trivial, (callsIn_wide.2 (HRD.out w1 hb1)).mono ?_⟩
  rintro e w1' ⟨rfl, hw1⟩
  obtain rfl := hw1
  obtain ⟨k0, k1, k2⟩ := z1.cells
  have f0 := z1.frozen 0
  have f1 := z1.frozen 1
  have f2 := z1.frozen 2
  by_cases hc0 : c0 = 0
  · subst hc0
    have HLL := Lib.hid (HLD.out.trans (if_pos rfl))
    clear HLD
    gi_wp2
    refine ⟨trivial, (callsIn_wide.2 (scan_any s w1 (by omega))).mono ?_⟩
    rintro e w2 ⟨v, at_, rfl, own, b2⟩
    have z2 := z1.next b2
    have hb2 := Below.up hb1 (Nat.le_refl _) b2
    have hmem := Frm.scan_members _ s.data.toList (Nat.le_refl _)
    have hcnt := Frm.scan_count _ s.data.toList (Nat.le_refl _)
    rw [← Lib.size_eq] at hcnt
    obtain ⟨Ls, hLs⟩ : ∃ Ls, (Frm.scan s.data.toList).1 = Ls := ⟨_, rfl⟩
    rw [hLs] at own hmem hcnt
    have hcl := cells_of_owns own
    have hcapo := own_cap own
    clear own k0 k1 k2 f0 f1 f2 b2
    obtain ⟨m0, m1, m2⟩ := z2.cells
    have g0 := z2.frozen 0
    have g1 := z2.frozen 1
    have g2 := z2.frozen 2
    cases Ls with
    | nil =>
      obtain ⟨sa, sc, rfl⟩ : ∃ sa sc, v = .slice sa 0 sc := by
        rcases cellsNil hcl with ⟨_, sa, sc, hv⟩ | ⟨b, o, c, hv⟩
        · exact ⟨sa, sc, hv⟩
        · exact ⟨_, _, hv⟩
      have HL := Lib.hid (HLL.out.trans (load_nil hLs))
      have zz := z2
      have hbz := hb2
      clear hLs hmem hcnt
      have HP := Lib.hid (SB.put3 zz 0 (.slice none 0 0) false)
      have HBN := Lib.hid (hbz.trans (below_of_grown HP.out.2 (Nat.le_refl _) (by have := hbz.size; omega)))
      gi_wp2
      refine ⟨trivial, ?_⟩
      gi_wp2
      refine ⟨_, results_cell1 rfl _ _ w.heap.size _ _ _ _ rfl HP.out.1 Tryz.underlying48 rfl seg_size, ?_⟩
      exact ⟨0, _, [], false, 2, rfl, HL, ⟨World.ownsRow_nil _ _ _ _, fun p hp => by cases hp⟩, HBN.out⟩

    | cons q Lr =>
      obtain ⟨b, o, c, rfl, hq⟩ := strAt hcl 0 (by simp)
      have hcap : Lr.length + 1 ≤ c := hcapo _ _ _ rfl
      obtain ⟨qs, hqs, hqd, hqz⟩ := str_of q
      have hq1 : 1 ≤ q.length := (hmem q (by simp)).1
      have hq8 : q.length ≤ 8000 := (hmem q (by simp)).2
      simp only [List.getElem_cons_zero, Nat.add_zero] at hq
      rw [hqs] at hq
      have hqz1 : 1 ≤ qs.size := by omega
      have hqz8 : qs.size ≤ 8000 := by omega
      have HQD := Lib.hid hqd
      have HLS := Lib.hid hLs
      have HM := Lib.hid hmem
      have HCN := Lib.hid hcnt
      have HCL := Lib.hid hcl
      have HP := Tryz.strings_HasPrefix qs ⟨#[115]⟩ w2
      rw [show Lib.hasPrefix qs.data.toList (⟨#[115]⟩ : ByteArray).data.toList = (q.head? == some 115) by rw [hqd]; exact s_head q] at HP
      have HPX := Lib.hid HP
      clear HP hLs hmem hcnt hcl hqs hqd hqz hq1 hq8
      cases hh : (q.head? == some 115) with
      | false =>
        rw [hh] at HPX
        have HL := Lib.hid (HLL.out.trans (load_shut HLS.out (by unfold Seg.opens; rw [hh]; rfl)))
        gi_wp2
        refine ⟨trivial, (callsIn_wide.2 HPX.out).mono ?_⟩
        rintro e w2' ⟨rfl, hw2⟩
        obtain rfl := hw2.symm
        have zz := z2
        have hbz := hb2
        have HP := Lib.hid (SB.put3 zz 0 (.slice none 0 0) false)
        have HBN := Lib.hid (hbz.trans (below_of_grown HP.out.2 (Nat.le_refl _) (by have := hbz.size; omega)))
        gi_wp2
        refine ⟨_, results_cell1 rfl _ _ w.heap.size _ _ _ _ rfl HP.out.1 Tryz.underlying48 rfl seg_size, ?_⟩
        exact ⟨0, _, [], false, 2, rfl, HL, ⟨World.ownsRow_nil _ _ _ _, fun p hp => by cases hp⟩, HBN.out⟩

      | true =>
        rw [hh] at HPX
        obtain ⟨Q, hQ⟩ : ∃ Q, qs.extract 1 qs.size = Q := ⟨_, rfl⟩
        have HQ := Lib.hid (show Q.data.toList = q.drop 1 by rw [← hQ, Lib.extract_to_end, HQD.out])
        have hQz : Q.size ≤ 8000 := by rw [← hQ, ByteArray.size_extract]; omega
        gi_wp2
        refine ⟨trivial, (callsIn_wide.2 HPX.out).mono ?_⟩
        rintro e w2' ⟨rfl, hw2⟩
        obtain rfl := hw2.symm
        gi_wp2
        refine ⟨trivial, (callsIn_wide.2 (numTake_any Q w2 (by omega))).mono ?_⟩
        rintro e w3 ⟨fs1, r1, c1, rfl, HT, b3⟩
        have z3 := z2.next b3
        have hb3 := Below.up hb2 (Nat.le_refl _) b3
        have hcl3 := Cells.next HCL.out b3
        have HO := Lib.hid (show Seg.opens q = ((c1 == 0) && r1.data.toList.isEmpty && decide (1 ≤ fs1) && decide (fs1 ≤ 274877906944)) by
          unfold Seg.opens; rw [hh, ← HQ.out, HT.out]; simp)
        have HF1 := Lib.hid (show (Num.take (q.drop 1)).1 = fs1 by rw [← HQ.out, HT.out])
        clear m0 m1 m2 g0 g1 g2 hq HPX hQ b3 HT
        obtain ⟨m0, m1, m2⟩ := z3.cells
        have g0 := z3.frozen 0
        have g1 := z3.frozen 1
        have g2 := z3.frozen 2
        have zz := z3
        have hbz := hb3
        by_cases hc1 : c1 = 0
        · subst hc1
          cases hre : r1.toList.isEmpty with
          | false =>
            have HL := Lib.hid (HLL.out.trans (load_shut HLS.out (by rw [HO.out, ← Lib.toList_data, hre]; simp)))
            have HP := Lib.hid (SB.put3 zz 0 (.slice none 0 0) false)
            have HBN := Lib.hid (hbz.trans (below_of_grown HP.out.2 (Nat.le_refl _) (by have := hbz.size; omega)))
            gi_wp2
            refine ⟨_, results_cell1 rfl _ _ w.heap.size _ _ _ _ rfl HP.out.1 Tryz.underlying48 rfl seg_size, ?_⟩
            exact ⟨0, _, [], false, 2, rfl, HL, ⟨World.ownsRow_nil _ _ _ _, fun p hp => by cases hp⟩, HBN.out⟩

          | true =>
            by_cases hf1 : fs1 < 1
            · have hf1i : (fs1 : Int) < 1 := by omega
              have HL := Lib.hid (HLL.out.trans (load_shut HLS.out (by rw [HO.out]; simp; omega)))
              have HP := Lib.hid (SB.put3 zz 0 (.slice none 0 0) false)
              have HBN := Lib.hid (hbz.trans (below_of_grown HP.out.2 (Nat.le_refl _) (by have := hbz.size; omega)))
              gi_wp2
              refine ⟨_, results_cell1 rfl _ _ w.heap.size _ _ _ _ rfl HP.out.1 Tryz.underlying48 rfl seg_size, ?_⟩
              exact ⟨0, _, [], false, 2, rfl, HL, ⟨World.ownsRow_nil _ _ _ _, fun p hp => by cases hp⟩, HBN.out⟩

            · by_cases hf2 : 274877906944 < fs1
              · have hf2i : (fs1 : Int) > 274877906944 := by omega
                have HL := Lib.hid (HLL.out.trans (load_shut HLS.out (by rw [HO.out]; simp; omega)))
                have HP := Lib.hid (SB.put3 zz 0 (.slice none 0 0) false)
                have HBN := Lib.hid (hbz.trans (below_of_grown HP.out.2 (Nat.le_refl _) (by have := hbz.size; omega)))
                gi_wp2
                refine ⟨_, results_cell1 rfl _ _ w.heap.size _ _ _ _ rfl HP.out.1 Tryz.underlying48 rfl seg_size, ?_⟩
                exact ⟨0, _, [], false, 2, rfl, HL, ⟨World.ownsRow_nil _ _ _ _, fun p hp => by cases hp⟩, HBN.out⟩

              · have HL := Lib.hid (HLL.out.trans (load_open HLS.out (by rw [HO.out, ← Lib.toList_data, hre]; simp; omega) HF1.out))
                clear HLL HO HF1 zz hbz
                by_cases hcone : c = 1
                · subst hcone
                  obtain rfl : Lr = [] := List.eq_nil_of_length_eq_zero (by omega)
                  have hclr := Lib.hid (cells_tail1 hcl3 (by omega))
                  have hm2 := Lib.hid (fun p (hp : p ∈ ([] : List (List UInt8))) => Nat.le_trans (HM.out p (List.mem_cons_of_mem _ hp)).2 (by omega : 8000 ≤ 1000000))
                  have hlr : 0 ≤ 200000 := by have := HCN.out; simp only [List.length_cons] at this; omega
                  have HE := Lib.hid (HA.out.next hb3).envW
                  have HEN := Lib.hid (segEntries_any (some ⟨b, o, none⟩) 0 (0) ((fs1 : Int) - 1) (w3.alloc (.cells #[.int .i64 (fs1 : Int), .slice none 0 0, .bool false] 48)))
                  clear hcl3
                  gi_wp2
                  refine ⟨trivial, (callsIn_wide.2 HEN.out).mono ?_⟩
                  rintro e w5 ⟨rfl, hw5⟩
                  have bO : SB w3.heap.size fs1 (.slice none 0 0) false w5 := by
                    rw [hw5]; exact SB.kept (SB.kept (show SB w3.heap.size (fs1 : Int) (.slice none 0 0) false _ from heap_alloc_new w3 _) (World.grownBy_alloc _ _ none) (by simp)) (World.grownBy_alloc _ _ none) (by simp)
                  have bL : Boxed w5 (w3.heap.size + 1) 58 (.slice (some ⟨b, o, none⟩) 0 (0)) := by
                    rw [hw5]
                    have := (Boxed.new (w3.alloc (.cells #[.int .i64 (fs1 : Int), .slice none 0 0, .bool false] 48)) 58 (.slice (some ⟨b, o, none⟩) 0 (0))).alloc (.cells #[.int .i64 ((fs1 : Int) - 1)] 3)
                    rwa [World.size_alloc] at this
                  have bP : Boxed w5 (w3.heap.size + 2) 3 (.int .i64 ((fs1 : Int) - 1)) := by
                    rw [hw5]
                    have := Boxed.new ((w3.alloc (.cells #[.int .i64 (fs1 : Int), .slice none 0 0, .bool false] 48)).alloc (.cells #[.slice (some ⟨b, o, none⟩) 0 (0)] 58)) 3 (.int .i64 ((fs1 : Int) - 1))
                    rwa [World.size_alloc, World.size_alloc] at this
                  have hb35 : Below w3.heap.size w3 w5 := by rw [hw5]; exact (((Below.refl _ w3).alloc (Nat.le_refl _) _).alloc (by simp) _).alloc (by simp; omega) _
                  have hs5 : w5.heap.size = w3.heap.size + 3 := by rw [hw5]; simp
                  have HI0 := Lib.hid (show LI w3.heap.size fs1 w3 [] w5 from ⟨⟨_, bO, World.ownsRow_nil _ _ _ _⟩, fun p hp => (by cases hp), hb35, by omega⟩)
                  have HSEQ := Lib.hid (entries_seq HE.out bL bP hs5 hb35 hclr.out hm2.out (by omega) (by omega : (0 : Int) ≤ (fs1 : Int) - 1) (by omega))
                  clear hw5 bO bL bP HEN
                  skip
                  gi_wp2
                  refine load_range (gf := 83) (lb := #[.pointer (some ⟨w3.heap.size + 1, 0, none⟩), .pointer (some ⟨w3.heap.size + 2, 0, none⟩)]) w3.heap.size fs1 w3 (Nat.le_refl _) _ _ rfl trivial (enters_of Tryz.func83 (by kernel_rfl) rfl) HSEQ.out hs5 rfl HI0.out ?assign ?body ?done (by first | omega | (simp only [List.length_nil]; omega))
                  case assign =>
                    rintro l ⟨⟨p, ep, ⟨st, ex, se, sq, es⟩⟩, v⟩ W K hgot hK
                    obtain ⟨ua, ul, uc, hv⟩ := slice_of_owns hgot.1
                    simp only at hv
                    subst hv
                    simp only [enVal, enObj] at hK ⊢
                    gi_wp2
                    exact hK
                  case body =>
                    rintro l pre ⟨⟨p, ep, ⟨st, ex, se, sq, es⟩⟩, v⟩ k X W ⟨h1, h1b, h2, h3, ⟨u, h4, h5, h6⟩, h7, h8, h9⟩ hpl
                    have HG8 := Lib.hid h8
                    obtain ⟨ua, ul, uc, hv⟩ := slice_of_owns h8.1
                    simp only at hv
                    subst hv
                    obtain ⟨va, vl, vc, rfl⟩ := slice_of_owns h5
                    simp only at h3
                    obtain ⟨k0, k1, k2, k3, k4, k5, k6⟩ := h3.cells
                    obtain ⟨m0, m1, m2⟩ := h4.cells
                    have g1 := h4.frozen 1
                    obtain ⟨i0, zz0, by0, hi, hz0, hz1, hz2, hz3, hz4⟩ := enT.info
                    simp only [enVal]
                    have HH3 := Lib.hid h3
                    clear h3 h8 HH3
                    gi_wp2_with (gi_at_builtin; refine wpListIn_append_own _ rfl _ _ 26 rfl (w3.heap.size + 3) 38 i0 zz0 7 by0 Tryz.underlying26 hi hz0 hz1 hz2 hz3 (by decide) (.slice va vl vc) _ _ rfl (h5.alloc _) ⟨W.heap.size, 0, none⟩ 1 1 [.int .i64 p, .int .i64 ep, .string ⟨st.toArray⟩, .int .i64 ex, .int .i64 se, .int .i64 sq, .slice ua ul uc] rfl rfl (cells_top W [.int .i64 p, .int .i64 ep, .string ⟨st.toArray⟩, .int .i64 ex, .int .i64 se, .int .i64 sq, .slice ua ul uc] _) (by simp [Value.oneCell']) (by unfold maxLen; omega) (Nat.le_trans (Nat.mul_le_mul_left _ hz4) (by omega)) (by simp; omega) ?_; intro v' w1 hown' hgrow _; obtain ⟨g', cap', rfl⟩ := ownsRow_succ hown'; have s1 := (h4.kept (World.grownBy_alloc W (.cells #[.int .i64 p, .int .i64 ep, .string ⟨st.toArray⟩, .int .i64 ex, .int .i64 se, .int .i64 sq, .slice ua ul uc] 38) none) (by simp)).kept hgrow (h4.not_row h5 (by decide)); have hf1 := s1.frozen 1; have hc1 := s1.cells.2.1)
                    exact body_end (x := ((⟨p, ep, ⟨st, ex, se, sq, es⟩⟩ : Evt.Entry), Value.slice ua ul uc)) h2 (by omega) h4 h5 h6 h7 HG8.out h9 (by rw [enCells_snoc]; exact hown') hgrow
                  case done =>
                    rintro D ys W hD hS ⟨⟨v, hv, hrow⟩, hgot, hB, hWs⟩ hK
                    obtain ⟨va, vl, vc, rfl⟩ := slice_of_owns hrow
                    have hw3 := hb3.size
                    have hzlt : w.heap.size < w3.heap.size := (Array.getElem?_eq_some_iff.1 z3).1
                    have zW : SB w.heap.size 0 (.slice none 0 0) false W := (hB.block _ hzlt).trans z3
                    have hyl : ys.length ≤ 200000 := by
                      have h1 := congrArg List.length hS
                      rw [List.length_map] at h1
                      have h2 := Seg.entF_len [] ((fs1 : Int) - 1) 0
                      omega
                    have hEW := HE.out.next hB
                    have HBY := Lib.hid (segBytes_any (fs1 : Int) (.slice va vl vc) ys W hEW (NewEnts.ents ⟨hrow, hgot⟩) (by omega))
                    have HS := Lib.hid hS
                    obtain ⟨x0, x1, x2⟩ := hv.cells
                    clear m0 m1 m2 hEW hS
                    gi_wp2
                    refine ⟨trivial, (callsIn_wide.2 HBY.out).mono ?_⟩
                    rintro e w6 ⟨Hb, Rb, rfl, hH, hRb, b6⟩
                    have s6 := hv.next b6
                    have z6 := zW.next b6
                    have hHs : Hb.size ≤ 15 := by rw [Lib.size_eq, hH.out]; exact Seg.bytesH_len _
                    have hRs : Rb.size ≤ 1000000000 := by
                      rw [Lib.size_eq, hRb.out]
                      have := Seg.bytesB_len (plainE ys)
                      have : (plainE ys).length = ys.length := by simp [plainE]
                      omega
                    obtain ⟨C, _, fC, _⟩ := str_of (Hb.data.toList ++ Rb.data.toList)
                    have a1 : ∀ w, (Op.stringOp .add Hb Rb).run Tryz.prog w = .ok (.string C) w := fun w => add_lists w _ _ _ (by omega) fC.symm
                    obtain ⟨cb, hcb⟩ : ∃ cb, (C.toList == s.toList) = cb := ⟨_, rfl⟩
                    have HC := Lib.hid (show (Seg.bytesH fs1 ++ Seg.bytesB (plainE ys) != s.data.toList) = !cb by
                      rw [← hcb, Lib.toList_data, Lib.toList_data, fC, hH.out, hRb.out]; rfl)
                    have s7 : SB w3.heap.size fs1 (.slice va vl vc) (!cb) (w6.setCell ⟨w3.heap.size, 2, none⟩ (.bool (!cb))) := setCell_at (i := 2) s6 _
                    have G7 := Lib.hid (grown_set w6 w3.heap.size 2 (.bool (!cb)))
                    have z7 := z6.kept G7.out (by simp; omega)
                    obtain ⟨y0, y1, y2⟩ := s6.cells
                    have f2 := s6.frozen 2
                    obtain ⟨t0, t1, t2⟩ := s7.cells
                    obtain ⟨q0, q1, q2⟩ := z7.cells
                    have h0z := z7.frozen 0
                    have h1z := z7.frozen 1
                    have h2z := z7.frozen 2
                    have HP := Lib.hid (SB.put3 z7 fs1 (.slice va vl vc) (!cb))
                    have hK6 := (b6.block D (Array.getElem?_eq_some_iff.1 hK).1).trans hK
                    have hD6 := (Array.getElem?_eq_some_iff.1 hK6).1
                    have HK8 := Lib.hid ((HP.out.2.block D (by have := G7.out.size; omega) (by simp; omega)).trans ((G7.out.block D hD6 (by simp; omega)).trans hK6))
                    have HNE := Lib.hid (done_end hrow hgot b6 hzlt G7.out HP.out.2 HK8.out)
                    have HBE := Lib.hid (done_below (D := D) hb3 rfl hB b6 G7.out HP.out.2 (by omega))
                    have HFIN := Lib.hid (show Seg.loadD n fs = (⟨fs1, plainE ys, !cb⟩, 0) by
                      rw [HL.out, ← HS.out, Seg.loaded]
                      show ((⟨fs1, plainE ys, Seg.bytesH fs1 ++ Seg.bytesB (plainE ys) != s.data.toList⟩ : Seg.Seg), 0) = _
                      rw [HC.out])
                    clear HBY zW s7 z7 s6 z6 hK6
                    gi_wp2
                    refine ⟨by simp, .inl ⟨_, _, rfl, run_takeDeferred HK8.out, ?_⟩⟩
                    refine ⟨_, results_cell1 rfl _ _ w.heap.size _ _ _ _ rfl ((World.putObj_heap_other (by omega)).trans HP.out.1) Tryz.underlying48 rfl seg_size, ?_⟩
                    exact ⟨fs1, _, ys, !cb, 0, rfl, HFIN, Lib.hid (HNE.out _), HBE.out _⟩
                · have hcm : ¬ c - 1 = 0 := by omega
                  have hclr := Lib.hid (cells_tail hcl3)
                  have hm2 := Lib.hid (fun p (hp : p ∈ Lr) => Nat.le_trans (HM.out p (List.mem_cons_of_mem _ hp)).2 (by omega : 8000 ≤ 1000000))
                  have hlr : Lr.length ≤ 200000 := by have := HCN.out; simp only [List.length_cons] at this; omega
                  have HE := Lib.hid (HA.out.next hb3).envW
                  have HEN := Lib.hid (segEntries_any (some ⟨b, o + 1, none⟩) Lr.length (c - 1) ((fs1 : Int) - 1) (w3.alloc (.cells #[.int .i64 (fs1 : Int), .slice none 0 0, .bool false] 48)))
                  clear hcl3
                  gi_wp2
                  refine ⟨trivial, (callsIn_wide.2 HEN.out).mono ?_⟩
                  rintro e w5 ⟨rfl, hw5⟩
                  have bO : SB w3.heap.size fs1 (.slice none 0 0) false w5 := by
                    rw [hw5]; exact SB.kept (SB.kept (show SB w3.heap.size (fs1 : Int) (.slice none 0 0) false _ from heap_alloc_new w3 _) (World.grownBy_alloc _ _ none) (by simp)) (World.grownBy_alloc _ _ none) (by simp)
                  have bL : Boxed w5 (w3.heap.size + 1) 58 (.slice (some ⟨b, o + 1, none⟩) Lr.length (c - 1)) := by
                    rw [hw5]
                    have := (Boxed.new (w3.alloc (.cells #[.int .i64 (fs1 : Int), .slice none 0 0, .bool false] 48)) 58 (.slice (some ⟨b, o + 1, none⟩) Lr.length (c - 1))).alloc (.cells #[.int .i64 ((fs1 : Int) - 1)] 3)
                    rwa [World.size_alloc] at this
                  have bP : Boxed w5 (w3.heap.size + 2) 3 (.int .i64 ((fs1 : Int) - 1)) := by
                    rw [hw5]
                    have := Boxed.new ((w3.alloc (.cells #[.int .i64 (fs1 : Int), .slice none 0 0, .bool false] 48)).alloc (.cells #[.slice (some ⟨b, o + 1, none⟩) Lr.length (c - 1)] 58)) 3 (.int .i64 ((fs1 : Int) - 1))
                    rwa [World.size_alloc, World.size_alloc] at this
                  have hb35 : Below w3.heap.size w3 w5 := by rw [hw5]; exact (((Below.refl _ w3).alloc (Nat.le_refl _) _).alloc (by simp) _).alloc (by simp; omega) _
                  have hs5 : w5.heap.size = w3.heap.size + 3 := by rw [hw5]; simp
                  have HI0 := Lib.hid (show LI w3.heap.size fs1 w3 [] w5 from ⟨⟨_, bO, World.ownsRow_nil _ _ _ _⟩, fun p hp => (by cases hp), hb35, by omega⟩)
                  have HSEQ := Lib.hid (entries_seq HE.out bL bP hs5 hb35 hclr.out hm2.out (by omega) (by omega : (0 : Int) ≤ (fs1 : Int) - 1) (by omega))
                  clear hw5 bO bL bP HEN
                  gi_wp2
                  refine load_range (gf := 83) (lb := #[.pointer (some ⟨w3.heap.size + 1, 0, none⟩), .pointer (some ⟨w3.heap.size + 2, 0, none⟩)]) w3.heap.size fs1 w3 (Nat.le_refl _) _ _ rfl trivial (enters_of Tryz.func83 (by kernel_rfl) rfl) HSEQ.out hs5 rfl HI0.out ?assign ?body ?done (by first | omega | (simp only [List.length_nil]; omega))
                  case assign =>
                    rintro l ⟨⟨p, ep, ⟨st, ex, se, sq, es⟩⟩, v⟩ W K hgot hK
                    obtain ⟨ua, ul, uc, hv⟩ := slice_of_owns hgot.1
                    simp only at hv
                    subst hv
                    simp only [enVal, enObj] at hK ⊢
                    gi_wp2
                    exact hK
                  case body =>
                    rintro l pre ⟨⟨p, ep, ⟨st, ex, se, sq, es⟩⟩, v⟩ k X W ⟨h1, h1b, h2, h3, ⟨u, h4, h5, h6⟩, h7, h8, h9⟩ hpl
                    have HG8 := Lib.hid h8
                    obtain ⟨ua, ul, uc, hv⟩ := slice_of_owns h8.1
                    simp only at hv
                    subst hv
                    obtain ⟨va, vl, vc, rfl⟩ := slice_of_owns h5
                    simp only at h3
                    obtain ⟨k0, k1, k2, k3, k4, k5, k6⟩ := h3.cells
                    obtain ⟨m0, m1, m2⟩ := h4.cells
                    have g1 := h4.frozen 1
                    obtain ⟨i0, zz0, by0, hi, hz0, hz1, hz2, hz3, hz4⟩ := enT.info
                    simp only [enVal]
                    have HH3 := Lib.hid h3
                    clear h3 h8 HH3
                    gi_wp2_with (gi_at_builtin; refine wpListIn_append_own _ rfl _ _ 26 rfl (w3.heap.size + 3) 38 i0 zz0 7 by0 Tryz.underlying26 hi hz0 hz1 hz2 hz3 (by decide) (.slice va vl vc) _ _ rfl (h5.alloc _) ⟨W.heap.size, 0, none⟩ 1 1 [.int .i64 p, .int .i64 ep, .string ⟨st.toArray⟩, .int .i64 ex, .int .i64 se, .int .i64 sq, .slice ua ul uc] rfl rfl (cells_top W [.int .i64 p, .int .i64 ep, .string ⟨st.toArray⟩, .int .i64 ex, .int .i64 se, .int .i64 sq, .slice ua ul uc] _) (by simp [Value.oneCell']) (by unfold maxLen; omega) (Nat.le_trans (Nat.mul_le_mul_left _ hz4) (by omega)) (by simp; omega) ?_; intro v' w1 hown' hgrow _; obtain ⟨g', cap', rfl⟩ := ownsRow_succ hown'; have s1 := (h4.kept (World.grownBy_alloc W (.cells #[.int .i64 p, .int .i64 ep, .string ⟨st.toArray⟩, .int .i64 ex, .int .i64 se, .int .i64 sq, .slice ua ul uc] 38) none) (by simp)).kept hgrow (h4.not_row h5 (by decide)); have hf1 := s1.frozen 1; have hc1 := s1.cells.2.1)
                    exact body_end (x := ((⟨p, ep, ⟨st, ex, se, sq, es⟩⟩ : Evt.Entry), Value.slice ua ul uc)) h2 (by omega) h4 h5 h6 h7 HG8.out h9 (by rw [enCells_snoc]; exact hown') hgrow
                  case done =>
                    rintro D ys W hD hS ⟨⟨v, hv, hrow⟩, hgot, hB, hWs⟩ hK
                    obtain ⟨va, vl, vc, rfl⟩ := slice_of_owns hrow
                    have hw3 := hb3.size
                    have hzlt : w.heap.size < w3.heap.size := (Array.getElem?_eq_some_iff.1 z3).1
                    have zW : SB w.heap.size 0 (.slice none 0 0) false W := (hB.block _ hzlt).trans z3
                    have hyl : ys.length ≤ 200000 := by
                      have h1 := congrArg List.length hS
                      rw [List.length_map] at h1
                      have h2 := Seg.entF_len Lr ((fs1 : Int) - 1) 0
                      omega
                    have hEW := HE.out.next hB
                    have HBY := Lib.hid (segBytes_any (fs1 : Int) (.slice va vl vc) ys W hEW (NewEnts.ents ⟨hrow, hgot⟩) (by omega))
                    have HS := Lib.hid hS
                    obtain ⟨x0, x1, x2⟩ := hv.cells
                    clear m0 m1 m2 hEW hS
                    gi_wp2
                    refine ⟨trivial, (callsIn_wide.2 HBY.out).mono ?_⟩
                    rintro e w6 ⟨Hb, Rb, rfl, hH, hRb, b6⟩
                    have s6 := hv.next b6
                    have z6 := zW.next b6
                    have hHs : Hb.size ≤ 15 := by rw [Lib.size_eq, hH.out]; exact Seg.bytesH_len _
                    have hRs : Rb.size ≤ 1000000000 := by
                      rw [Lib.size_eq, hRb.out]
                      have := Seg.bytesB_len (plainE ys)
                      have : (plainE ys).length = ys.length := by simp [plainE]
                      omega
                    obtain ⟨C, _, fC, _⟩ := str_of (Hb.data.toList ++ Rb.data.toList)
                    have a1 : ∀ w, (Op.stringOp .add Hb Rb).run Tryz.prog w = .ok (.string C) w := fun w => add_lists w _ _ _ (by omega) fC.symm
                    obtain ⟨cb, hcb⟩ : ∃ cb, (C.toList == s.toList) = cb := ⟨_, rfl⟩
                    have HC := Lib.hid (show (Seg.bytesH fs1 ++ Seg.bytesB (plainE ys) != s.data.toList) = !cb by
                      rw [← hcb, Lib.toList_data, Lib.toList_data, fC, hH.out, hRb.out]; rfl)
                    have s7 : SB w3.heap.size fs1 (.slice va vl vc) (!cb) (w6.setCell ⟨w3.heap.size, 2, none⟩ (.bool (!cb))) := setCell_at (i := 2) s6 _
                    have G7 := Lib.hid (grown_set w6 w3.heap.size 2 (.bool (!cb)))
                    have z7 := z6.kept G7.out (by simp; omega)
                    obtain ⟨y0, y1, y2⟩ := s6.cells
                    have f2 := s6.frozen 2
                    obtain ⟨t0, t1, t2⟩ := s7.cells
                    obtain ⟨q0, q1, q2⟩ := z7.cells
                    have h0z := z7.frozen 0
                    have h1z := z7.frozen 1
                    have h2z := z7.frozen 2
                    have HP := Lib.hid (SB.put3 z7 fs1 (.slice va vl vc) (!cb))
                    have hK6 := (b6.block D (Array.getElem?_eq_some_iff.1 hK).1).trans hK
                    have hD6 := (Array.getElem?_eq_some_iff.1 hK6).1
                    have HK8 := Lib.hid ((HP.out.2.block D (by have := G7.out.size; omega) (by simp; omega)).trans ((G7.out.block D hD6 (by simp; omega)).trans hK6))
                    have HNE := Lib.hid (done_end hrow hgot b6 hzlt G7.out HP.out.2 HK8.out)
                    have HBE := Lib.hid (done_below (D := D) hb3 rfl hB b6 G7.out HP.out.2 (by omega))
                    have HFIN := Lib.hid (show Seg.loadD n fs = (⟨fs1, plainE ys, !cb⟩, 0) by
                      rw [HL.out, ← HS.out, Seg.loaded]
                      show ((⟨fs1, plainE ys, Seg.bytesH fs1 ++ Seg.bytesB (plainE ys) != s.data.toList⟩ : Seg.Seg), 0) = _
                      rw [HC.out])
                    clear HBY zW s7 z7 s6 z6 hK6
                    gi_wp2
                    refine ⟨by simp, .inl ⟨_, _, rfl, run_takeDeferred HK8.out, ?_⟩⟩
                    refine ⟨_, results_cell1 rfl _ _ w.heap.size _ _ _ _ rfl ((World.putObj_heap_other (by omega)).trans HP.out.1) Tryz.underlying48 rfl seg_size, ?_⟩
                    exact ⟨fs1, _, ys, !cb, 0, rfl, HFIN, Lib.hid (HNE.out _), HBE.out _⟩
        · have hcb1 : ((c1 : Int) != 0) = true := by rw [bne_iff_ne]; omega
          have HL := Lib.hid (HLL.out.trans (load_shut HLS.out (by rw [HO.out]; simp [hc1])))
          have HP := Lib.hid (SB.put3 zz 0 (.slice none 0 0) false)
          have HBN := Lib.hid (hbz.trans (below_of_grown HP.out.2 (Nat.le_refl _) (by have := hbz.size; omega)))
          gi_wp2
          refine ⟨_, results_cell1 rfl _ _ w.heap.size _ _ _ _ rfl HP.out.1 Tryz.underlying48 rfl seg_size, ?_⟩
          exact ⟨0, _, [], false, 2, rfl, HL, ⟨World.ownsRow_nil _ _ _ _, fun p hp => by cases hp⟩, HBN.out⟩

  · have hcb : ((c0 : Int) != 0) = true := by rw [bne_iff_ne]; omega
    have HL := Lib.hid (HLD.out.trans (if_neg hc0))
    have zz := z1
    have hbz := hb1
    have HP := Lib.hid (SB.put3 zz 0 (.slice none 0 0) false)
    have HBN := Lib.hid (hbz.trans (below_of_grown HP.out.2 (Nat.le_refl _) (by have := hbz.size; omega)))
    gi_wp2
    refine ⟨_, results_cell1 rfl _ _ w.heap.size _ _ _ _ rfl HP.out.1 Tryz.underlying48 rfl seg_size, ?_⟩
    exact ⟨0, _, [], false, 6, rfl, HL, ⟨World.ownsRow_nil _ _ _ _, fun p hp => by cases hp⟩, HBN.out⟩

end Go.Proofs.YthmblkckpdpjkaaGreatDoor
