/-
  The walks of segment.entries and of its iterator.
-/
import Derived.Test.YthmblkckpdpjkaaGreatDoorRange
import Derived.Test.YthmblkckpdpjkaaGreatDoorCreate
namespace Go.Proofs.YthmblkckpdpjkaaGreatDoor
open Go.RowKit Go.Shelf

attribute [local go_sem] Oper.semAt_some

abbrev EnX := Evt.Entry × Value
def enVal (x : EnX) : Value := .agg #[.int .i64 x.1.pos, .int .i64 x.1.epoch, .string ⟨x.1.b.stream.toArray⟩, .int .i64 x.1.b.expect, .int .i64 x.1.b.session, .int .i64 x.1.b.seq, x.2]
def Got (base : Nat) (x : EnX) (_ W : World) : Prop := W.ownsRow base 77 2 x.2 x.1.b.events.length (evCells x.1.b.events) ∧ Fine x.1 ∧ x.1.b.events.length ≤ 8
/-- Blocks below G lie as they lay, those between it and B, and those laid since X. -/
def KeepsBut (G B : Nat) (X W W' : World) : Prop := Below G W W' ∧ (∀ k, G < k → k < B → W'.heap[k]? = W.heap[k]?) ∧ ∀ k, X.heap.size ≤ k → k < W.heap.size → W'.heap[k]? = W.heap[k]?
theorem KeepsBut.trans {G B : Nat} {O X Y Z : World} (h : KeepsBut G B O X Y) (k : KeepsBut G B O Y Z) : KeepsBut G B O X Z :=
  ⟨h.1.trans k.1, fun j h1 h2 => (k.2.1 j h1 h2).trans (h.2.1 j h1 h2), fun j h1 h2 => (k.2.2 j h1 (Nat.lt_of_lt_of_le h2 h.1.size)).trans (h.2.2 j h1 h2)⟩
theorem entF_stop {pos epoch : Int} {s : List UInt8} {l : List (List UInt8)} (h : Seg.goes pos epoch s = false) : Seg.entF pos epoch (s :: l) = [] := by
  rw [Seg.entF, if_neg (by rw [h]; simp)]
theorem entF_go {pos epoch : Int} {s : List UInt8} {l : List (List UInt8)} {e : Evt.Entry} (h : Seg.goes pos epoch s = true) (he : (Evt.take (s.drop 1)).1 = e) : Seg.entF pos epoch (s :: l) = e :: Seg.entF e.pos e.epoch l := by
  rw [Seg.entF, if_pos h, he]
theorem trim_head (s : List UInt8) (h : (s.head? == some 101) = true) : Lib.hasPrefix s [101] = true ∧ Lib.trimPrefix s [101] = s.drop 1 := by
  have hp : Lib.hasPrefix s [101] = true := by
    cases s with
    | nil => simp at h
    | cons c r => simp at h; subst h; simp [Lib.hasPrefix, List.isPrefixOf]
  exact ⟨hp, by rw [Lib.trimPrefix, if_pos hp]; rfl⟩
theorem trim_not (s : List UInt8) (h : (s.head? == some 101) = false) : Lib.hasPrefix s [101] = false ∧ Lib.trimPrefix s [101] = s := by
  have hp : Lib.hasPrefix s [101] = false := by
    cases s with
    | nil => rfl
    | cons c r =>
      simp at h
      simp [Lib.hasPrefix, List.isPrefixOf]
      exact fun e => h e.symm
  exact ⟨hp, by rw [Lib.trimPrefix, if_neg (by rw [hp]; simp)]⟩

theorem goes_of (q t : List UInt8) (hs : Bool) (pos epoch : Int) {e : Evt.Entry} {r : List UInt8} {c : Nat} (ht : Lib.trimPrefix q [101] = t) (hh : Lib.hasPrefix q [101] = hs) (hk : Evt.take t = (e, r, c)) :
    Seg.goes pos epoch q = (hs && (c == 0) && r.isEmpty && (e.pos == pos + 1) && decide (epoch ≤ e.epoch)) := by
  unfold Seg.goes
  cases h : (q.head? == some 101) with
  | false =>
    have := trim_not q h
    rw [this.1] at hh
    subst hh; simp
  | true =>
    have := trim_head q h
    rw [this.1] at hh
    rw [this.2] at ht
    subst hh
    rw [ht, hk]
theorem goes_entry (q t : List UInt8) (hs : Bool) {e : Evt.Entry} {r : List UInt8} {c : Nat} (ht : Lib.trimPrefix q [101] = t) (hh : Lib.hasPrefix q [101] = hs) (hk : Evt.take t = (e, r, c)) (h : hs = true) : (Evt.take (q.drop 1)).1 = e := by
  subst h
  cases hq : (q.head? == some 101) with
  | false => have := (trim_not q hq).1; rw [hh] at this; cases this
  | true => rw [(trim_head q hq).2] at ht; rw [ht, hk]

set_option maxRecDepth 100000 in
set_option maxHeartbeats 4000000 in
theorem entries1_in (n : Nat) (hn : 1 ≤ n) (l G B Bl Bp base : Nat) (L : List (List UInt8)) (pos0 : Int) (a : World) (ha : Env a) (haG : a.heap.size ≤ G) (b o c : Nat) (W : World)
    (hp0 : 0 ≤ pos0) (hp1 : pos0 ≤ 274877906944) (hb : Below a.heap.size a W) (hB : B ≤ W.heap.size) (hBp : G < Bp) (hBp2 : Bp < B) (hbase : base ≤ W.heap.size)
    (boxL : Boxed W Bl 58 (.slice (some ⟨b, o, none⟩) L.length c)) (boxP : Boxed W Bp 3 (.int .i64 pos0)) (hcl : Cells a (.slice (some ⟨b, o, none⟩) L.length c) 1 L.length (strCells L)) (hL : ∀ p ∈ L, p.length ≤ 1000000) (hLn : L.length ≤ 1000000000)
    (J : List EnX → World → Prop) (hJ : ∀ s X Y, J s X → X.grownBy Y (some Bp) → J s Y)
    (hY : ∀ pre x W0 W1, J pre W0 → pre.length < L.length → Below W0.heap.size W0 W1 → Got base x W0 W1 → YieldAt Fence.wide (n - 1) Tryz.prog l #[enVal x] W1 fun e W' => e = .returned (.bool true) ∧ J (pre ++ [x]) W' ∧ KeepsBut G B W0 W1 W')
    (h0 : J [] W) :
    CallsIn Fence.wide n Tryz.prog 83 #[.func (.yield l) #[] #[], .pointer (some ⟨Bl, 0, none⟩), .pointer (some ⟨Bp, 0, none⟩)] W fun e W' => (∃ v, e = .returned v) ∧ ∃ xs : List EnX, xs.map (·.1) = Seg.entF pos0 0 L ∧ J xs W' := by
  refine callsIn_of_wp Tryz.func83 rfl trivial ?_ rfl
  simp only [Tryz.ntmps83, List.size_toArray, List.length_cons, List.length_nil, Nat.reduceAdd, Nat.reduceSub, Array.replicate_succ, Array.replicate_zero, List.push_toArray, List.append_toArray, List.nil_append, List.cons_append]
  have hcb := boxL.cell
  have hszW := hB
  gi_wp2
  gi_loopw [4, 14] (fun ev lv wr => ∃ (i : Nat) (pos epoch : Int) (pre : List EnX), ev = .int .i64 epoch ∧ lv = .int .i64 i ∧ i ≤ L.length ∧ J pre wr ∧ pre.length ≤ i ∧ Below a.heap.size a wr ∧ Boxed wr Bp 3 (.int .i64 pos) ∧ W.heap.size ≤ wr.heap.size ∧ 0 ≤ pos ∧ pos ≤ 1099511627776 ∧
      pre.map (·.1) ++ Seg.entF pos epoch (L.drop i) = Seg.entF pos0 0 L) (fun _ lv _ => L.length - (intOf lv).toNat)
  case atStart => exact ⟨0, pos0, 0, [], rfl, rfl, by omega, h0, by simp, hb, boxP, by omega, hp0, by omega, rfl⟩
  case round =>
    obtain ⟨i, pos, epoch, pre, rfl, rfl, hi, hJs, hpl, hbw, hbp, hsz, hq1, hq2, hF⟩ := hrel
    have HF := Lib.hid hF
    clear hF
    by_cases hp : i < L.length
    · obtain ⟨b', o', c', hv, hcell⟩ := strAt hcl i hp
      cases hv
      have hcell := cell_kept hbw (Nat.le_refl _) hcell
      have hq : L[i].length ≤ 1000000 := hL _ (List.getElem_mem hp)
      have HD := Lib.hid (List.drop_eq_getElem_cons hp)
      obtain ⟨q, hqe⟩ : ∃ q, L[i] = q := ⟨_, rfl⟩
      rw [hqe] at hcell hq HD
      clear hqe
      obtain ⟨t, ht⟩ : ∃ t, Lib.trimPrefix q [101] = t := ⟨_, rfl⟩
      obtain ⟨hs, hhs⟩ : ∃ hs, Lib.hasPrefix q [101] = hs := ⟨_, rfl⟩
      have htl : t.length ≤ 1000000 := by
        rw [← ht, Lib.trimPrefix]; split
        · rw [List.length_drop]; omega
        · exact hq
      have HT := Lib.hid ht; have HS := Lib.hid hhs
      have HC := Tryz.strings_CutPrefix ⟨q.toArray⟩ ⟨#[101]⟩ wr
      rw [show Lib.trimPrefix (⟨q.toArray⟩ : ByteArray).data.toList (⟨#[101]⟩ : ByteArray).data.toList = t from ht, show Lib.hasPrefix (⟨q.toArray⟩ : ByteArray).data.toList (⟨#[101]⟩ : ByteArray).data.toList = hs from hhs] at HC
      have HC := Lib.hid HC
      have hEr := ha.next hbw
      have HR := Lib.hid (recTake_any ⟨t.toArray⟩ wr hEr (by rw [Lib.size_eq]; exact htl))
      clear ht hhs
      gi_wp2
      refine ⟨trivial, (callsIn_wide.2 HC.out).mono ?_⟩
      rintro e w1 ⟨rfl, hw1⟩
      obtain rfl := hw1.symm
      gi_wp2
      refine ⟨trivial, (callsIn_wide.2 HR.out).mono ?_⟩
      rintro e w2 ⟨p, ep, S, ex, se, sq, v, es, r, cd, rfl, HK, own, hSs, hsm, hes, hrs, b2⟩
      obtain ⟨sa, sl, sc, rfl⟩ := slice_of_owns own
      have HG0 := Lib.hid (goes_of q t hs pos epoch HT.out HS.out HK.out)
      have HG1 := Lib.hid (fun (h : hs = true) => (goes_entry q t hs HT.out HS.out HK.out h))
      obtain ⟨W3, hW3⟩ : ∃ W3, w2.alloc (.cells #[.int .i64 p, .int .i64 ep, .string S, .int .i64 ex, .int .i64 se, .int .i64 sq, .slice sa sl sc] 38) = W3 := ⟨_, rfl⟩
      have ew : EB w2.heap.size p ep S ex se sq (.slice sa sl sc) W3 := by rw [← hW3]; exact heap_alloc_new w2 _
      have b3 : Below wr.heap.size wr W3 := by rw [← hW3]; exact b2.alloc b2.size _
      have own3 : W3.ownsRow wr.heap.size 77 2 (.slice sa sl sc) es.length (evCells es) := by rw [← hW3]; exact own.alloc _
      have hs3 : w2.heap.size < W3.heap.size := by rw [← hW3]; simp
      have hJ3 : J pre W3 := hJ _ _ _ hJs (grown_some (grown_of_below b3))
      have hb3 : Below a.heap.size a W3 := Below.up hbw (Nat.le_refl _) b3
      have hbp3 : Boxed W3 Bp 3 (.int .i64 pos) := hbp.kept (grown_of_below b3) (by simp)
      have hpp := hbp3.cell
      obtain ⟨k0, k1, k2, k3, k4, k5, k6⟩ := ew.cells
      have hsz3 : w2.heap.size ≤ W3.heap.size := by omega
      have b2s := b2.size
      have hw1 : wrap64 (pos + 1) = pos + 1 := IntWalk.wrap64_in _ (by omega)
      have HJ := Lib.hid hJ3
      have HEB := Lib.hid ew
      have HOWN := Lib.hid own3
      have HB3 := Lib.hid b3
      clear HR HC own hJ3 own3 b2 b3
      cases hs with
      | false =>
        have FN := Lib.hid (show pre.map (·.1) = Seg.entF pos0 0 L by
          have h := HF.out
          rw [HD.out, entF_stop (by rw [HG0.out]; rfl), List.append_nil] at h
          exact h)
        gi_wp2
        refine ⟨fun _ h => (by cases h), ?_⟩
        gi_wp2
        refine bodyPost_ret (results_none rfl _ _ _) rfl ?_
        exact ⟨⟨_, rfl⟩, pre, FN.out, HJ.out⟩
      | true =>
        have he := HG1.out rfl
        by_cases hc0 : cd = 0
        · subst hc0
          cases hre : r.toList.isEmpty with
          | false =>
            have FN := Lib.hid (show pre.map (·.1) = Seg.entF pos0 0 L by
              have h := HF.out
              rw [HD.out, entF_stop (by rw [HG0.out, ← Lib.toList_data, hre]; simp), List.append_nil] at h
              exact h)
            clear he
            gi_wp2
            refine ⟨fun _ h => (by cases h), ?_⟩
            gi_wp2
            refine bodyPost_ret (results_none rfl _ _ _) rfl ?_
            exact ⟨⟨_, rfl⟩, pre, FN.out, HJ.out⟩

          | true =>
            by_cases hpe : p = pos + 1
            · subst hpe
              by_cases hep : ep < epoch
              · have FN := Lib.hid (show pre.map (·.1) = Seg.entF pos0 0 L by
                  have h := HF.out
                  rw [HD.out, entF_stop (by rw [HG0.out]; simp; omega), List.append_nil] at h
                  exact h)
                clear he
                gi_wp2
                refine ⟨fun _ h => (by cases h), ?_⟩
                gi_wp2
                refine bodyPost_ret (results_none rfl _ _ _) rfl ?_
                exact ⟨⟨_, rfl⟩, pre, FN.out, HJ.out⟩

              · have FG := Lib.hid (show Seg.entF pos epoch (L.drop i) = (⟨pos + 1, ep, ⟨S.data.toList, ex, se, sq, es⟩⟩ : Evt.Entry) :: Seg.entF (pos + 1) ep (L.drop (i + 1)) by
                  rw [HD.out]
                  exact entF_go (by rw [HG0.out, ← Lib.toList_data, hre]; simp; omega) he)
                clear he
                have hx : enVal ((⟨pos + 1, ep, ⟨S.data.toList, ex, se, sq, es⟩⟩ : Evt.Entry), .slice sa sl sc) = .agg #[.int .i64 (pos + 1), .int .i64 ep, .string S, .int .i64 ex, .int .i64 se, .int .i64 sq, .slice sa sl sc] := by simp [enVal]
                obtain ⟨fn, tmps, assign, bodyc, hy, hR⟩ := hY pre ((⟨pos + 1, ep, ⟨S.data.toList, ex, se, sq, es⟩⟩ : Evt.Entry), .slice sa sl sc) wr W3 hJs (by omega) HB3.out ⟨ownsRow_low HOWN.out (by omega), ⟨by rw [← Lib.size_eq]; exact hSs, hsm, Nat.le_trans hes (by omega)⟩, hes⟩
                rw [hx] at hy
                have HRR := Lib.hid hR
                have hrt : Evt.rightN ⟨pos + 1, ep, ⟨S.data.toList, ex, se, sq, es⟩⟩ = true := by
                  have := Evt.take_right t (by rw [HK.out])
                  rw [HK.out] at this; exact this
                have hpr := (Evt.number_iff (pos + 1)).1 (Evt.rightN_iff.1 hrt).1
                clear hrt
                clear hR
                gi_wp2
                refine HRR.out.mono ?_
                rintro e W4 ⟨rfl, hJ4, hk4⟩
                have ew4 : EB w2.heap.size (pos + 1) ep S ex se sq (.slice sa sl sc) W4 := (hk4.2.2 _ (by omega) (by omega)).trans HEB.out
                obtain ⟨j0, j1, j2, j3, j4, j5, j6⟩ := ew4.cells
                have hbp4 : Boxed W4 Bp 3 (.int .i64 pos) := (hk4.2.1 Bp hBp hBp2).trans hbp3
                have hc4 := hbp4.cell
                have hf4 := hbp4.frozen
                have hb4 : Below a.heap.size a W4 := hb3.trans (hk4.1.mono haG)
                have hs4 := hk4.1.size
                have hJn := hJ _ _ (W4.setCell ⟨Bp, 0, none⟩ (.int .i64 (pos + 1))) hJ4 (grownBy_setCell' W4 Bp _)
                have hneE : Bp ≠ w2.heap.size := by omega
                have hneE2 : w2.heap.size ≠ Bp := by omega
                have j1s : (W4.setCell ⟨Bp, 0, none⟩ (.int .i64 (pos + 1))).cell? ⟨w2.heap.size, 1, none⟩ = some (.int .i64 ep) := (grownBy_setCell' W4 Bp (.int .i64 (pos + 1))).cell j1 (by simp; omega)
                gi_wp2
                gi_region
                have hJ5 := hJ _ _ (W4.setCell ⟨Bp, 0, none⟩ (.int .i64 (pos + 1))).drew hJn (grown_some (grown_of_below ((Below.refl _ _).drew)))
                have hb5 : Below a.heap.size a (W4.setCell ⟨Bp, 0, none⟩ (.int .i64 (pos + 1))).drew := (hb4.setCell (p := ⟨Bp, 0, none⟩) (by simp; omega) _).drew
                have hbp5 : Boxed (W4.setCell ⟨Bp, 0, none⟩ (.int .i64 (pos + 1))).drew Bp 3 (.int .i64 (pos + 1)) := hbp4.set _
                have hs5 : W.heap.size ≤ (W4.setCell ⟨Bp, 0, none⟩ (.int .i64 (pos + 1))).drew.heap.size := by simp; omega
                have FE := Lib.hid (show (pre ++ [((⟨pos + 1, ep, ⟨S.data.toList, ex, se, sq, es⟩⟩ : Evt.Entry), Value.slice sa sl sc)]).map (·.1) ++ Seg.entF (pos + 1) ep (L.drop (i + 1)) = Seg.entF pos0 0 L by
                  rw [← HF.out, FG.out]; simp)
                gi_wp2
                go_roundw
                case rel => exact ⟨i + 1, pos + 1, ep, _, rfl, by go_num, by omega, hJ5, by simp; omega, hb5, hbp5, hs5, by omega, by omega, FE.out⟩
                case measure => simp [intOf]; omega
            · have hpb : (p != pos + 1) = true := by rw [bne_iff_ne]; exact hpe
              have FN := Lib.hid (show pre.map (·.1) = Seg.entF pos0 0 L by
                have h := HF.out
                rw [HD.out, entF_stop (by rw [HG0.out]; simp [hpe]), List.append_nil] at h
                exact h)
              clear he
              gi_wp2
              refine ⟨fun _ h => (by cases h), ?_⟩
              gi_wp2
              refine bodyPost_ret (results_none rfl _ _ _) rfl ?_
              exact ⟨⟨_, rfl⟩, pre, FN.out, HJ.out⟩

        · have hcb0 : ((cd : Int) != 0) = true := by rw [bne_iff_ne]; omega
          have FN := Lib.hid (show pre.map (·.1) = Seg.entF pos0 0 L by
            have h := HF.out
            rw [HD.out, entF_stop (by rw [HG0.out]; simp [hc0]), List.append_nil] at h
            exact h)
          clear he
          gi_wp2
          refine ⟨fun _ h => (by cases h), ?_⟩
          gi_wp2
          refine bodyPost_ret (results_none rfl _ _ _) rfl ?_
          exact ⟨⟨_, rfl⟩, pre, FN.out, HJ.out⟩

    · have FN := Lib.hid (show pre.map (·.1) = Seg.entF pos0 0 L by
        have h := HF.out
        rw [List.drop_eq_nil_of_le (by omega), Seg.entF, List.append_nil] at h
        exact h)
      gi_wp2
      refine bodyPost_end (results_none rfl _ _ _) rfl ?_
      exact ⟨⟨_, rfl⟩, pre, FN.out, hJs⟩

theorem segEntries_any (sa : Option Addr) (sl sc : Nat) (pos : Int) (w : World) :
    Calls Tryz.prog 49 #[.slice sa sl sc, .int .i64 pos] w fun e w' => e = .returned (.func (.func 83) #[] #[.pointer (some ⟨w.heap.size, 0, none⟩), .pointer (some ⟨w.heap.size + 1, 0, none⟩)]) ∧ w' = (w.alloc (.cells #[.slice sa sl sc] 58)).alloc (.cells #[.int .i64 pos] 3) := by
  go_enter Tryz.func49, Tryz.ntmps49
  go_wp2
  go_ret
  exact ⟨rfl, rfl⟩
end Go.Proofs.YthmblkckpdpjkaaGreatDoor
