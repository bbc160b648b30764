/-
  The walk of the law LogRanges.
-/
import Derived.Test.YtbknlffebcbjfaaGreatDoorLawLTr
import Derived.Test.YtbknlffebcbjfaaGreatDoorLogY
namespace Go.Proofs.YtbknlffebcbjfaaGreatDoor
open Go.RowKit Go.Shelf

theorem fresh_apart {X : Nat → Prop} {w0 w : World} {lv : Value} {qs : List EnX} (hX : ∀ j, X j → j < w0.heap.size) (hE : Ents w lv qs) (h1 : ∀ b, lv.ownBlock = some b → w0.heap.size ≤ b) (h2 : ∀ p ∈ qs, ∀ b, p.2.ownBlock = some b → w0.heap.size ≤ b) : Apart X w lv qs :=
  ⟨hE, fun b hb _ hx => by have := hX b hx; have := h1 b hb; omega, fun p hp b hb _ hx => by have := hX b hx; have := h2 p hp b hb; omega⟩
theorem append_fresh {R : (Nat → Prop) → World → Prop} {a w0 w : World} {P lg d : Nat} {mv : Value} {room : Int} {s s' : Lg.S} {fs fs' : List Dk.File} {lv : Value} {qs : List EnX} {c : Nat} (h : LL R a P d mv room lg s fs w0) (hR : Stable R) (hb : Below w0.heap.size w0 w) (hE : Ents w lv qs) (h1 : ∀ b, lv.ownBlock = some b → w0.heap.size ≤ b) (h2 : ∀ p ∈ qs, ∀ b, p.2.ownBlock = some b → w0.heap.size ≤ b)
    (hroom : room ≤ 1048576) (hB : Lg.BK qs.length s) (hcap : CapOk lv) (hqn : qs.length ≤ 1000) (hr : Lg.appendF room (plainE qs) s fs = ((fs', s'), c)) :
    Calls Tryz.prog 23 #[.pointer (some ⟨lg, 0, none⟩), lv] w fun e w' => e = .returned (.int .i64 (c : Int)) ∧ LL R a P d mv room lg s' fs' w' := by
  obtain ⟨T, X, q1, q2, q3, q4⟩ := h
  have hX := q1.lt
  obtain ⟨ft, pv, ev, ps, hL⟩ := q1.next hb
  refine (logAppend_any hL hroom hB (fresh_apart hX hE h1 h2) hcap hqn hr).mono ?_
  rintro e w' ⟨rfl, hs⟩
  exact ⟨rfl, LL.of_step hR ⟨ft, pv, ev, ps, hL⟩ (q2.next hb) q3 (hR X X w0 w q4 (Turn.of_below hb) (fun j hj => .inl hj)) hs⟩
namespace Lg
/-- A log of right entries, one by one. -/
structure OneByOne (i : Nat) (ep next : Int) (nums : List Int) (L : List Evt.Entry) (fs : List Dk.File) : Prop where
  holds : Holds fs next nums L
  len : L.length = i
  plains : Plains L
  eps : ∀ e ∈ L, e.epoch ≤ ep
  ep1 : 1 ≤ ep
  ep2 : ep ≤ 1 + 2 * i
  nxt : next ≤ 1 + i
  many : nums.length ≤ (i + 7) / 8
  grown : Grown 1 [] next nums
  empty : L = [] → fs = []
theorem one_start : OneByOne 0 1 1 [] [] [] := ⟨held_nil, rfl, fun e he => (by cases he), fun e he => (by cases he), by omega, by omega, by omega, by simp, Grown.refl _ _, fun _ => rfl⟩
theorem OneByOne.more {i k : Nat} {ep next room : Int} {nums : List Int} {L : List Evt.Entry} {fs : List Dk.File} (h : OneByOne i ep next nums L fs) (hi : i < 60) (hk : k < 3) (hr : 20000 ≤ room) :
    ∃ f2 next2 nums2, appendF room [plainN ((i : Int) + 1) (ep + k)] (stateOf next nums L) fs = ((f2, stateOf next2 nums2 (L ++ [plainN ((i : Int) + 1) (ep + k)])), 0) ∧ OneByOne (i + 1) (ep + k) next2 nums2 (L ++ [plainN ((i : Int) + 1) (ep + k)]) f2 := by
  have hlen := h.len
  have e1 := h.ep1
  have e2 := h.ep2
  have hp : Plains (L ++ [plainN ((i : Int) + 1) (ep + k)]) := h.plains.append (fun e he => by rw [List.mem_singleton.1 he]; exact ⟨_, _, rfl⟩)
  have hb := hp.bytes
  have hll : (L ++ [plainN ((i : Int) + 1) (ep + k)]).length = i + 1 := by rw [List.length_append, hlen]; rfl
  rw [hll] at hb
  have hfo : Evt.follows (L ++ [plainN ((i : Int) + 1) (ep + k)]) 0 0 = true := by
    refine (follows_on h.holds.fol).2 (Seg.follows_cons.2 ⟨?_, ?_, plainN_right _ _ (by omega) (by omega) (by omega) (by omega), rfl⟩)
    · simp only [plainN]; omega
    · have := epochOf_le h.eps (by omega); simp only [plainN]; omega
  have hn := h.nxt
  obtain ⟨f2, next2, nums2, q1, q2, q3, q4⟩ := h.holds.append (room := room) [plainN ((i : Int) + 1) (ep + k)] hfo (by omega) (by simp; omega) (by omega)
  have hm := h.many
  rw [hll] at q4
  simp only [List.length_singleton] at q3
  refine ⟨f2, next2, nums2, q1, q2, hll, hp, fun e he => ?_, by omega, by omega, by omega, by omega, h.grown.trans (appendF_grown q1), fun e => by simp at e⟩
  rcases List.mem_append.1 he with he | he
  · have := h.eps e he; omega
  · rw [List.mem_singleton.1 he]; exact Int.le_refl _
theorem wrap_at {j i : Nat} (h : j + i < 60) : wrap64 ((j : Int) + 1 + (i : Int)) = ((j + i : Nat) : Int) + 1 := (IntWalk.wrap64_in _ (by omega)).trans (by omega)
theorem round_one {i n : Nat} (h : i < 60) (hn : i < n) : wrap64 ((i : Int) + 1) = (i : Int) + 1 ∧ i + 1 ≤ n ∧ n - (wrap64 ((i : Int) + 1)).toNat < n - ((i : Int)).toNat := ⟨IntWalk.wrap64_in _ (by omega), hn, by rw [IntWalk.wrap64_in ((i : Int) + 1) (by omega)]; omega⟩
theorem cast_one (i : Nat) : (i : Int) + 1 = ((i + 1 : Nat) : Int) := by omega
theorem rangeL_len (f m : Int) (L : List Evt.Entry) : (rangeL f m L).length = (rangeM f m L.length).toNat := by
  obtain ⟨h1, h2, h3, h4⟩ := range_facts f m L.length
  unfold rangeL
  rw [List.length_take, List.length_drop]; omega
theorem range_in {f m : Int} {L : List Evt.Entry} {i : Nat} (h : i < (rangeM f m L.length).toNat) : ∃ j : Nat, max f 1 = (j : Int) + 1 ∧ j + i < L.length ∧ (rangeA f L.length - 1).toNat = j ∧ (rangeL f m L)[i]? = L[j + i]? := by
  obtain ⟨h1, h2, h3, h4⟩ := range_facts f m L.length
  have hA : rangeA f L.length = max f 1 := by
    have : rangeA f L.length ≤ L.length := by omega
    unfold rangeA at this ⊢
    omega
  refine ⟨(rangeA f L.length - 1).toNat, by omega, by omega, rfl, ?_⟩
  unfold rangeL
  rw [List.getElem?_take_of_lt h, List.getElem?_drop]
theorem pos_at : ∀ {L : List Evt.Entry} {pos ep : Int} {q : Nat}, Evt.follows L pos ep = true → (h : q < L.length) → (L[q]'h).pos = pos + q + 1
  | e :: L, pos, ep, 0, hf, _ => by
    obtain ⟨h1, _⟩ := Seg.follows_cons.1 hf
    simp only [List.getElem_cons_zero]; omega
  | e :: L, pos, ep, q + 1, hf, h => by
    obtain ⟨h1, h2, h3, h4⟩ := Seg.follows_cons.1 hf
    have := pos_at (q := q) h4 (by simpa using h)
    simp only [List.getElem_cons_succ]
    omega
theorem told_here {L : List Evt.Entry} {q : Nat} {p ep : Int} (hf : Evt.follows L 0 0 = true) (h : q < L.length) (hx : L[q] = plainN p ep) : Mk.told ((q : Int) + 1) 0 (Mk.marks L) = ep := by
  have := Mk.marks_tell hf (q := (q : Int) + 1) (by omega) (by omega)
  rw [show ((q : Int) + 1 - 1).toNat = q by omega, List.getElem?_eq_getElem h, hx] at this
  simp only [Option.map_some, Option.some.injEq, plainN] at this
  exact this.symm
end Lg
theorem Mk.told_take (q n : Int) {ms : List (Int × Int)} {i : Nat} {x y : Int} (hi : i < ms.length) (hx : ms[i] = (x, y)) : Mk.told q n (ms.take (i + 1)) = if y ≤ q then x else Mk.told q n (ms.take i) := by
  rw [List.take_succ_eq_append_getElem hi, Mk.told_append, hx]
  rfl
theorem entOne (w : World) (p ep : Int) (g : Nat) (hk : KB g w) : Ents (w.alloc (.cells #[.int .i64 p, .int .i64 ep, .string ⟨#[115]⟩, .int .i64 0, .int .i64 1, .int .i64 1, .slice (some ⟨g, 0, none⟩) 1 1] 58)) (.slice (some ⟨w.heap.size, 0, none⟩) 1 1) [(Lg.plainN p ep, .slice (some ⟨g, 0, none⟩) 1 1)] :=
  ⟨entCells_new w (Lg.plainN p ep, .slice (some ⟨g, 0, none⟩) 1 1) 58, fun x hx => by
    rw [List.mem_singleton.1 hx]
    exact ⟨KB.evs (heap_kept ((Below.refl _ w).alloc (Nat.le_refl _) _) (Nat.le_refl _) hk), fine_plain p ep⟩⟩
theorem Lg.range_end (f m : Int) {n k : Nat} (hn : n ≤ 60) (hk : k = (Lg.rangeM f m n).toNat) : wrap64 ((n : Int) + 1 - min (max f 1) ((n : Int) + 1)) = (n : Int) + 1 - min (max f 1) ((n : Int) + 1) ∧ max 0 (min m ((n : Int) + 1 - min (max f 1) ((n : Int) + 1))) = (k : Int) := by
  have h1 : 1 ≤ min (max f 1) ((n : Int) + 1) ∧ min (max f 1) ((n : Int) + 1) ≤ (n : Int) + 1 := by omega
  refine ⟨IntWalk.wrap64_in _ ?_, ?_⟩
  · generalize min (max f 1) ((n : Int) + 1) = A at *
    omega
  · unfold Lg.rangeM Lg.rangeA at hk
    generalize min (max f 1) ((n : Int) + 1) = A at *
    omega
theorem last_quiet {R : (Nat → Prop) → World → Prop} {a w : World} {P lg d : Nat} {mv : Value} {room : Int} {s : Lg.S} {fs : List Dk.File} (h : LL R a P d mv room lg s fs w) : Calls Tryz.prog 33 #[.pointer (some ⟨lg, 0, none⟩)] w fun e w' => e = .returned (.int .i64 (s.es.length : Int)) ∧ w' = w :=
  (last_ll h).mono fun _ _ ⟨h1, h2⟩ => ⟨h1, h2.symm⟩
set_option maxHeartbeats 16000000 in
set_option maxRecDepth 100000 in
theorem logRanges_any (sv : Value) (steps : List Int) (from_ most : Int) (w : World) (hE : Env w) (hs : Cells w sv 1 steps.length (intCells steps)) (hb : ∀ n ∈ steps, -9223372036854775808 ≤ n ∧ n ≤ 9223372036854775807) (h1 : -9223372036854775808 ≤ from_ ∧ from_ ≤ 9223372036854775807) (h2 : -9223372036854775808 ≤ most ∧ most ≤ 9223372036854775807) :
    Calls Tryz.prog 7 #[sv, .int .i64 from_, .int .i64 most] w fun e w' => e = .returned (.bool true) ∧ Below w.heap.size w w' := by
  obtain ⟨va, vc, rfl⟩ := cells_slice hs
  have HS := Lib.hid (shown11_any w hE)
  have HE := Lib.hid hE
  have HST := Lib.hid (And.intro hs hb)
  have H12 := Lib.hid (And.intro h1 h2)
  clear hE hs hb h1 h2
  go_enter Tryz.func7, Tryz.ntmps7
  go_wp2_with fail
  refine HS.out.mono ?_
  rintro e w0 ⟨rfl, b0⟩
  have HBG := Lib.hid (begun11_any 50000 w0 (by decide) (by decide))
  have HB0 := Lib.hid b0
  clear HS b0
  go_wp2_with fail
  refine HBG.out.mono ?_
  rintro e w1 ⟨d, m, ft, rfl, hd, hft, _, _, b1⟩
  obtain ⟨W, hW⟩ : ∃ W, W = w1.alloc (.cells #[.pointer (some ⟨d, 0, none⟩), .pointer (some ⟨m, 0, none⟩)] 48) := ⟨_, rfl⟩
  have bp : Below w1.heap.size w1 W := by rw [hW]; exact (Below.refl _ _).alloc (Nat.le_refl _) _
  have hP : PB11 w1.heap.size (.pointer (some ⟨d, 0, none⟩)) (.pointer (some ⟨m, 0, none⟩)) W := by rw [hW]; exact heap_alloc_new w1 _
  have hlt : ∀ j, ft j → j < W.heap.size := fun j hj => Nat.lt_of_lt_of_le (hft j hj).2 bp.size
  have hbW : Below w.heap.size w W := Below.up (Below.up HB0.out (Nat.le_refl _) b1) (Nat.le_refl _) bp
  have HO := Lib.hid (open0 (R := fun _ _ => True) (a := w) ⟨HE.out, hbW, fun j hj => Nat.le_trans HB0.out.size (hft j hj).1⟩ (hd.next bp) hlt hP (fun h => by have := (hft _ h).2; omega) stable_true trivial (room := 50000) (by decide))
  obtain ⟨c0, _⟩ := hP.cells
  have HW := Lib.hid hW
  have HBW := Lib.hid hbW
  clear HBG hd hft b1 bp hP hlt hW hbW
  by_cases h60 : 60 < steps.length
  · have h60i : (60 : Int) < (steps.length : Int) := by omega
    go_wp2
    go_ret
    rw [← HW.out]
    exact ⟨rfl, HBW.out⟩
  · have h60i : ¬ (60 : Int) < (steps.length : Int) := by omega
    go_wp2_with fail
    rw [← HW.out]
    refine HO.out.mono ?_
    rintro e w2 ⟨lg, rfl, hL2⟩
    have HL2 := Lib.hid hL2
    clear HO hL2 c0 h60i
    go_wp2_with fail
    go_loopw [12, 13] (fun ev lv wr => ∃ (i : Nat) (ep next : Int) (nums : List Int) (L : List Evt.Entry) (fs : List Dk.File), ev = .int .i64 ep ∧ lv = .int .i64 i ∧ i ≤ steps.length ∧ 1 ≤ ep ∧ ep ≤ 1 + 2 * i ∧ Hid (Lg.OneByOne i ep next nums L fs) ∧ Hid (LL (fun _ _ => True) w w1.heap.size d (.pointer (some ⟨m, 0, none⟩)) 50000 lg (Lg.stateOf next nums L) fs wr)) (fun _ lv _ => steps.length - (intOf lv).toNat)
    case atStart => exact ⟨0, 1, 1, [], [], [], rfl, rfl, by omega, by omega, by omega, Lib.hid Lg.one_start, HL2⟩
    case round =>
      obtain ⟨i, ep, next, nums, L, fs, rfl, rfl, hi, he1, he2, HO, HL⟩ := hrel
      by_cases hp : i < steps.length
      · obtain ⟨x, hx⟩ : ∃ x, steps[i] = x := ⟨_, rfl⟩
        obtain ⟨b, o, c, hv, k0⟩ := intAt2 (Cells.next HST.out.1 HL.out.below) i hp hx
        cases hv
        have hxb := HST.out.2 x (by rw [← hx]; exact List.getElem_mem _)
        have HPK := Lib.hid (pick11_any x 3 wr hxb.1 hxb.2 (by decide) (by decide))
        clear hx hxb
        go_wp2_with fail
        refine HPK.out.mono ?_
        rintro e w3 ⟨⟨k, rfl, hk⟩, rfl⟩
        have hw1 : wrap64 (ep + (k : Int)) = ep + (k : Int) := IntWalk.wrap64_in _ (by omega)
        have hw2 : wrap64 ((i : Int) + 1) = (i : Int) + 1 := IntWalk.wrap64_in _ (by omega)
        have HPL := Lib.hid (plain11_any ((i : Int) + 1) (ep + (k : Int)) w3)
        obtain ⟨f2, next2, nums2, q1, q2⟩ := HO.out.more (k := k) (room := 50000) (by omega) (by omega) (by decide)
        have HQ := Lib.hid (And.intro q1 q2)
        clear HPK q1 q2
        go_wp2_with fail
        refine HPL.out.mono ?_
        rintro e w4 ⟨g, rfl, hkb, hg, b4⟩
        have b5 : Below w4.heap.size w4 (w4.alloc (.cells #[.int .i64 ((i : Int) + 1), .int .i64 (ep + (k : Int)), .string ⟨#[115]⟩, .int .i64 0, .int .i64 1, .int .i64 1, .slice (some ⟨g, 0, none⟩) 1 1] 58)) := (Below.refl _ _).alloc (Nat.le_refl _) _
        have hsz := b4.size
        have HAP := Lib.hid (append_fresh (s' := Lg.stateOf next2 nums2 (L ++ [Lg.plainN ((i : Int) + 1) (ep + (k : Int))])) (fs' := f2) (c := 0) HL.out stable_true (b4.trans (b5.mono hsz)) (entOne w4 _ _ g hkb) (fun b hb => by cases hb; exact hsz) (fun p hp b hb => by rw [List.mem_singleton.1 hp] at hb; cases hb; exact hg) (by decide)
          (Lg.stateOf_bk HO.out.holds _ (by have := HO.out.len; simp; omega)) (Nat.le_refl _) (by simp) HQ.out.1)
        clear HPL hkb hg b4 b5 hsz
        go_wp2_with fail
        refine HAP.out.mono ?_
        rintro e w5 ⟨rfl, hL5⟩
        have HL5 := Lib.hid hL5
        clear HAP hL5 HL
        go_wp2
        exact ⟨⟨i + 1, ep + (k : Int), next2, nums2, _, f2, rfl, by go_num, by omega, by omega, by omega, Lib.hid HQ.out.2, HL5⟩, by simp [intOf]; omega⟩
      · obtain rfl : i = steps.length := by omega
        have hLl : (Lg.stateOf next nums L).es.length = steps.length := HO.out.len
        have HRG := Lib.hid (range_ll from_ most HL.out (by rw [hLl]; omega))
        go_wp2_with fail
        refine HRG.out.mono ?_
        rintro e w6 ⟨ra, qs, rc, rfl, hpl, hEn, b6⟩
        have HQS := Lib.hid (And.intro hpl.out hEn.out)
        have HL6 := Lib.hid (HL.out.next stable_true b6)
        have hql : qs.length = (Lg.rangeM from_ most steps.length).toNat := by
          rw [plain_length hpl.out, ← HO.out.len]; exact Lg.rangeL_len from_ most L
        have hM := (Lg.range_facts from_ most steps.length)
        have hq60 : qs.length ≤ 60 := by omega
        have HQL := Lib.hid hql
        clear HRG hpl hEn b6 HL hql hM he1 he2 hp hi
        go_wp2_with fail
        go_loopw [15] (fun lv wr => ∃ i : Nat, lv = .int .i64 i ∧ i ≤ qs.length ∧ Below w6.heap.size w6 wr) (fun lv _ => qs.length - (intOf lv).toNat)
        case atStart => exact ⟨0, rfl, by omega, Below.refl _ _⟩
        case round =>
          obtain ⟨i, rfl, hi, hbw⟩ := hrel
          have HLr := Lib.hid (HL6.out.next stable_true hbw)
          by_cases hp : i < qs.length
          · obtain ⟨j, hj1, hj2, hj3, hj4⟩ := Lg.range_in (f := from_) (m := most) (L := L) (i := i) (by rw [HO.out.len, ← HQL.out]; exact hp)
            obtain ⟨rb, ro, rcc, p', ep', S', ex, se, sq, ua, ul, uc, es, hv, q0, q1, q2, q3, q4, q5, q6, hue, _, _, _, hpe, _⟩ := enAt (HQS.out.2.next hbw) i hp
            cases hv
            have hidx : j + i < L.length := hj2
            obtain ⟨pa, pe, hpl⟩ := HO.out.plains L[j + i] (List.getElem_mem _)
            have hqi : qs[i].1 = Lg.plainN pa pe := by
              have e1 : (plainE qs)[i]? = (Lg.rangeL from_ most L)[i]? := by rw [HQS.out.1]; rfl
              rw [hj4, List.getElem?_eq_getElem hidx, hpl] at e1
              simp only [plainE, List.getElem?_map] at e1
              rw [List.getElem?_eq_getElem hp] at e1
              simpa using e1
            rw [hpe.out] at hqi
            simp only [Lg.plainN, Evt.Entry.mk.injEq, Evt.Batch.mk.injEq] at hqi
            obtain ⟨rfl, rfl, hS, rfl, rfl, rfl, rfl⟩ := hqi
            obtain rfl : S' = ⟨#[115]⟩ := ba_eq hS
            have HAT := Lib.hid (at_ll HLr.out (by rw [hLl]; omega) (j + i) (Lg.plainN p' ep') (show L[j + i]? = some (Lg.plainN p' ep') by rw [List.getElem?_eq_getElem hidx, hpl]))
            have hw1 := Lg.wrap_at (j := j) (i := i) (Nat.lt_of_lt_of_le hidx (by rw [HO.out.len]; exact Nat.le_of_not_lt h60))
            have HQ60 := Lib.hid hq60
            have HQ7 := Lib.hid (And.intro q0 (And.intro q1 (And.intro q2 (And.intro q3 (And.intro q4 (And.intro q5 q6))))))
            have HBW2 := Lib.hid hbw
            clear hpl hpe hS hj2 hj3 hj4 hbw q0 q1 q2 q3 q4 q5 q6 hidx hq60
            go_wp2_with fail
            refine HAT.out.mono ?_
            rintro e w8 ⟨⟨px, pv⟩, rfl, hpx, hpe, b8⟩
            subst hpx
            have hpe' : Evs w8 pv [⟨[107], []⟩] := hpe
            clear hpe
            obtain ⟨sa, sc, hpv⟩ := cells_slice hpe'
            have hpv : pv = .slice sa 1 sc := hpv
            subst hpv
            have hev : enVal (Lg.plainN p' ep', Value.slice sa 1 sc) = .agg #[.int .i64 p', .int .i64 ep', .string ⟨#[115]⟩, .int .i64 0, .int .i64 1, .int .i64 1, .slice sa 1 sc] := rfl
            rw [hev]
            obtain ⟨W9, hW9⟩ : ∃ W9, W9 = w8.alloc (.cells #[.int .i64 p', .int .i64 ep', .string ⟨#[115]⟩, .int .i64 0, .int .i64 1, .int .i64 1, .slice sa 1 sc] 58) := ⟨_, rfl⟩
            have b9 : Below w8.heap.size w8 W9 := by rw [hW9]; exact (Below.refl _ _).alloc (Nat.le_refl _) _
            have hG : W9.heap[w8.heap.size]? = some (.cells #[.int .i64 p', .int .i64 ep', .string ⟨#[115]⟩, .int .i64 0, .int .i64 1, .int .i64 1, .slice sa 1 sc] 58 (0, 0)) := by rw [hW9]; exact heap_alloc_new w8 _
            have bz : Below wr.heap.size wr W9 := Below.up b8 (Nat.le_refl _) b9
            obtain ⟨q0, q1, q2, q3, q4, q5, q6⟩ := HQ7.out
            have hcc := And.intro (enCells_block hG 0 _ rfl) (And.intro (enCells_block hG 1 _ rfl) (And.intro (enCells_block hG 2 _ rfl) (And.intro (enCells_block hG 3 _ rfl) (And.intro (enCells_block hG 4 _ rfl) (And.intro (enCells_block hG 5 _ rfl) (And.intro (enCells_block hG 6 _ rfl)
              (And.intro (cell_kept bz (Nat.le_refl _) q0) (And.intro (cell_kept bz (Nat.le_refl _) q1) (And.intro (cell_kept bz (Nat.le_refl _) q2) (And.intro (cell_kept bz (Nat.le_refl _) q3) (And.intro (cell_kept bz (Nat.le_refl _) q4) (And.intro (cell_kept bz (Nat.le_refl _) q5) (cell_kept bz (Nat.le_refl _) q6)))))))))))))
            have HSM := Lib.hid (same6_any p' ep' ⟨#[115]⟩ 0 1 1 (.slice sa 1 sc) (.slice ua ul uc) [⟨[107], []⟩] W9.drew (Cells.next (Cells.next hpe' b9) (Below.refl _ W9).drew) (Cells.next (Cells.next hue bz) (Below.refl _ W9).drew) (by simp))
            have HW9 := Lib.hid hW9
            have HBZ := Lib.hid (Below.up HBW2.out (Nat.le_refl _) bz)
            clear hpe' hev hW9 b9 hG bz q0 q1 q2 q3 q4 q5 q6 hue b8 HAT
            go_upto_region 20 with fail
            rw [← HW9.out]
            go_region_held3 (fun Z => Z.cell? ⟨w8.heap.size, 0, none⟩ = some (.int .i64 p') ∧ Z.cell? ⟨w8.heap.size, 1, none⟩ = some (.int .i64 ep') ∧ Z.cell? ⟨w8.heap.size, 2, none⟩ = some (.string ⟨#[115]⟩) ∧ Z.cell? ⟨w8.heap.size, 3, none⟩ = some (.int .i64 0) ∧ Z.cell? ⟨w8.heap.size, 4, none⟩ = some (.int .i64 1) ∧ Z.cell? ⟨w8.heap.size, 5, none⟩ = some (.int .i64 1) ∧ Z.cell? ⟨w8.heap.size, 6, none⟩ = some (.slice sa 1 sc) ∧ Z.cell? ⟨rb, ro + i * 7, none⟩ = some (.int .i64 p') ∧ Z.cell? ⟨rb, ro + i * 7 + 1, none⟩ = some (.int .i64 ep') ∧ Z.cell? ⟨rb, ro + i * 7 + 2, none⟩ = some (.string ⟨#[115]⟩) ∧ Z.cell? ⟨rb, ro + i * 7 + 3, none⟩ = some (.int .i64 0) ∧ Z.cell? ⟨rb, ro + i * 7 + 4, none⟩ = some (.int .i64 1) ∧ Z.cell? ⟨rb, ro + i * 7 + 5, none⟩ = some (.int .i64 1) ∧ Z.cell? ⟨rb, ro + i * 7 + 6, none⟩ = some (.slice ua ul uc))
              (first | exact hcc | exact ⟨cell_kept hb (Nat.le_refl _) hcc.1, cell_kept hb (Nat.le_refl _) hcc.2.1, cell_kept hb (Nat.le_refl _) hcc.2.2.1, cell_kept hb (Nat.le_refl _) hcc.2.2.2.1, cell_kept hb (Nat.le_refl _) hcc.2.2.2.2.1, cell_kept hb (Nat.le_refl _) hcc.2.2.2.2.2.1, cell_kept hb (Nat.le_refl _) hcc.2.2.2.2.2.2.1, cell_kept hb (Nat.le_refl _) hcc.2.2.2.2.2.2.2.1, cell_kept hb (Nat.le_refl _) hcc.2.2.2.2.2.2.2.2.1, cell_kept hb (Nat.le_refl _) hcc.2.2.2.2.2.2.2.2.2.1, cell_kept hb (Nat.le_refl _) hcc.2.2.2.2.2.2.2.2.2.2.1, cell_kept hb (Nat.le_refl _) hcc.2.2.2.2.2.2.2.2.2.2.2.1, cell_kept hb (Nat.le_refl _) hcc.2.2.2.2.2.2.2.2.2.2.2.2.1, cell_kept hb (Nat.le_refl _) hcc.2.2.2.2.2.2.2.2.2.2.2.2.2⟩)
              (first | (go_at_call 37; refine HSM.out.mono ?_; rintro e w10 ⟨rfl, hb⟩))
            have hbz := HBZ.out.drew.trans (hb.mono HBZ.out.size)
            have hq60 := HQ60.out
            clear hcc HSM hb hj1 hw1 hi
            go_wp2
            exact ⟨⟨i + 1, by go_num, by omega, hbz⟩, by simp [intOf]; omega⟩
          · obtain rfl : i = qs.length := by omega
            have HMK := marks_ll HLr.out (by rw [hLl]; omega)
            have HMK := Lib.hid HMK
            have HBE := Lib.hid hbw
            clear hbw hi hp
            go_wp2_with fail
            refine HMK.out.mono ?_
            rintro e w11 ⟨V, rfl, hV, b11⟩
            obtain ⟨Va, Vc, rfl⟩ := cells_slice (cells_of_owns hV.out)
            have HL11 := Lib.hid (HLr.out.next stable_true b11)
            have HMS := Lib.hid (show Cells w11 (.slice Va (Mk.marks L).length Vc) 2 (Mk.marks L).length (markCells (Mk.marks L)) from cells_of_owns hV.out)
            obtain ⟨ms, hms⟩ : ∃ ms, Mk.marks L = ms := ⟨_, rfl⟩
            have hmslen : ms.length ≤ 60 := by
              have := Mk.marks_len L none
              rw [← hms]
              have h2 := HO.out.len
              exact Nat.le_trans this (by omega)
            have HMSE := Lib.hid hms
            have hms' : Mk.marks (Lg.stateOf next nums L).es = ms := hms
            rw [hms] at HMS
            rw [hms']
            clear HMK hV b11 hms hms'
            go_wp2_with fail
            go_loopw [19] (fun lv wr => ∃ q : Nat, lv = .int .i64 ((q : Int) + 1) ∧ q ≤ steps.length ∧ Below w11.heap.size w11 wr) (fun lv _ => steps.length - (intOf lv - 1).toNat)
            case atStart => exact ⟨0, rfl, by omega, Below.refl _ _⟩
            case round =>
              obtain ⟨q, rfl, hq, hbw⟩ := hrel
              have HLq := HL11.out.next stable_true hbw
              have HLA := last_ll HLq
              rw [hLl] at HLA
              have HLA := Lib.hid HLA
              have HLQ := Lib.hid HLq
              clear HLq
              go_wp2_with fail
              refine HLA.out.mono ?_
              rintro e w12 ⟨rfl, rfl⟩
              by_cases hqs : q < steps.length
              · have hqL : q < L.length := by rw [HO.out.len]; exact hqs
                obtain ⟨pa, pe, hpl⟩ := HO.out.plains L[q] (List.getElem_mem _)
                have hpos := Lg.pos_at HO.out.holds.fol hqL
                rw [hpl] at hpos
                have hpos : pa = (q : Int) + 1 := hpos.trans (by omega)
                subst hpos
                have HT := Lib.hid (Lg.told_here HO.out.holds.fol hqL hpl)
                rw [HMSE.out] at HT
                have HAT := Lib.hid (at_ll HLQ.out (by rw [hLl]; omega) q (Lg.plainN ((q : Int) + 1) pe) (show L[q]? = some (Lg.plainN ((q : Int) + 1) pe) by rw [List.getElem?_eq_getElem hqL, hpl]))
                have HBQ := Lib.hid hbw
                clear hpl hqL hbw HLA
                go_wp2_with fail
                refine HAT.out.mono ?_
                rintro e w13 ⟨⟨px, pv⟩, rfl, hpx, hpe, b13⟩
                subst hpx
                have hpe' : Evs w13 pv [⟨[107], []⟩] := hpe
                clear hpe
                obtain ⟨sa, sc, hpv⟩ := cells_slice hpe'
                have hpv : pv = .slice sa 1 sc := hpv
                subst hpv
                have hev : enVal (Lg.plainN ((q : Int) + 1) pe, Value.slice sa 1 sc) = .agg #[.int .i64 ((q : Int) + 1), .int .i64 pe, .string ⟨#[115]⟩, .int .i64 0, .int .i64 1, .int .i64 1, .slice sa 1 sc] := rfl
                rw [hev]
                obtain ⟨W9, hW9⟩ : ∃ W9, W9 = w13.alloc (.cells #[.int .i64 ((q : Int) + 1), .int .i64 pe, .string ⟨#[115]⟩, .int .i64 0, .int .i64 1, .int .i64 1, .slice sa 1 sc] 58) := ⟨_, rfl⟩
                have b9 : Below w13.heap.size w13 W9 := by rw [hW9]; exact (Below.refl _ _).alloc (Nat.le_refl _) _
                have hG : W9.heap[w13.heap.size]? = some (.cells #[.int .i64 ((q : Int) + 1), .int .i64 pe, .string ⟨#[115]⟩, .int .i64 0, .int .i64 1, .int .i64 1, .slice sa 1 sc] 58 (0, 0)) := by rw [hW9]; exact heap_alloc_new w13 _
                have bz : Below w11.heap.size w11 W9 := Below.up (Below.up HBQ.out (Nat.le_refl _) b13) (Nat.le_refl _) b9
                have e0 := enCells_block hG 0 _ rfl
                have e1 := enCells_block hG 1 _ rfl
                have HC9 := Lib.hid (HMS.out.next bz)
                have HW9 := Lib.hid hW9
                have HBZ := Lib.hid bz
                clear hpe' hev hW9 b9 hG bz b13 HAT
                go_wp2_with fail
                rw [← HW9.out]
                go_loopw [22, 23] (fun nv iv wz => ∃ i : Nat, nv = .int .i64 (Mk.told ((q : Int) + 1) 0 (ms.take i)) ∧ iv = .int .i64 i ∧ i ≤ ms.length ∧ wz = W9) (fun _ iv _ => ms.length - (intOf iv).toNat)
                case atStart => exact ⟨0, rfl, rfl, by omega, rfl⟩
                case round =>
                  obtain ⟨i, rfl, rfl, hi, rfl⟩ := hrel
                  by_cases hp : i < ms.length
                  · obtain ⟨⟨x, y⟩, hx⟩ : ∃ x, ms[i] = x := ⟨_, rfl⟩
                    obtain ⟨b, o, c, hv, z0, z1⟩ := markAt HC9.out i hp hx
                    cases hv
                    have hk := Mk.told_take ((q : Int) + 1) 0 hp hx
                    by_cases hy : y ≤ (q : Int) + 1
                    · rw [if_pos hy] at hk
                      have HK := Lib.hid hk
                      clear hk hx
                      go_wp2
                      exact ⟨⟨i + 1, by rw [HK.out], by go_num, by omega, trivial⟩, by simp [intOf]; omega⟩
                    · rw [if_neg hy] at hk
                      have HK := Lib.hid hk
                      clear hk hx
                      go_wp2
                      exact ⟨⟨i + 1, by rw [HK.out], by go_num, by omega, trivial⟩, by simp [intOf]; omega⟩
                  · obtain rfl : i = ms.length := by omega
                    rw [List.take_length, HT.out]
                    clear hp hi
                    go_wp2
                    exact ⟨⟨q + 1, by go_num, by omega, HBZ.out⟩, by simp [intOf]; omega⟩
              · obtain rfl : q = steps.length := by omega
                have HN0 := Lib.hid (at_none_ll HLQ.out 0 (.inl (by decide)))
                clear hq hqs hbw HLA
                go_wp2_with fail
                refine HN0.out.mono ?_
                rintro e w13 ⟨rfl, b13⟩
                obtain ⟨W9, hW9⟩ : ∃ W9, W9 = w13.alloc (.cells #[.int .i64 0, .int .i64 0, .string ⟨#[]⟩, .int .i64 0, .int .i64 0, .int .i64 0, .slice none 0 0] 58) := ⟨_, rfl⟩
                have b9 : Below w13.heap.size w13 W9 := by rw [hW9]; exact (Below.refl _ _).alloc (Nat.le_refl _) _
                have hL9 := (HLQ.out.next stable_true b13).next stable_true b9
                have HLA9 := last_ll hL9
                rw [hLl] at HLA9
                have HLA9 := Lib.hid HLA9
                have hw1 : wrap64 ((steps.length : Int) + 1) = (steps.length : Int) + 1 := IntWalk.wrap64_in _ (by omega)
                have HN1 := Lib.hid (at_none_ll hL9 ((steps.length : Int) + 1) (.inr (by rw [hLl]; omega)))
                have HL9 := Lib.hid hL9
                have HW9 := Lib.hid hW9
                clear hL9 hW9 b9 b13 HN0
                go_wp2_with fail
                rw [← HW9.out]
                refine HLA9.out.mono ?_
                rintro e w14 ⟨rfl, rfl⟩
                go_wp2_with fail
                refine HN1.out.mono ?_
                rintro e w15 ⟨rfl, b15⟩
                obtain ⟨WA, hWA⟩ : ∃ WA, WA = w15.alloc (.cells #[.int .i64 0, .int .i64 0, .string ⟨#[]⟩, .int .i64 0, .int .i64 0, .int .i64 0, .slice none 0 0] 58) := ⟨_, rfl⟩
                have bA : Below w15.heap.size w15 WA := by rw [hWA]; exact (Below.refl _ _).alloc (Nat.le_refl _) _
                have hLA := (HL9.out.next stable_true b15).next stable_true bA
                have HLAA := last_ll hLA
                rw [hLl] at HLAA
                have HLAA := Lib.hid HLAA
                have HLA := Lib.hid hLA
                have HWA := Lib.hid hWA
                clear hLA hWA bA b15 HN1 HLA9
                go_wp2_with fail
                rw [← HWA.out]
                refine HLAA.out.mono ?_
                rintro e w16 ⟨rfl, rfl⟩
                have HQ9 := Lib.hid (fun n => last_quiet (HLA.out.next stable_true (below_drewN (Below.refl _ WA) n)))
                have HFA := Lib.hid (Lg.range_end from_ most (n := steps.length) (k := qs.length) (by omega) HQL.out)
                have HEND := Lib.hid (HLA.out.below)
                have hl0 := hLl
                clear hq60 h60 HLAA
                go_upto_region 38 with fail
                obtain ⟨A, hA⟩ : ∃ A, A = min (max from_ 1) ((steps.length : Int) + 1) := ⟨_, rfl⟩
                rw [← hA]
                rw [← hA] at HFA
                obtain ⟨hf1, hf2⟩ := HFA.out
                have HF2 := Lib.hid hf2
                clear hA hf2
                go_wp2_with fail
                refine (HQ9.out 0).mono ?_
                rintro e w17 ⟨rfl, rfl⟩
                go_wp2_with fail
                refine (HQ9.out 0).mono ?_
                rintro e w17 ⟨rfl, rfl⟩
                go_wp2_with fail
                go_ret
                rw [HF2.out]
                exact ⟨by simp, HEND.out⟩
end Go.Proofs.YtbknlffebcbjfaaGreatDoor
