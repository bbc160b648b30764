/-
  The walk of disk.Clone: a disk of its own, with the same files.
-/
import Derived.Test.YtbknlffebcbjfaaGreatDoorLawL
import Derived.Maps.RangeWalk
import Derived.Sort.KeysCollected
namespace Go.Proofs.YtbknlffebcbjfaaGreatDoor
open Go.RowKit Go.Shelf

theorem ptrR_some {v : Value} {y : DataW Unit × List MemPlace} (h : ptrR v = some y) : v = .pointer none ∨ ∃ b : Nat, v = .pointer (some ⟨b, 0, none⟩) ∧ y = (.lit (.int .i64 b), []) := by
  unfold ptrR at h
  split at h
  · exact .inl rfl
  · rename_i b
    simp only [Option.some.injEq] at h
    exact .inr ⟨b, rfl, h.symm⟩
  · cases h
def ptrV : Option Nat → Value
  | none => .pointer none
  | some b => .pointer (some ⟨b, 0, none⟩)
theorem ptrR_inv {v : Value} {y : DataW Unit × List MemPlace} (h : ptrR v = some y) : ∃ c, v = ptrV c := by
  rcases ptrR_some h with e | ⟨b, e, _⟩
  · exact ⟨none, e⟩
  · exact ⟨some b, e⟩
/-- Of a disk's files those are copied that are no longer to come. -/
structure Copied (r : Nat) (fs : List Dk.File) (left : Lit → Bool) (D2 : DataW Unit) (g2 : List UInt8 → Nat) (w : World) : Prop where
  non : ∀ k, Dk.look fs k = none → Maps.has D2 (.string k) = false
  out : ∀ k x, Dk.look fs k = some x → left (.string k) = true → Maps.has D2 (.string k) = false
  put : ∀ k x, Dk.look fs k = some x → left (.string k) = false → Maps.has D2 (.string k) = true ∧ (∀ z, D2.atKey (.string k) z = .lit (.int .i64 (g2 k : Nat))) ∧ FileAt (g2 k) x.bytes x.synced w ∧ r < g2 k
  inj : ∀ k k' x x', Dk.look fs k = some x → Dk.look fs k' = some x' → left (.string k) = false → left (.string k') = false → g2 k = g2 k' → k = k'
theorem Copied.kept {r : Nat} {fs : List Dk.File} {left : Lit → Bool} {D2 : DataW Unit} {g2 : List UInt8 → Nat} {w w' : World} (h : Copied r fs left D2 g2 w) (hk : ∀ j, j < w.heap.size → r < j → w'.heap[j]? = w.heap[j]?) : Copied r fs left D2 g2 w' :=
  ⟨h.non, h.out, fun k x hx hl => by
    obtain ⟨a, b, c, e⟩ := h.put k x hx hl
    exact ⟨a, b, (hk _ (Array.getElem?_eq_some_iff.1 c).1 e).trans c, e⟩, h.inj⟩
theorem Copied.step {r nb n b : Nat} {fs : List Dk.File} {left : Lit → Bool} {D2 : DataW Unit} {g2 : List UInt8 → Nat} {w w' : World} {k : List UInt8} {x : Dk.File} (h : Copied r fs left D2 g2 w) (hown : w.ownsMap Tryz.prog 9 ptrR b n D2) (hx : Dk.look fs k = some x) (hl : left (.string k) = true) (hnb : w.heap.size ≤ nb) (hr : r < nb)
    (hF : FileAt nb x.bytes x.synced w') (hk : ∀ j, j < w.heap.size → r < j → w'.heap[j]? = w.heap[j]?) : Copied r fs (fun z => left z && !z.sameKey (.string k)) (D2.put (.string k) (.lit (.int .i64 (nb : Nat)))) (fun j => if j = k then nb else g2 j) w' := by
  have hmap := hown.isMap
  have hkl : WideAt.IsKeyLit (.string k) := trivial
  have sk : ∀ j : List UInt8, (Lit.string j).sameKey (.string k) = decide (j = k) := fun j => by simp only [Lit.sameKey]; by_cases e : j = k <;> simp [e]
  have glt : ∀ j y, Dk.look fs j = some y → left (.string j) = false → g2 j < w.heap.size := fun j y hy hl => (Array.getElem?_eq_some_iff.1 (h.put j y hy hl).2.2.1).1
  have hlj : ∀ j, (left (.string j) && !(Lit.string j).sameKey (.string k)) = false → j ≠ k → left (.string j) = false := fun j hj e => by
    rw [sk, decide_eq_false e] at hj; simpa using hj
  refine ⟨fun j hj => ?_, fun j y hy hlf => ?_, fun j y hy hlf => ?_, fun j j' y y' hy hy' hlf hlf' hg => ?_⟩
  · have e : j ≠ k := fun e => by rw [e, hx] at hj; cases hj
    rw [Maps.has_put_other (by simpa using e)]; exact h.non j hj
  · have e : j ≠ k := fun e => by rw [e, sk, decide_eq_true rfl] at hlf; simp at hlf
    rw [Maps.has_put_other (by simpa using e)]
    exact h.out j y hy (by rw [sk, decide_eq_false e] at hlf; simpa using hlf)
  · by_cases e : j = k
    · subst e
      rw [hx] at hy
      cases hy
      simp only [if_true]
      exact ⟨Maps.has_put_same hmap hkl _, fun z => Maps.atKey_put_same hmap hkl _ z, hF, hr⟩
    · obtain ⟨a, b, c, f⟩ := h.put j y hy (hlj j hlf e)
      simp only [if_neg e]
      exact ⟨by rw [Maps.has_put_other (by simpa using e)]; exact a, fun z => by rw [Maps.atKey_put_other (by simpa using e)]; exact b z, (hk _ (Array.getElem?_eq_some_iff.1 c).1 f).trans c, f⟩
  · by_cases e : j = k
    · by_cases e' : j' = k
      · rw [e, e']
      · rw [if_pos e, if_neg e'] at hg
        have := glt j' y' hy' (hlj j' hlf' e')
        omega
    · by_cases e' : j' = k
      · rw [if_neg e, if_pos e'] at hg
        have := glt j y hy (hlj j hlf e)
        omega
      · rw [if_neg e, if_neg e'] at hg
        exact h.inj j j' y y' hy hy' (hlj j hlf e) (hlj j' hlf' e') hg
theorem strKeys_size {w : World} {b n : Nat} {D : DataW Unit} (h : w.ownsMap Tryz.prog 9 ptrR b n D) : (strKeys D).length = Maps.size D := by
  obtain ⟨es, hD, _⟩ := h.entries str_keyed
  rw [hD]
  simp [strKeys, Maps.size]
theorem Copied.done {r d2 bm2 n : Nat} {room : Int} {fs : List Dk.File} {left : Lit → Bool} {D2 : DataW Unit} {g2 : List UInt8 → Nat} {w w0 : World} (h : Copied r fs left D2 g2 w) (hl : ∀ kl, left kl = false) (hown : w.ownsMap Tryz.prog 9 ptrR bm2 n D2) (hn : n ≤ fs.length)
    (hd : w.heap[d2]? = some (.cells #[.int .i64 room, .int .i64 (Dk.total fs : Int), .map (some bm2)] 140 (0, 0))) (h4 : fs.length ≤ 40) (h5 : Dk.Sorted fs) (h6 : 1 ≤ room ∧ room ≤ 1073741824 ∧ (Dk.total fs : Int) ≤ room) (hs : ∀ k x, Dk.look fs k = some x → x.synced ≤ x.bytes.size)
    (hd0 : w0.heap.size ≤ d2) (hb0 : w0.heap.size ≤ bm2) (hr0 : w0.heap.size ≤ r) : IsDisk w d2 room fs (fun j => w0.heap.size ≤ j ∧ j < w.heap.size) := by
  have hp : (fs.map (·.name)).Perm (strKeys D2) := by
    refine Collected.perm (left := fun _ => false) ⟨?_, fun k => ?_⟩ hown str_keyed Tryz.underlying9 (fun _ => rfl)
    · refine List.pairwise_map.2 (h5.imp fun {a b} hab e => ?_)
      rw [e] at hab
      exact Std.lt_irrefl hab
    · constructor
      · intro hk
        obtain ⟨x, hx, rfl⟩ := List.mem_map.1 hk
        refine ⟨?_, rfl⟩
        cases e : Dk.look fs x.name with
        | none => exact absurd rfl (Dk.look_none e x hx)
        | some z => exact (h.put _ z e (hl _)).1
      · rintro ⟨hk, _⟩
        cases e : Dk.look fs k with
        | none => rw [h.non _ e] at hk; cases hk
        | some z =>
          have := Dk.look_name e
          exact List.mem_map.2 ⟨z, this.2, this.1⟩
  have hsz : Maps.size D2 = fs.length := by
    rw [← strKeys_size hown, ← hp.length_eq, List.length_map]
  refine ⟨bm2, D2, g2, hd, hown.mono hn, hsz, h4, h5, h6, ⟨hd0, (Array.getElem?_eq_some_iff.1 hd).1⟩, ⟨hb0, hown.lt⟩, h.non, fun k x hx => ?_, fun k k' x x' hx hx' hg => h.inj k k' x x' hx hx' (hl _) (hl _) hg⟩
  obtain ⟨a, b, c, e⟩ := h.put k x hx (hl _)
  exact ⟨a, b, c, ⟨by omega, (Array.getElem?_eq_some_iff.1 c).1⟩, hs k x hx⟩
set_option maxHeartbeats 4000000 in
set_option maxRecDepth 100000 in
theorem diskClone_any (d : Nat) (room : Int) (fs : List Dk.File) (ft : Nat → Prop) (w : World) (h : IsDisk w d room fs ft) :
    Calls Tryz.prog 38 #[.pointer (some ⟨d, 0, none⟩)] w fun e w' => ∃ d2, e = .returned (.pointer (some ⟨d2, 0, none⟩)) ∧ IsDisk w' d2 room fs (fun j => w.heap.size ≤ j ∧ j < w'.heap.size) ∧ Below w.heap.size w w' := by
  obtain ⟨bm, D, g, h1, h2, h3, h4, h5, h6, h7, h8, h9, h10, h11⟩ := h
  have hmm := @run_makeMap Tryz.prog
  have d0 : w.drew.cell? ⟨d, 0, none⟩ = some (.int .i64 room) := by rw [Lib.cell_of_heap (show w.drew.heap[d]? = _ from h1)]; rfl
  have d1 : w.drew.cell? ⟨d, 1, none⟩ = some (.int .i64 (Dk.total fs : Int)) := by rw [Lib.cell_of_heap (show w.drew.heap[d]? = _ from h1)]; rfl
  have hdl : d < w.heap.size := (Array.getElem?_eq_some_iff.1 h1).1
  have HB := Lib.hid (And.intro h1 (And.intro h2 (And.intro h3 (And.intro h4 (And.intro h5 (And.intro h6 (And.intro h9 h10)))))))
  clear h1 h2 h3 h4 h5 h6 h7 h8 h9 h10 h11
  go_enter Tryz.func38, Tryz.ntmps38
  go_upto_region 1 with fail
  go_cut [3] (fun v wx => v = .pointer (some ⟨w.heap.size + 1, 0, none⟩) ∧ wx = (w.drew.alloc (.map #[] 0)).alloc (.cells #[.int .i64 room, .int .i64 (Dk.total fs : Int), .map (some w.heap.size)] 140))
  case first =>
    have d0a : (w.drew.alloc (.map #[] 0)).cell? ⟨d, 0, none⟩ = some (.int .i64 room) := by rw [Lib.cell_of_heap ((Below.heap_alloc w.drew _ d hdl).trans (show w.drew.heap[d]? = _ from HB.out.1))]; rfl
    have d1a : (w.drew.alloc (.map #[] 0)).cell? ⟨d, 1, none⟩ = some (.int .i64 (Dk.total fs : Int)) := by rw [Lib.cell_of_heap ((Below.heap_alloc w.drew _ d hdl).trans (show w.drew.heap[d]? = _ from HB.out.1))]; rfl
    go_region_held3 (fun Z => Z.cell? ⟨d, 0, none⟩ = some (.int .i64 room) ∧ Z.cell? ⟨d, 1, none⟩ = some (.int .i64 (Dk.total fs : Int)))
      (first | exact ⟨d0, d1⟩ | exact ⟨d0a, d1a⟩ | exact ⟨(cell_kept ((Below.refl _ _).alloc (Nat.le_refl _) _) (Nat.le_refl _) d0a), (cell_kept ((Below.refl _ _).alloc (Nat.le_refl _) _) (Nat.le_refl _) d1a)⟩) (fail)
    go_wp2
    go_meet
    exact ⟨rfl, rfl⟩
  case rest =>
    obtain ⟨rfl, rfl⟩ := hcut
    obtain ⟨W, hW⟩ : ∃ W, W = (w.drew.alloc (.map #[] 0)).alloc (.cells #[.int .i64 room, .int .i64 (Dk.total fs : Int), .map (some w.heap.size)] 140) := ⟨_, rfl⟩
    have bA : Below w.heap.size w (w.drew.alloc (.map #[] 0)) := (Below.refl _ w).drew.alloc (Nat.le_refl _) _
    have bW : Below w.heap.size w W := by rw [hW]; exact bA.alloc (by simp) _
    have hsW : W.heap.size = w.heap.size + 2 := by rw [hW]; simp
    have hm0 : W.ownsMap Tryz.prog 9 ptrR w.heap.size 0 (DataW.map []) := by
      rw [hW]; exact (World.ownsMap_made w.drew Tryz.prog 9 ptrR).alloc _
    have hd2 : W.heap[w.heap.size + 1]? = some (.cells #[.int .i64 room, .int .i64 (Dk.total fs : Int), .map (some w.heap.size)] 140 (0, 0)) := by
      rw [hW]
      have := heap_alloc_new (w.drew.alloc (.map #[] 0)) (.cells #[.int .i64 room, .int .i64 (Dk.total fs : Int), .map (some w.heap.size)] 140)
      rw [World.size_alloc] at this
      exact this
    have hWd : W.heap[d]? = some (.cells #[.int .i64 room, .int .i64 (Dk.total fs : Int), .map (some bm)] 140 (0, 0)) := (bW.block d hdl).trans HB.out.1
    have hown : W.ownsMap Tryz.prog 9 ptrR bm fs.length D := ownsMap_at HB.out.2.1 (bW.block bm HB.out.2.1.lt)
    have c2 : W.cell? ⟨d, 2, none⟩ = some (.map (some bm)) := by rw [Lib.cell_of_heap hWd]; rfl
    have hbm := HB.out.2.1.lt
    have HW := Lib.hid hW
    have HSW := Lib.hid hsW
    have H0 := Lib.hid (And.intro hm0 (And.intro hd2 bW))
    rw [← hW]
    clear hW hsW hm0 hd2 bA bW hWd d0 d1
    go_wp2_with (first
      | (at_range; refine wpList_range_own _ rfl _ 138 rfl 9 143 str_keyed Tryz.underlying138 ptrR bm fs.length D rfl hown ?_; intro w0 hrg0 hg0 hs0)
      | fail)
    go_frame
    have hgo := H0.out.1.kept hg0 (by simp)
    have hgd : w0.heap[w.heap.size + 1]? = some (.cells #[.int .i64 room, .int .i64 (Dk.total fs : Int), .map (some w.heap.size)] 140 (0, 0)) := (hg0.block _ (by have := HSW.out; omega) (by simp)).trans H0.out.2.1
    have hgb : Below w.heap.size w w0 := H0.out.2.2.grown hg0 H0.out.2.2.size (fun j hj => by cases hj)
    have HI := Lib.hid (And.intro hrg0 (And.intro hgo (And.intro hgd hgb)))
    clear hrg0 hgo hgd hgb hg0 hs0 hown c2 hmm
    go_loopw [4] (fun _ wr => ∃ (left : Lit → Bool) (cnt : Nat) (D2 : DataW Unit) (g2 : List UInt8 → Nat), wr.ranges Tryz.prog 9 ptrR bm W.heap.size fs.length D left cnt ∧ cnt ≤ fs.length ∧ wr.ownsMap Tryz.prog 9 ptrR w.heap.size (fs.length - cnt) D2 ∧ Hid (Copied W.heap.size fs left D2 g2 wr) ∧
      Hid (wr.heap[w.heap.size + 1]? = some (.cells #[.int .i64 room, .int .i64 (Dk.total fs : Int), .map (some w.heap.size)] 140 (0, 0))) ∧ Below w.heap.size w wr) (fun _ wr => wr.rangeLeft bm W.heap.size)
    case atStart =>
      obtain ⟨q1, q2, q3, q4⟩ := HI.out
      refine ⟨_, _, .map [], fun _ => 0, q1, Nat.le_of_eq HB.out.2.2.1, q2.mono (Nat.zero_le _), Lib.hid ⟨fun k _ => rfl, fun k x _ _ => rfl, fun k x hx hl => ?_, fun k k' x x' hx _ hl _ _ => ?_⟩, Lib.hid q3, q4⟩
      · rw [(HB.out.2.2.2.2.2.2.2 k x hx).1] at hl; cases hl
      · rw [(HB.out.2.2.2.2.2.2.2 k x hx).1] at hl; cases hl
    case round =>
      obtain ⟨left, cnt, D2, g2, hrg, hcs, hout, HC, HD2, hnx⟩ := hrel
      have HRG := Lib.hid hrg
      have HO := Lib.hid hout
      have HN := Lib.hid hnx
      clear hnx hout
      go_wp2_with (first
        | (at_next; refine wpList_next_ranges _ rfl _ rfl 9 str_keyed ptrR (fun x : List UInt8 => Value.string ⟨x.toArray⟩) ptrV (fun key kl hk => by obtain ⟨x, hx, _⟩ := Maps.keyOf_str Tryz.underlying9 hk; exact ⟨x, hx⟩) (fun v y hv => ptrR_inv hv) bm W.heap.size fs.length D left cnt rfl hrg ?_ ?_)
        | fail)
      · intro hc0 hl0
        clear hrg
        go_wp2
        go_ret
        have hs : ∀ k x, Dk.look fs k = some x → x.synced ≤ x.bytes.size := fun k x hx => (HB.out.2.2.2.2.2.2.2 k x hx).2.2.2.2
        exact ⟨_, rfl, HC.out.done hl0 HO.out (Nat.sub_le _ _) HD2.out HB.out.2.2.2.1 HB.out.2.2.2.2.1 HB.out.2.2.2.2.2.1 hs (Nat.le_succ _) (Nat.le_refl _) (by have := HSW.out; omega), HN.out⟩
      · intro x c kl y yp w1 cnt1 hkx hlx hRc hat hrg1 hlt hg1 hs1 hen
        obtain ⟨x', hx', rfl, hxl⟩ := Maps.keyOf_str Tryz.underlying9 hkx
        obtain rfl : x = x' := by simpa [encStr] using hx'
        have hlook : ∃ z, Dk.look fs x = some z := by
          cases e : Dk.look fs x with
          | some z => exact ⟨z, rfl⟩
          | none =>
            have hno := HB.out.2.2.2.2.2.2.1 x e
            have a1 := hat .nil
            have a2 := hat (.lit (.bool true))
            rw [Maps.atKey_of_not_has hno] at a1 a2
            rw [← a1] at a2
            cases a2
        obtain ⟨z, hz⟩ := hlook
        obtain ⟨hz1, hz2, hz3, hz4, hz5⟩ := HB.out.2.2.2.2.2.2.2 x z hz
        have hc : ptrV c = .pointer (some ⟨g x, 0, none⟩) := by
          have a1 := hat .nil
          rw [hz2] at a1
          rw [← a1] at hRc
          exact ptrR_at hRc
        obtain ⟨gx, hgx⟩ : ∃ gx, g x = gx := ⟨_, rfl⟩
        rw [hgx] at hc hz3
        have hgl : gx < w.heap.size := (Array.getElem?_eq_some_iff.1 hz3).1
        have hrl := hrg.lt
        have hF1 : FileAt gx z.bytes z.synced w1 := (hg1.block gx (by have := HN.out.size; omega) (by have := HSW.out; simp; omega)).trans ((HN.out.block gx hgl).trans hz3)
        have f0 : w1.cell? ⟨gx, 0, none⟩ = some (.string z.bytes) := by rw [Lib.cell_of_heap hF1]; rfl
        have f1 : w1.cell? ⟨gx, 1, none⟩ = some (.int .i64 (z.synced : Int)) := by rw [Lib.cell_of_heap hF1]; rfl
        have hout1 := HO.out.kept hg1 (by have := HSW.out; simp; omega)
        have hD1 : w1.heap[w.heap.size + 1]? = some (.cells #[.int .i64 room, .int .i64 (Dk.total fs : Int), .map (some w.heap.size)] 140 (0, 0)) := (hg1.block _ (by have := (Array.getElem?_eq_some_iff.1 HD2.out).1; omega) (by have := HSW.out; simp; omega)).trans HD2.out
        obtain ⟨WZ, hWZ⟩ : ∃ WZ, WZ = w1.alloc (.cells #[.string z.bytes, .int .i64 (z.synced : Int)] 145) := ⟨_, rfl⟩
        have hFz : FileAt w1.heap.size z.bytes z.synced WZ := by rw [hWZ]; exact heap_alloc_new w1 _
        have hDz : WZ.heap[w.heap.size + 1]? = some (.cells #[.int .i64 room, .int .i64 (Dk.total fs : Int), .map (some w.heap.size)] 140 (0, 0)) := by
          rw [hWZ]; exact (Below.heap_alloc w1 _ _ (Array.getElem?_eq_some_iff.1 hD1).1).trans hD1
        have z2 : WZ.cell? ⟨w.heap.size + 1, 2, none⟩ = some (.map (some w.heap.size)) := by rw [Lib.cell_of_heap hDz]; rfl
        have hownz : WZ.ownsMap Tryz.prog 9 ptrR w.heap.size (fs.length - cnt) D2 := by rw [hWZ]; exact hout1.alloc _
        have hrgz := hrg1.alloc (.cells #[.string z.bytes, .int .i64 (z.synced : Int)] 145)
        rw [← hWZ] at hrgz
        have h40 : fs.length ≤ 40 := HB.out.2.2.2.1
        have hnames : (⟨x.toArray⟩ : ByteArray).size ≤ maxLen := by rw [Lib.size_eq]; exact hxl
        have HZ := Lib.hid hWZ
        have HF := Lib.hid (And.intro hz (And.intro hFz (And.intro hDz (And.intro hout1 (And.intro hlx (And.intro hg1 hs1))))))
        have HCL := Lib.hid (And.intro hcs (And.intro hlt hrl))
        rw [hc] at hen ⊢
        clear hz hz1 hz2 hz3 hz4 hz5 hc hgx hF1 hFz hDz hD1 hWZ hat hRc hkx hlx hx' hrg hrg1 hs1 hout1 hlt
        go_upto_region 6 with fail
        rw [← HZ.out]
        go_wp2_with (first
          | (at_mapUpdate; refine wpList_mapUpdate_own _ rfl _ _ _ 138 rfl 9 143 str_keyed Tryz.underlying138 ptrR w.heap.size (fs.length - cnt) D2 rfl hownz (by unfold maxLen; omega) _ _ (.string x) rfl rfl (WideMaps.keyOf_string_mk Tryz.underlying9 hnames) (.lit (.int .i64 (w1.heap.size : Nat))) [] rfl ?_; intro w2 hown2 hg2; go_frame)
          | fail)
        obtain ⟨e1, e2, e3, e4, e5, e6, e7⟩ := HF.out
        obtain ⟨l1, l2, l3⟩ := HCL.out
        have hws := HSW.out
        have hzs : WZ.heap.size = w1.heap.size + 1 := by rw [HZ.out, World.size_alloc]
        have hrg2 := hrgz.kept hg2 (fun e => by have := Option.some.inj e; omega) (fun e => by have := Option.some.inj e; omega)
        have hold : ∀ j, j < wr.heap.size → W.heap.size < j → w2.heap[j]? = wr.heap[j]? := fun j hj hr => by
          rw [hg2.block j (by omega) (by simp; omega), HZ.out, Below.heap_alloc w1 _ j (by omega), e6.block j hj (by simp; omega)]
        have hF2 : FileAt w1.heap.size z.bytes z.synced w2 := (hg2.block _ (by omega) (by simp; omega)).trans e2
        have hD2' := (hg2.block (w.heap.size + 1) (by omega) (by simp)).trans e3
        have hB2 : Below w.heap.size w w2 := by
          have b1 := HN.out.grown e6 HN.out.size (fun j hj => by cases hj; omega)
          have b2 : Below w.heap.size w WZ := by rw [HZ.out]; exact b1.alloc b1.size _
          exact b2.grown hg2 b2.size (fun j hj => by cases hj; exact Nat.le_refl _)
        have hCo := HC.out.step (w' := w2) HO.out e1 e5 (nb := w1.heap.size) (by omega) (by omega) hF2 hold
        go_roundw
        case rel => exact ⟨_, cnt1, _, _, hrg2, by omega, hown2.mono (by omega), Lib.hid hCo, Lib.hid hD2', hB2⟩
        case measure => rw [hrg2.left_eq, HRG.out.left_eq]; exact l2
end Go.Proofs.YtbknlffebcbjfaaGreatDoor
