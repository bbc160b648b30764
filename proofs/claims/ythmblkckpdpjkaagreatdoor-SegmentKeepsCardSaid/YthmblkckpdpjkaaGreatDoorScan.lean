/-
  The walks of frame.frames, its iterator, frame.Scan: the frames that bytes begin with.
-/
import Derived.RangeFuncNested
import Derived.RangeFuncBound
import Derived.RangeFuncCalls
import Derived.RangeFuncLeaves
import Derived.RangeFuncBox
import Derived.RangeFuncFrom
import Derived.Shelf.Abstract
import Derived.Shelf.RegionOpen
import Derived.OwnWalkIn
import Derived.TacticsInMore
import Derived.LoopNIn
import Derived.LoopIn
import Derived.Test.YthmblkckpdpjkaaGreatDoorFrm
namespace Go.Proofs.YthmblkckpdpjkaaGreatDoor
open Go.RowKit Go.Shelf

attribute [local go_sem] Oper.semAt_some

def strSize : Value → Nat
  | .string s => s.size
  | _ => 0
/-- A block's first cell lies as it lay. -/
def KeepsCell (B : Nat) (W W' : World) : Prop := ∀ v, W.cell? ⟨B, 0, none⟩ = some v → W'.cell? ⟨B, 0, none⟩ = some v
theorem keepsCell_t {B : Nat} {X Y Z : World} (h : KeepsCell B X Y) (k : KeepsCell B Y Z) : KeepsCell B X Z := fun v hv => k v (h v hv)
theorem keepsCell_b (B : Nat) (W : World) (l : Nat) (o o' : Obj) (hl : W.heap[l]? = some o) (ho : o.isCells = false) : KeepsCell B W (W.putObj l o') := fun v hv =>
  (grownBy_putObj' W l o').cell hv (fun e => by
    cases e
    cases o <;> simp_all [World.cell?, Obj.isCells])
def lastEnd (xs : List (ByteArray × Nat)) : Nat := (xs.getLast?.map (·.2)).getD 0
theorem lastEnd_snoc (xs : List (ByteArray × Nat)) (x : ByteArray × Nat) : lastEnd (xs ++ [x]) = x.2 := by simp [lastEnd]
def loads (xs : List (ByteArray × Nat)) : List (List UInt8) := xs.map (·.1.data.toList)
theorem loads_snoc (xs : List (ByteArray × Nat)) (x : ByteArray × Nat) : loads (xs ++ [x]) = loads xs ++ [x.1.data.toList] := by simp [loads]

set_option maxRecDepth 100000 in
set_option maxHeartbeats 1000000 in
theorem frames1_in (n : Nat) (hn : 1 ≤ n) (l Bn : Nat) (s : ByteArray) (hs : s.size ≤ 1000000000000) (J Jx : List (ByteArray × Nat) → World → Prop) (W : World) (hJ : AbidesFrom W.heap.size J)
    (hY : ∀ pre (x : ByteArray × Nat) W, J pre W → pre.length < s.size + 1 → YieldAt Fence.wide (n - 1) Tryz.prog l #[.string x.1, .int .i64 x.2] W fun e W' =>
      (e = .returned (.bool true) ∧ J (pre ++ [x]) W' ∧ KeepsCell Bn W W') ∨ (e = .returned (.bool false) ∧ Jx (pre ++ [x]) W'))
    (hBn : W.cell? ⟨Bn, 0, none⟩ = some (.string s)) (h0 : J [] W) :
    CallsIn Fence.wide n Tryz.prog 114 #[.func (.yield l) #[] #[], .pointer (some ⟨Bn, 0, none⟩)] W fun e W' => (∃ v, e = .returned v) ∧
      ((∃ ys, (loads ys = (Frm.scan s.data.toList).1 ∧ lastEnd ys + (Frm.scan s.data.toList).2.length = s.size) ∧ J ys W') ∨ (∃ pre, True ∧ Jx pre W')) := by
  refine callsIn_of_wp Tryz.func114 rfl trivial ?_ rfl
  simp only [Tryz.ntmps114, List.size_toArray, List.length_cons, List.length_nil, Nat.reduceAdd, Nat.reduceSub, Array.replicate_succ, Array.replicate_zero, List.push_toArray, List.append_toArray, List.nil_append, List.cons_append]
  gi_wp2
  gi_loopw [3] (fun lv wr => ∃ (pre : List (ByteArray × Nat)) (q : ByteArray), lv = .string q ∧ J pre wr ∧ wr.cell? ⟨Bn, 0, none⟩ = some (.string s) ∧ loads pre ++ (Frm.scan q.data.toList).1 = (Frm.scan s.data.toList).1 ∧ (Frm.scan q.data.toList).2 = (Frm.scan s.data.toList).2 ∧
      lastEnd pre + q.size = s.size ∧ 9 * pre.length + q.size ≤ s.size) (fun lv _ => strSize lv)
  case atStart => exact ⟨[], s, rfl, h0, hBn, rfl, rfl, by simp [lastEnd], by simp⟩
  case round =>
    obtain ⟨pre, q, rfl, hJs, hc, h1, h2, h3, h4⟩ := hrel
    have H1 := Lib.hid h1; have H2 := Lib.hid h2; have H3 := Lib.hid h3
    clear h1 h2 h3
    gi_wp2
    refine ⟨trivial, (callsIn_wide.2 (frameTake_any q wr (by omega))).mono ?_⟩
    rintro e w1 ⟨a, r, c, rfl, HT, b1⟩
    have hJ1 : J pre w1 := hJ pre wr w1 none hJs (grown_of_below b1) (fun r e => by cases e)
    have hc1 := cell_kept b1 (Nat.le_refl _) hc
    by_cases h0 : c = 0
    · subst h0
      have hz := (Frm.take_le q.data.toList).2.2 (by rw [HT.out])
      rw [HT.out] at hz
      simp only [← Lib.size_eq] at hz
      have hgo := Frm.scan_go q.data.toList (by rw [HT.out])
      rw [HT.out] at hgo
      simp only at hgo
      have F1 := Lib.hid (show loads (pre ++ [(a, s.size - r.size)]) ++ (Frm.scan r.data.toList).1 = (Frm.scan s.data.toList).1 by rw [← H1.out, hgo, loads_snoc]; simp)
      have F2 := Lib.hid (show (Frm.scan r.data.toList).2 = (Frm.scan s.data.toList).2 by rw [← H2.out, hgo])
      have hrs : r.size + 9 ≤ q.size := hz.2.2.1
      have hqs : q.size ≤ s.size := by omega
      have F3 := Lib.hid (show lastEnd (pre ++ [(a, s.size - r.size)]) + r.size = s.size by rw [lastEnd_snoc]; omega)
      have hsub : (s.size : Int) - (r.size : Int) = ((s.size - r.size : Nat) : Int) := by omega
      obtain ⟨fn, tmps, assign, body, hy, hR⟩ := hY pre (a, s.size - r.size) w1 hJ1 (by omega)
      dsimp only at hy
      clear hz hgo H1 H2 H3 HT
      gi_wp2
      refine hR.mono ?_
      rintro e W3 (⟨rfl, hJ3, hk3⟩ | ⟨rfl, hJx3⟩)
      · have hc3 := hk3 _ hc1
        gi_wp2
        go_roundw
        case rel => exact ⟨pre ++ [(a, s.size - r.size)], r, rfl, hJ3, hc3, F1.out, F2.out, F3.out, by simp; omega⟩
        case measure => simp only [strSize]; omega
      · gi_wp2
        refine bodyPost_ret (results_none rfl _ _ _) rfl ?_
        exact ⟨⟨_, rfl⟩, .inr ⟨_, trivial, hJx3⟩⟩
    · have h0b : ((c : Int) != 0) = true := by simp; omega
      have hst := Frm.scan_stop q.data.toList (by rw [HT.out]; exact h0)
      have F1 := Lib.hid (show loads pre = (Frm.scan s.data.toList).1 by rw [← H1.out, hst]; simp)
      have F2 := Lib.hid (show lastEnd pre + (Frm.scan s.data.toList).2.length = s.size by rw [← H2.out, hst, ← Lib.size_eq]; exact H3.out)
      clear hst H1 H2 H3
      gi_wp2
      refine ⟨fun _ h => (by cases h), ?_⟩
      gi_wp2
      refine bodyPost_ret (results_none rfl _ _ _) rfl ?_
      exact ⟨⟨_, rfl⟩, .inl ⟨pre, ⟨F1.out, F2.out⟩, hJ1⟩⟩

theorem boxInt_own {β : Type} (B : Nat) (t : TypeId) : Own (fun (_ : β) W => ∃ a : Int, Boxed W B t (.int .i64 a)) := by
  rintro s X Y row ⟨a, ha⟩ hg hrow
  refine ⟨a, ha.kept hg (fun e' => ?_)⟩
  obtain ⟨o, ho, hc⟩ := hrow B e'.symm
  rw [show X.heap[B]? = _ from ha] at ho; cases ho; cases hc
theorem ownsRow_low {W : World} {B B' : Nat} {e : TypeId} {size : Nat} {v : Value} {k : Nat} {xs : List Value} (h : W.ownsRow B e size v k xs) (hB : B' ≤ B) : W.ownsRow B' e size v k xs := by
  refine ⟨h.1, ?_⟩
  rcases h.2 with h1 | ⟨g, cap, cur, h1, h2, h3⟩
  · exact .inl h1
  · exact .inr ⟨g, cap, cur, h1, by omega, h3⟩
theorem frames_stops (n : Nat) (hn : 1 ≤ n) (Bn : Nat) (s : ByteArray) (hs : s.size ≤ 1000000000000) (w : World) (hc : w.cell? ⟨Bn, 0, none⟩ = some (.string s)) :
    SeqStopsK Fence.wide n Tryz.prog 114 #[.pointer (some ⟨Bn, 0, none⟩)] (fun x : ByteArray × Nat => #[Value.string x.1, .int .i64 x.2]) (KeepsCell Bn)
      (fun ys => loads ys = (Frm.scan s.data.toList).1 ∧ lastEnd ys + (Frm.scan s.data.toList).2.length = s.size) (fun _ => True) (s.size + 1) w := fun l J Jx W hW hJ _ hY h0 =>
  frames1_in n hn l Bn s hs J Jx W hJ hY (cell_kept hW (Nat.le_refl _) hc) h0
theorem frames_any (s : ByteArray) (w : World) :
    Calls Tryz.prog 81 #[.string s] w fun e w' => e = .returned (.func (.func 114) #[] #[.pointer (some ⟨w.heap.size, 0, none⟩)]) ∧ w' = w.alloc (.cells #[.string s] 9) := by
  go_enter Tryz.func81, Tryz.ntmps81
  go_wp2
  go_ret
  exact ⟨rfl, rfl⟩
theorem strT : ElemT Tryz.prog 58 9 1 := by
  have h : (Tryz.prog.info? 9).map (fun i => (i.zero, i.size, i.bytes)) = some (some (.string ⟨#[]⟩), 1, 16) := by kernel_rfl
  obtain ⟨i0, hi, hz0, hz1, hz2⟩ := info_parts h
  exact ⟨Tryz.underlying58, ⟨i0, _, 16, hi, hz0, hz1, hz2, rfl, by omega⟩, by omega⟩

set_option maxRecDepth 100000 in
set_option maxHeartbeats 2000000 in
theorem scan_any (s : ByteArray) (w : World) (hs : s.size ≤ 1073741824) :
    Calls Tryz.prog 46 #[.string s] w fun e w' => ∃ v at_, e = .returned (.tuple #[v, .int .i64 at_]) ∧ w'.ownsRow w.heap.size 9 1 v (Frm.scan s.data.toList).1.length (strCells (Frm.scan s.data.toList).1) ∧ Below w.heap.size w w' := by
  refine (callsIn_wide (n := 6)).1 ?_
  obtain ⟨i0, z0, by0, hi, hz0, hz1, hz2, hz3, hz4⟩ := strT.info
  refine callsIn_of_wp_marks Tryz.func46 rfl trivial ?_ rfl
  simp only [Tryz.ntmps46, List.size_toArray, List.length_cons, List.length_nil, Nat.reduceAdd, Nat.reduceSub, Array.replicate_succ, Array.replicate_zero, List.push_toArray, List.append_toArray, List.nil_append, List.cons_append]
  gi_wp2
  refine ⟨trivial, (callsIn_wide.2 (frames_any s _)).mono ?_⟩
  rintro e w' ⟨rfl, rfl⟩
  gi_wp2
  have bO := ((Boxed.new w 58 (.slice none 0 0)).alloc (.cells #[.int .i64 0] 3)).alloc (.cells #[.string s] 9)
  have bA := (Boxed.new (w.alloc (.cells #[.slice none 0 0] 58)) 3 (.int .i64 0)).alloc (.cells #[.string s] 9)
  have bN := Boxed.new ((w.alloc (.cells #[.slice none 0 0] 58)).alloc (.cells #[.int .i64 0] 3)) 9 (.string s)
  rw [World.size_alloc] at bA
  rw [World.size_alloc, World.size_alloc] at bN
  have hB0 : Below w.heap.size w (((w.alloc (.cells #[.slice none 0 0] 58)).alloc (.cells #[.int .i64 0] 3)).alloc (.cells #[.string s] 9)) := (((Below.refl _ w).alloc (Nat.le_refl _) _).alloc (by simp) _).alloc (by simp; omega) _
  obtain ⟨W0, hW0⟩ : ∃ W0, (((w.alloc (.cells #[.slice none 0 0] 58)).alloc (.cells #[.int .i64 0] 3)).alloc (.cells #[.string s] 9)) = W0 := ⟨_, rfl⟩
  have hsz0 : W0.heap.size = w.heap.size + 3 := by rw [← hW0]; simp
  rw [hW0] at bO bA bN hB0 ⊢
  clear hW0
  refine wpIn_rangeFunc_ownF rfl (by omega) (gf := 114) (lb := #[.pointer (some ⟨w.heap.size + 1 + 1, 0, none⟩)]) rfl trivial (enters_of Tryz.func114 (by kernel_rfl) rfl)
    (frames_stops 5 (by omega) (w.heap.size + 1 + 1) s (by omega) W0 bN.cell) keepsCell_t (fun W l o o' _ h1 h2 _ => keepsCell_b _ W l o o' h1 h2) (Below.refl _ _) (fun _ => rfl)
    (fun pre W => (∃ v, Boxed W w.heap.size 58 v ∧ W.ownsRow (w.heap.size + 3) 9 1 v (loads pre).length (strCells (loads pre)) ∧ True) ∧ (∃ a : Int, Boxed W (w.heap.size + 1) 3 (.int .i64 a)) ∧ Below w.heap.size W0 W)
    (fun _ _ _ => False)
    (OwnFrom.and (Own.from (holdsRow_own (w.heap.size + 3) w.heap.size 58 9 1 (fun pre => (loads pre).length) (fun pre => strCells (loads pre)) (fun _ _ => True)) _) (OwnFrom.and (Own.from (boxInt_own _ _) _) (ownFrom_below (by omega) (by omega))))
    (fun _ _ _ _ _ hs _ _ => hs)
    ⟨⟨_, bO, World.ownsRow_nil _ _ _ _, trivial⟩, ⟨_, bA⟩, Below.refl _ _⟩
    (fun x => { tmps := #[.string s, undef, .slice none 0 0, .int .i64 0, .pointer (some ⟨w.heap.size, 0, none⟩), .pointer (some ⟨w.heap.size + 1, 0, none⟩), .string x.1, .int .i64 x.2, .string s, .func (.func 114) #[] #[.pointer (some ⟨w.heap.size + 1 + 1, 0, none⟩)], .string x.1, .int .i64 x.2, undef, undef, undef, undef, undef, undef, undef], defers := [] }) ?assign ?body ?done ?stop
  case assign =>
    intro l x W K hK
    gi_wp2
    exact hK
  case body =>
    rintro l pre x W ⟨⟨v, hv, hrow, _⟩, ⟨a, ha⟩, hB⟩ hlt
    have hc := hv.cell
    have hca := ha.cell
    have hpl : (loads pre).length ≤ pre.length := by simp [loads]
    have hBs : w.heap.size + 3 ≤ W.heap.size := by have := hB.size; omega
    gi_wp2_with (gi_at_builtin; refine wpListIn_append_own _ rfl _ _ 58 rfl (w.heap.size + 3) 9 i0 z0 1 by0 Tryz.underlying58 hi hz0 hz1 hz2 hz3 (by decide) v _ _ rfl (hrow.alloc _) ⟨W.heap.size, 0, none⟩ 1 1 [.string x.1] rfl rfl (cells_top W [.string x.1] _) (by simp [Value.oneCell']) (by unfold maxLen; omega) (Nat.le_trans (Nat.mul_le_mul_left _ hz4) (by omega)) (by simp; omega) ?_; intro v' w1 hown' hgrow _; obtain ⟨g', cap', rfl⟩ := ownsRow_succ hown'; have hv1 := (hv.alloc (.cells #[.string x.1] 9)).kept hgrow (hv.not_row (by decide) hrow); have hc1 := hv1.cell; have hf1 := hv1.frozen; have ha1 := (ha.alloc (.cells #[.string x.1] 9)).kept hgrow (ha.not_row (by decide) hrow); have hc2 := ha1.cell; have hf2 := ha1.frozen)
    obtain ⟨_, hv2, _, hk2, hb2⟩ := hv.appended (by decide) (ownsRow_low hrow (by omega)) (Nat.le_trans (by omega) hBs) (Nat.le_refl _) (ownsRow_low hown' (by omega)) hgrow
    have hr2 := hown'.kept (grownBy_setCell' w1 w.heap.size (.slice (some ⟨g', 0, none⟩) ((loads pre).length + 1) cap')) (.inr (hv1.not_row (by decide) hown').symm)
    have ha2 := ha1.kept (grownBy_setCell' w1 w.heap.size (.slice (some ⟨g', 0, none⟩) ((loads pre).length + 1) cap')) (by simp)
    refine ⟨hk2.trans (KeepsOthers.setCell _ _ _), fun u hu => ?_, ⟨⟨_, hv2.kept (grownBy_setCell' _ (w.heap.size + 1) _) (by simp), ?_, trivial⟩, ⟨_, ha2.set _⟩, ?_⟩⟩
    · have h1 := (hgrow.cell ((World.grownBy_alloc W _ none).cell hu (by simp)) (fun e => by have := (hrow.lt _ e.symm).1; simp only at this; omega) : w1.cell? ⟨w.heap.size + 1 + 1, 0, none⟩ = some u)
      exact (grownBy_setCell' _ (w.heap.size + 1) _).cell ((grownBy_setCell' w1 w.heap.size _).cell h1 (by simp; omega)) (by simp)
    · have hr3 := hr2.kept (grownBy_setCell' _ (w.heap.size + 1) (.int .i64 x.2)) (.inr (ha2.not_row (by decide) hr2).symm)
      rw [loads_snoc]
      simpa [strCells] using hr3
    · exact (hB.trans hb2).setCell (p := ⟨w.heap.size + 1, 0, none⟩) (by simp) _
  case done =>
    rintro D ys W hD ⟨hl1, _⟩ ⟨⟨v, hv, hrow, _⟩, ⟨a, ha⟩, hB⟩ hK
    have hc := hv.cell
    have hca := ha.cell
    gi_wp2
    gi_region
    gi_wp2
    have hK' : W.drew.heap[D]? = some (.deferred (some [])) := hK
    refine ⟨by simp, .inl ⟨_, _, rfl, run_takeDeferred hK', ?_⟩⟩
    refine ⟨.tuple #[v, .int .i64 a], ?_, v, a, rfl, ?_, ?_⟩
    · simp [results, Tryz.f46, go_sem]
    · rw [← hl1]
      exact ownsRow_low (ownsRow_putObj (hrow.kept (grown_of_below ((Below.refl _ W).drew)) (by cases v.ownBlock <;> simp)) _ hK' rfl) (by omega)
    · exact (hB0.trans hB.drew).trans (belowK_b (w := w) (Nat.le_refl _) W.drew D _ _ (by omega) hK' rfl rfl)
  case stop =>
    rintro D c pre W _ _ h _
    exact h.elim
end Go.Proofs.YthmblkckpdpjkaaGreatDoor
