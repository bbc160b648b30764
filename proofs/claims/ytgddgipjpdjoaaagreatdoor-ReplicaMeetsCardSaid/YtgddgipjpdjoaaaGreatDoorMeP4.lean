/-
  A state's parts, plain: rows of streams and of requests; what an append more makes of them.
  The walk of state.Parts.
  The walk of state.Parts.
-/
import Derived.Test.YtgddgipjpdjoaaaGreatDoorMeP3
namespace Go.Proofs.YtgddgipjpdjoaaaGreatDoor
open Go.RowKit Go.Shelf
abbrev StX := List UInt8 × Value × Value
def strmCells (xs : List StX) : List Value := xs.flatMap fun x => [.string ⟨x.1.toArray⟩, x.2.1, x.2.2]
theorem strmCells_snoc (xs : List StX) (x : StX) : strmCells (xs ++ [x]) = strmCells xs ++ [.string ⟨x.1.toArray⟩, x.2.1, x.2.2] := by simp [strmCells]
abbrev ReqX := Int × Int × Outc
def reqCells (rs : List ReqX) : List Value := rs.flatMap fun r => [.int .i64 r.1, .int .i64 r.2.1, .int .i64 r.2.2.code, .int .i64 r.2.2.pos, .int .i64 r.2.2.first, .int .i64 r.2.2.version]
theorem reqCells_snoc (rs : List ReqX) (r : ReqX) : reqCells (rs ++ [r]) = reqCells rs ++ [.int .i64 r.1, .int .i64 r.2.1, .int .i64 r.2.2.code, .int .i64 r.2.2.pos, .int .i64 r.2.2.first, .int .i64 r.2.2.version] := by simp [reqCells]
structure PartsR (st : Stat) (ns : List (List UInt8)) (ks : List Int) (qf : Int → List Int) : Prop where
 n : NamesOf st.f ns
 k : KeysOf (fun k => st.S k ≠ none) ks
 q : ∀ k hi O, st.S k = some (hi, O) → KeysOf (fun q => O q ≠ none) (qf k)
def reqsL (S : Sess) (ks : List Int) (qf : Int → List Int) : List ReqX := ks.flatMap fun k => (qf k).map fun q => (k, q, (lookF S k q).1)
theorem flatMap_same {α β : Type} {f g : α → List β} : ∀ (l : List α), (∀ x ∈ l, f x = g x) → l.flatMap f = l.flatMap g
 | [], _ => rfl
 | x :: l, h => by
   rw [List.flatMap_cons, List.flatMap_cons, h x (List.mem_cons_self ..), flatMap_same l fun y hy => h y (List.mem_cons_of_mem _ hy)]
theorem PartsR.one {st : Stat} {ns ns' : List (List UInt8)} {ks ks' : List Int} {qf qf' : Int → List Int} (h : PartsR st ns ks qf) (h' : PartsR st ns' ks' qf') : ns = ns' ∧ reqsL st.S ks qf = reqsL st.S ks' qf' := by
 refine ⟨h.n.one h'.n, ?_⟩
 obtain rfl := h.k.one h'.k
 unfold reqsL
 refine flatMap_same _ fun k hk => ?_
 have := (h.k.2.2 k).1 hk
 cases hS : st.S k with
 | none => exact (this hS).elim
 | some x => rw [(h.q k x.1 x.2 hS).one (h'.q k x.1 x.2 hS)]
def StrRows (w : World) (f : Streams) (x : StX) : Prop := w.ownsRow 0 149 2 x.2.1 (f x.1).length (evCells ((f x.1).map (·.2))) ∧ w.ownsRow 0 3 1 x.2.2 (f x.1).length (intCells ((f x.1).map (·.1)))
theorem StrRows.next {w w' : World} {f : Streams} {x : StX} (h : StrRows w f x) (hb : Below w.heap.size w w') : StrRows w' f x := ⟨owns_next h.1 hb, owns_next h.2 hb⟩
theorem StrRows.kept {w w' : World} {f : Streams} {x : StX} {b ty : Nat} {c : Array Value} {fr : Nat × Nat} (h : StrRows w f x) (hg : w.grownBy w' (some b)) (hb : w.heap[b]? = some (.cells c ty fr)) (h1 : ty ≠ 149) (h2 : ty ≠ 3) : StrRows w' f x :=
 ⟨h.1.kept hg (.inr (own_ne h.1 hb h1)), h.2.kept hg (.inr (own_ne h.2 hb h2))⟩
def PartsAt (w : World) (sv rv : Value) (f : Streams) (ns : List (List UInt8)) (rs : List ReqX) : Prop :=
 ∃ xs : List StX, xs.map (·.1) = ns ∧ Cells w sv 3 xs.length (strmCells xs) ∧ (∀ x ∈ xs, StrRows w f x) ∧ Cells w rv 6 rs.length (reqCells rs)
theorem PartsAt.next {w w' : World} {sv rv : Value} {f : Streams} {ns : List (List UInt8)} {rs : List ReqX} (h : PartsAt w sv rv f ns rs) (hb : Below w.heap.size w w') : PartsAt w' sv rv f ns rs := by
 obtain ⟨xs, h1, h2, h3, h4⟩ := h
 exact ⟨xs, h1, h2.next hb, fun x hx => (h3 x hx).next hb, h4.next hb⟩
structure PP (TP TS TR : Nat) (w0 : World) (base pb rb : Nat) (app : Int) (f : Streams) (xs : List StX) (sv : Value) (rs : List ReqX) (rv : Value) (w : World) : Prop where
 p : w.heap[pb]? = some (.cells #[.int .i64 app, sv, rv] TP (0, 0))
 r : w.heap[rb]? = some (.cells #[.int .i64 0, .slice none 0 0, .slice none 0 0] TP (0, 0))
 so : w.ownsRow base TS 3 sv xs.length (strmCells xs)
 rows : ∀ x ∈ xs, StrRows w f x
 ro : w.ownsRow base TR 6 rv rs.length (reqCells rs)
 bel : Below w0.heap.size w0 w
 lo : w0.heap.size ≤ base ∧ w0.heap.size ≤ pb ∧ pb < base ∧ rb < base ∧ pb ≠ rb
section
variable {TP TS TR : Nat} {w0 w W w2 : World} {base pb rb : Nat} {app : Int} {f : Streams} {xs : List StX} {sv rv sv2 rv2 : Value} {rs : List ReqX}
theorem PP.next (h : PP TP TS TR w0 base pb rb app f xs sv rs rv w) (hb : Below w.heap.size w W) : PP TP TS TR w0 base pb rb app f xs sv rs rv W :=
 ⟨(hb.block pb (Array.getElem?_eq_some_iff.1 h.p).1).trans h.p, (hb.block rb (Array.getElem?_eq_some_iff.1 h.r).1).trans h.r, owns_next h.so hb, fun x hx => (h.rows x hx).next hb, owns_next h.ro hb, h.bel.trans (hb.mono h.bel.size), h.lo⟩
theorem PP.addS (h : PP TP TS TR w0 base pb rb app f xs sv rs rv w) (hW : Below w.heap.size w W) (x : StX) (hown : w2.ownsRow base TS 3 sv2 (xs.length + 1) (strmCells xs ++ [.string ⟨x.1.toArray⟩, x.2.1, x.2.2])) (hg : W.grownBy w2 sv.ownBlock) (hx : StrRows W f x)
   (t1 : TS ≠ 149 ∧ TS ≠ 3 ∧ TS ≠ TR ∧ TS ≠ TP ∧ TP ≠ 149 ∧ TP ≠ 3 ∧ TP ≠ TR) :
   PP TP TS TR w0 base pb rb app f (xs ++ [x]) sv2 rs rv (w2.setCell ⟨pb, 1, none⟩ sv2) := by
 have h := h.next hW
 have lp := (Array.getElem?_eq_some_iff.1 h.p).1
 have lr := (Array.getElem?_eq_some_iff.1 h.r).1
 have lo := h.lo
 have nb : ∀ b, sv.ownBlock = some b → base ≤ b := fun b hb => (h.so.lt b hb).1
 have p2 : w2.heap[pb]? = _ := (hg.block pb lp (fun e => by have := nb pb e.symm; omega)).trans h.p
 have r2 : w2.heap[rb]? = _ := (hg.block rb lr (fun e => by have := nb rb e.symm; omega)).trans h.r
 have hg3 : w2.grownBy (w2.setCell ⟨pb, 1, none⟩ sv2) (some pb) := grown_set _ _ _ _
 have ro2 : w2.ownsRow base TR 6 rv rs.length (reqCells rs) := h.ro.kept hg (by
   cases e : rv.ownBlock with
   | none => exact .inl rfl
   | some b => exact .inr fun e2 => own_apart h.ro h.so t1.2.2.1.symm b e e2.symm)
 have key : ∀ y, StrRows W f y → StrRows w2 f y := fun y hy => ⟨hy.1.kept hg (by
     cases e : y.2.1.ownBlock with
     | none => exact .inl rfl
     | some b => exact .inr fun e2 => own_apart hy.1 h.so t1.1.symm b e e2.symm), hy.2.kept hg (by
     cases e : y.2.2.ownBlock with
     | none => exact .inl rfl
     | some b => exact .inr fun e2 => own_apart hy.2 h.so t1.2.1.symm b e e2.symm)⟩
 refine ⟨setCell_at (i := 1) p2 _, (hg3.block rb (Array.getElem?_eq_some_iff.1 r2).1 (by have := lo.2.2.2.2; simpa using this.symm)).trans r2, ?_, fun y hy => ?_, ro2.kept hg3 (.inr (own_ne ro2 p2 t1.2.2.2.2.2.2)), ?_, lo⟩
 · rw [strmCells_snoc, List.length_append]
   exact hown.kept hg3 (.inr (own_ne hown p2 t1.2.2.2.1.symm))
 · refine StrRows.kept (key y ?_) hg3 p2 t1.2.2.2.2.1 t1.2.2.2.2.2.1
   rcases List.mem_append.1 hy with hy | hy
   · exact h.rows y hy
   · obtain rfl : y = x := by simpa using hy
     exact hx
 · have b2 : Below w0.heap.size w0 w2 := h.bel.grown hg h.bel.size (fun j hj => by have := nb j hj; omega)
   exact b2.grown hg3 b2.size (fun j hj => by cases hj; omega)
theorem PP.addR (h : PP TP TS TR w0 base pb rb app f xs sv rs rv w) (hW : Below w.heap.size w W) (x : ReqX) (hown : w2.ownsRow base TR 6 rv2 (rs.length + 1) (reqCells rs ++ [.int .i64 x.1, .int .i64 x.2.1, .int .i64 x.2.2.code, .int .i64 x.2.2.pos, .int .i64 x.2.2.first, .int .i64 x.2.2.version])) (hg : W.grownBy w2 rv.ownBlock)
   (t1 : TR ≠ 149 ∧ TR ≠ 3 ∧ TR ≠ TS ∧ TR ≠ TP ∧ TP ≠ 149 ∧ TP ≠ 3 ∧ TP ≠ TS) :
   PP TP TS TR w0 base pb rb app f xs sv (rs ++ [x]) rv2 (w2.setCell ⟨pb, 2, none⟩ rv2) := by
 have h := h.next hW
 have lp := (Array.getElem?_eq_some_iff.1 h.p).1
 have lr := (Array.getElem?_eq_some_iff.1 h.r).1
 have lo := h.lo
 have nb : ∀ b, rv.ownBlock = some b → base ≤ b := fun b hb => (h.ro.lt b hb).1
 have p2 : w2.heap[pb]? = _ := (hg.block pb lp (fun e => by have := nb pb e.symm; omega)).trans h.p
 have r2 : w2.heap[rb]? = _ := (hg.block rb lr (fun e => by have := nb rb e.symm; omega)).trans h.r
 have hg3 : w2.grownBy (w2.setCell ⟨pb, 2, none⟩ rv2) (some pb) := grown_set _ _ _ _
 have so2 : w2.ownsRow base TS 3 sv xs.length (strmCells xs) := h.so.kept hg (by
   cases e : sv.ownBlock with
   | none => exact .inl rfl
   | some b => exact .inr fun e2 => own_apart h.so h.ro t1.2.2.1.symm b e e2.symm)
 have key : ∀ y, StrRows W f y → StrRows w2 f y := fun y hy => ⟨hy.1.kept hg (by
     cases e : y.2.1.ownBlock with
     | none => exact .inl rfl
     | some b => exact .inr fun e2 => own_apart hy.1 h.ro t1.1.symm b e e2.symm), hy.2.kept hg (by
     cases e : y.2.2.ownBlock with
     | none => exact .inl rfl
     | some b => exact .inr fun e2 => own_apart hy.2 h.ro t1.2.1.symm b e e2.symm)⟩
 refine ⟨setCell_at (i := 2) p2 _, (hg3.block rb (Array.getElem?_eq_some_iff.1 r2).1 (by have := lo.2.2.2.2; simpa using this.symm)).trans r2, so2.kept hg3 (.inr (own_ne so2 p2 t1.2.2.2.2.2.2)), fun y hy => StrRows.kept (key y (h.rows y hy)) hg3 p2 t1.2.2.2.2.1 t1.2.2.2.2.2.1, ?_, ?_, lo⟩
 · rw [reqCells_snoc, List.length_append]
   exact hown.kept hg3 (.inr (own_ne hown p2 t1.2.2.2.1.symm))
 · have b2 : Below w0.heap.size w0 w2 := h.bel.grown hg h.bel.size (fun j hj => by have := nb j hj; omega)
   exact b2.grown hg3 b2.size (fun j hj => by cases hj; omega)
theorem StrRows.evs {w : World} {f : Streams} {x : StX} (h : StrRows w f x) : Evs w x.2.1 ((f x.1).map (·.2)) ∧ Cells w x.2.2 1 (f x.1).length (intCells ((f x.1).map (·.1))) :=
 ⟨by unfold Evs; rw [List.length_map]; exact cells_of_owns h.1, cells_of_owns h.2⟩
end
theorem results_cellOne {P : Program} {fn : Func} {p : Tmp} {ty : TypeId} (h : fn.results = #[.cell p ty]) (tmps : Array Value) (w : World) (g : Nat) (t : TypeId) (cs : Array Value) (fr : Nat × Nat) (d : TypeDesc)
   (hp : tmps.getD p undef = .pointer (some ⟨g, 0, none⟩)) (hg : w.heap[g]? = some (.cells cs t fr))
   (hu : P.underlying ty = some d) (hd : (match d with | .struct _ | .array _ _ => true | _ => false) = true) (hi : (P.info? ty).map (·.size) = some cs.size) :
   (results fn tmps).run P w = .ok (.agg cs) w := by
 have hp' : tmps[p]?.getD undef = .pointer (some ⟨g, 0, none⟩) := by simpa using hp
 simp [results, h, hp', asAddr, run_loadVar_row w g t ty cs fr d hg hu hd hi]
end Go.Proofs.YtgddgipjpdjoaaaGreatDoor
namespace Go.Proofs.YtgddgipjpdjoaaaGreatDoor
open Go.RowKit Go.Shelf
abbrev PPs := PP 73 128 133
theorem strmT : ElemT Tryz.prog 70 128 3 := by
 have h : (Tryz.prog.info? 128).map (fun i => (i.zero, i.size, i.bytes)) = some (some (.agg #[.string ⟨#[]⟩, .slice none 0 0, .slice none 0 0]), 3, 64) := by kernel_rfl
 obtain ⟨i0, hi, hz0, hz1, hz2⟩ := info_parts h
 exact ⟨Tryz.underlying70, ⟨i0, _, 64, hi, hz0, hz1, hz2, rfl, by omega⟩, by omega⟩
theorem reqT : ElemT Tryz.prog 71 133 6 := by
 have h : (Tryz.prog.info? 133).map (fun i => (i.zero, i.size, i.bytes)) = some (some (.agg #[.int .i64 0, .int .i64 0, .int .i64 0, .int .i64 0, .int .i64 0, .int .i64 0]), 6, 48) := by kernel_rfl
 obtain ⟨i0, hi, hz0, hz1, hz2⟩ := info_parts h
 exact ⟨Tryz.underlying71, ⟨i0, _, 48, hi, hz0, hz1, hz2, rfl, by omega⟩, by omega⟩
theorem wrap_small {x : Int} (h1 : 0 ≤ x) (h2 : x ≤ 1000000) : IntKind.i64.wrap x = x := by
 rw [IntKind.wrap_i64]
 omega
theorem wrap_next {n m : Nat} (h1 : n < m) (h2 : m ≤ 640000) : wrap64 ((n : Int) + 1) = (n : Int) + 1 := IntWalk.wrap64_in _ (by omega)
theorem wrap_nextI {n m : Nat} (h1 : n < m) (h2 : m ≤ 640000) : IntKind.i64.wrap ((n : Int) + 1) = (n : Int) + 1 := wrap_small (by omega) (by omega)
theorem parts_size : (Tryz.prog.info? 73).map (·.size) = some 3 := by kernel_rfl
theorem ppsT : 128 ≠ 149 ∧ 128 ≠ 3 ∧ 128 ≠ 133 ∧ 128 ≠ 73 ∧ 73 ≠ 149 ∧ 73 ≠ 3 ∧ 73 ≠ 133 := by decide
theorem pprT : 133 ≠ 149 ∧ 133 ≠ 3 ∧ 133 ≠ 128 ∧ 133 ≠ 73 ∧ 73 ≠ 149 ∧ 73 ≠ 3 ∧ 73 ≠ 128 := by decide
def XW (wr : World) (xb : Nat) (nm : List UInt8) (l : List (Int × Evt.Event)) (ea : Option Addr) (ec : Nat) (j : Nat) (pv : Value) (w : World) : Prop :=
 w.heap[xb]? = some (.cells #[.string ⟨nm.toArray⟩, .slice ea l.length ec, pv] 128 (0, 0)) ∧ wr.heap.size ≤ xb ∧ w.ownsRow wr.heap.size 3 1 pv j (intCells ((l.take j).map (·.1))) ∧
   w.ownsRow 0 149 2 (.slice ea l.length ec) l.length (evCells (l.map (·.2))) ∧ Below wr.heap.size wr w
theorem XW.cells {wr w : World} {xb : Nat} {nm : List UInt8} {l : List (Int × Evt.Event)} {ea : Option Addr} {ec j : Nat} {pv : Value} (h : XW wr xb nm l ea ec j pv w) : w.cell? ⟨xb, 0, none⟩ = some (.string ⟨nm.toArray⟩) ∧ w.cell? ⟨xb, 1, none⟩ = some (.slice ea l.length ec) ∧ w.cell? ⟨xb, 2, none⟩ = some pv ∧ w.frozen? ⟨xb, 2, none⟩ = false := by
 refine ⟨?_, ?_, ?_, Lib.frozen_of_heap h.1 2⟩ <;> (rw [Lib.cell_of_heap h.1]; rfl)
theorem XW.next {wr w W : World} {xb : Nat} {nm : List UInt8} {l : List (Int × Evt.Event)} {ea : Option Addr} {ec j : Nat} {pv : Value} (h : XW wr xb nm l ea ec j pv w) (hb : Below w.heap.size w W) : XW wr xb nm l ea ec j pv W :=
 ⟨(hb.block xb (Array.getElem?_eq_some_iff.1 h.1).1).trans h.1, h.2.1, owns_next h.2.2.1 hb, owns_next h.2.2.2.1 hb, h.2.2.2.2.trans (hb.mono h.2.2.2.2.size)⟩
theorem XW.grow {wr w w2 : World} {xb : Nat} {nm : List UInt8} {l : List (Int × Evt.Event)} {ea : Option Addr} {ec j : Nat} {pv pv2 : Value} (h : XW wr xb nm l ea ec j pv w) (hj : j < l.length) (hown : w2.ownsRow wr.heap.size 3 1 pv2 (j + 1) (intCells ((l.take j).map (·.1)) ++ [.int .i64 l[j].1])) (hg : w.grownBy w2 pv.ownBlock) :
   (w2.cell? ⟨xb, 2, none⟩ = some pv ∧ w2.frozen? ⟨xb, 2, none⟩ = false) ∧ XW wr xb nm l ea ec (j + 1) pv2 (w2.setCell ⟨xb, 2, none⟩ pv2) := by
 obtain ⟨h1, h2, h3, h4, h5⟩ := h
 have hx2 : w2.heap[xb]? = _ := (hg.block xb (Array.getElem?_eq_some_iff.1 h1).1 (fun e => own_ne h3 h1 (by decide) e.symm)).trans h1
 have hg3 : w2.grownBy (w2.setCell ⟨xb, 2, none⟩ pv2) (some xb) := grown_set _ _ _ _
 have b2 : Below wr.heap.size wr w2 := h5.grown hg h5.size (fun k hk => (h3.lt k hk).1)
 have e4 : w2.ownsRow 0 149 2 (.slice ea l.length ec) l.length (evCells (l.map (·.2))) := h4.kept hg (by
   cases e : (Value.slice ea l.length ec).ownBlock with
   | none => exact .inl rfl
   | some b => exact .inr fun e2 => own_apart h4 h3 (by decide) b e e2.symm)
 refine ⟨⟨by rw [Lib.cell_of_heap hx2]; rfl, Lib.frozen_of_heap hx2 2⟩, setCell_at (i := 2) hx2 _, h2, ?_, e4.kept hg3 (.inr (own_ne e4 hx2 (by decide))), b2.grown hg3 b2.size (fun k hk => by cases hk; exact h2)⟩
 have : intCells ((l.take (j + 1)).map (·.1)) = intCells ((l.take j).map (·.1)) ++ [.int .i64 l[j].1] := by
   rw [List.take_succ_eq_append_getElem hj, List.map_append]
   simp [intCells]
 rw [this]
 exact hown.kept hg3 (.inr (own_ne hown hx2 (by decide)))
theorem PP.cells {TP TS TR : Nat} {w0 w : World} {base pb rb : Nat} {app : Int} {f : Streams} {xs : List StX} {sv rv : Value} {rs : List ReqX} (h : PP TP TS TR w0 base pb rb app f xs sv rs rv w) :
   w.cell? ⟨pb, 0, none⟩ = some (.int .i64 app) ∧ w.cell? ⟨pb, 1, none⟩ = some sv ∧ w.cell? ⟨pb, 2, none⟩ = some rv ∧ w.frozen? ⟨pb, 1, none⟩ = false ∧ w.frozen? ⟨pb, 2, none⟩ = false := by
 refine ⟨?_, ?_, ?_, Lib.frozen_of_heap h.p 1, Lib.frozen_of_heap h.p 2⟩ <;> (rw [Lib.cell_of_heap h.p]; rfl)
theorem PP.grownS {TP TS TR : Nat} {w0 w w2 : World} {base pb rb : Nat} {app : Int} {f : Streams} {xs : List StX} {sv rv : Value} {rs : List ReqX} (h : PP TP TS TR w0 base pb rb app f xs sv rs rv w) (hg : w.grownBy w2 sv.ownBlock) : w2.cell? ⟨pb, 1, none⟩ = some sv ∧ w2.frozen? ⟨pb, 1, none⟩ = false := by
 have p2 := (hg.block pb (Array.getElem?_eq_some_iff.1 h.p).1 (fun e => by have := (h.so.lt pb e.symm).1; have := h.lo; omega)).trans h.p
 exact ⟨by rw [Lib.cell_of_heap p2]; rfl, Lib.frozen_of_heap p2 1⟩
theorem PP.grownR {TP TS TR : Nat} {w0 w w2 : World} {base pb rb : Nat} {app : Int} {f : Streams} {xs : List StX} {sv rv : Value} {rs : List ReqX} (h : PP TP TS TR w0 base pb rb app f xs sv rs rv w) (hg : w.grownBy w2 rv.ownBlock) : w2.cell? ⟨pb, 2, none⟩ = some rv ∧ w2.frozen? ⟨pb, 2, none⟩ = false := by
 have p2 := (hg.block pb (Array.getElem?_eq_some_iff.1 h.p).1 (fun e => by have := (h.ro.lt pb e.symm).1; have := h.lo; omega)).trans h.p
 exact ⟨by rw [Lib.cell_of_heap p2]; rfl, Lib.frozen_of_heap p2 2⟩
theorem PP.fin {TP TS TR : Nat} {w0 w : World} {base pb rb : Nat} {app : Int} {f : Streams} {xs : List StX} {sv rv : Value} {rs : List ReqX} (h : PP TP TS TR w0 base pb rb app f xs sv rs rv w) (t1 : TS ≠ TP ∧ TR ≠ TP ∧ TP ≠ 149 ∧ TP ≠ 3) :
   (((w.setCell ⟨rb, 0, none⟩ (.int .i64 app)).setCell ⟨rb, 1, none⟩ sv).setCell ⟨rb, 2, none⟩ rv).heap[rb]? = some (.cells #[.int .i64 app, sv, rv] TP (0, 0)) ∧
     PartsAt (((w.setCell ⟨rb, 0, none⟩ (.int .i64 app)).setCell ⟨rb, 1, none⟩ sv).setCell ⟨rb, 2, none⟩ rv) sv rv f (xs.map (·.1)) rs ∧
     w.grownBy (((w.setCell ⟨rb, 0, none⟩ (.int .i64 app)).setCell ⟨rb, 1, none⟩ sv).setCell ⟨rb, 2, none⟩ rv) (some rb) := by
 have hg := grown_trans (grown_trans (grown_set w rb 0 (.int .i64 app)) (grown_set _ rb 1 sv)) (grown_set _ rb 2 rv)
 refine ⟨setCell_at (i := 2) (setCell_at (i := 1) (setCell_at (i := 0) h.r _) _) _, ⟨xs, rfl, cells_of_owns (h.so.kept hg (.inr (own_ne h.so h.r t1.1.symm))), fun x hx => ?_, cells_of_owns (h.ro.kept hg (.inr (own_ne h.ro h.r t1.2.1.symm)))⟩, hg⟩
 exact (h.rows x hx).kept hg h.r t1.2.2.1 t1.2.2.2
set_option maxHeartbeats 16000000 in
set_option maxRecDepth 100000 in
theorem stateParts_any (c : Nat) (st : Stat) (w : World) (h : IsC w c st) (hS : SOk st.S) (hn : st.n ≤ 400) (hm : st.m ≤ 400) :
   Calls Tryz.prog 29 #[.pointer (some ⟨c, 0, none⟩)] w fun e w' => ∃ sv rv ns ks qf, e = .returned (.agg #[.int .i64 st.app, sv, rv]) ∧ Hid (PartsR st ns ks qf) ∧ ns.length ≤ 800 ∧ (reqsL st.S ks qf).length ≤ 640000 ∧ Hid (PartsAt w' sv rv st.f ns (reqsL st.S ks qf)) ∧ Below w.heap.size w w' := by
 obtain ⟨x, t, fx, fq, hbox, hY, hT⟩ := h
 have hcl := (Array.getElem?_eq_some_iff.1 hbox).1
 have HK := Lib.hid (fun (Z : World) (hZ : Below w.heap.size w Z) => (show Z.cell? ⟨c, 0, none⟩ = some (.pointer (some ⟨x, 0, none⟩)) ∧ Z.cell? ⟨c, 1, none⟩ = some (.pointer (some ⟨t, 0, none⟩)) ∧ Z.cell? ⟨c, 2, none⟩ = some (.int .i64 st.app) from by
   have := (hZ.block c hcl).trans hbox
   refine ⟨?_, ?_, ?_⟩ <;> (rw [Lib.cell_of_heap this]; rfl)))
 have HY := Lib.hid (fun (Z : World) (hZ : Below w.heap.size w Z) => hY.next hZ)
 have HT := Lib.hid (fun (Z : World) (hZ : Below w.heap.size w Z) => hT.next hZ)
 have HQF := Lib.hid hT.seqs
 have HSO := Lib.hid hS
 obtain ⟨app, happ⟩ : ∃ app, st.app = app := ⟨_, rfl⟩
 rw [happ] at HK ⊢
 have bA : Below w.heap.size w (w.alloc (.cells #[.int .i64 0, .slice none 0 0, .slice none 0 0] 73)) := (Below.refl _ w).alloc (Nat.le_refl _) _
 have kA := (HK.out _ bA).2.2
 obtain ⟨W, hW⟩ : ∃ W, (w.alloc (.cells #[.int .i64 0, .slice none 0 0, .slice none 0 0] 73)).alloc (.cells #[.int .i64 app, .slice none 0 0, .slice none 0 0] 73) = W := ⟨_, rfl⟩
 have bW : Below w.heap.size w W := by rw [← hW]; exact bA.alloc bA.size _
 have hPP : PPs w (w.heap.size + 2) (w.heap.size + 1) w.heap.size app st.f [] (.slice none 0 0) [] (.slice none 0 0) W := by
   refine ⟨?_, ?_, World.ownsRow_nil _ _ _ _, fun x hx => (by cases hx), World.ownsRow_nil _ _ _ _, bW, by omega⟩
   · rw [← hW]
     have := heap_alloc_new (w.alloc (.cells #[.int .i64 0, .slice none 0 0, .slice none 0 0] 73)) (.cells #[.int .i64 app, .slice none 0 0, .slice none 0 0] 73)
     rw [World.size_alloc] at this
     exact this
   · rw [← hW]
     exact (Below.heap_alloc _ _ _ (by simp)).trans (heap_alloc_new w _)
 have k0 : ((w.alloc (.cells #[.int .i64 0, .slice none 0 0, .slice none 0 0] 73)).alloc (.cells #[.int .i64 app, .slice none 0 0, .slice none 0 0] 73)).cell? ⟨c, 0, none⟩ = some (.pointer (some ⟨x, 0, none⟩)) := by
   rw [hW]; exact (HK.out W bW).1
 have HN := Lib.hid (namesY_any x st.f _ fx W (HY.out W bW) (by omega))
 have HW := Lib.hid hW
 clear hbox hY hT hcl bA bW hW hS
 go_enter Tryz.func29, Tryz.ntmps29
 go_wp2_with fail
 rw [HW.out]
 refine HN.out.mono ?_
 rintro e w1 ⟨sa, sc, ns, rfl, HNs, HLe, hnl, HRow, b1⟩
 have HP1 := Lib.hid (hPP.next b1)
 have HNL := Lib.hid hnl
 clear HN hPP b1 k0 kA hnl HW
 go_wp2_with fail
 go_loopw [25] (fun iv wr => ∃ (i : Nat) (xs : List StX) (sv : Value), iv = .int .i64 i ∧ i ≤ ns.length ∧ Hid (xs.map (·.1) = ns.take i) ∧ Hid (PPs w (w.heap.size + 2) (w.heap.size + 1) w.heap.size app st.f xs sv [] (.slice none 0 0) wr) ∧ Hid (wr.ownsRow 0 9 1 (.slice sa ns.length sc) ns.length (strCells ns))) (fun iv _ => ns.length - (Go.RowKit.intOf iv).toNat)
 case atStart => exact ⟨0, [], .slice none 0 0, rfl, by omega, Lib.hid (by simp), HP1, Lib.hid (ownsRow_low HRow.out (Nat.zero_le _))⟩
 case round =>
   obtain ⟨i, xs, sv, rfl, hi, HX, HP, HR⟩ := hrel
   obtain ⟨w2, rfl⟩ : ∃ w2, w2 = wr := ⟨_, rfl⟩
   by_cases hp : i < ns.length
   · obtain ⟨nb, no, nc, hv, e0⟩ := strAt (cells_of_owns HR.out) i hp
     cases hv
     obtain ⟨nm, hnm⟩ : ∃ nm, ns[i] = nm := ⟨_, rfl⟩
     rw [hnm] at e0
     have hml : nm.length ≤ maxLen := hnm ▸ HLe.out _ (List.getElem_mem hp)
     have HTK := Lib.hid (show ns.take (i + 1) = ns.take i ++ [nm] by rw [List.take_succ_eq_append_getElem hp, hnm])
     have hb2 : Below w.heap.size w w2 := HP.out.bel
     have HIP := Lib.hid (And.intro hi hp)
     have HWI := Lib.hid (show wrap64 ((i : Int) + 1) = (i : Int) + 1 from wrap_next hp (Nat.le_trans HNL.out (by omega)))
     obtain ⟨_, _, _, _, _, _, hll⟩ := (HY.out w2 hb2).look nm hml
     have HV := Lib.hid (fun (Z : World) (hZ : Below w.heap.size w Z) => verY_any x st.f _ fx nm Z (HY.out Z hZ) hml)
     have HG := Lib.hid (fun (Z : World) (hZ : Below w.heap.size w Z) => rangeY_any x st.f _ fx nm Z (HY.out Z hZ) hml (by omega))
     have HPo := Lib.hid (fun (Z : World) (hZ : Below w.heap.size w Z) (j : Nat) (hj : j < (st.f nm).length) => posY_any x st.f _ fx nm j Z (HY.out Z hZ) hml (by omega) hj)
     obtain ⟨l, hl⟩ : ∃ l, st.f nm = l := ⟨_, rfl⟩
     rw [hl] at HV HG HPo hll
     have HL := Lib.hid hl
     have HLL := Lib.hid (show l.length ≤ 800 by omega)
     have HB2 := Lib.hid hb2
     have HD0 := Lib.hid (show Below w2.heap.size w2 w2.drew from (Below.refl _ w2).drew)
     have HDA := Lib.hid (show Below w2.heap.size w2 (w2.drew.alloc (.cells #[.string ⟨#[]⟩, .slice none 0 0, .slice none 0 0] 128)) from HD0.out.alloc HD0.out.size _)
     have HUP := Lib.hid (fun (Z : World) (hZ : Below w2.heap.size w2 Z) => (show Below w.heap.size w Z from HB2.out.trans (hZ.mono HB2.out.size)))
     have kD := (HK.out _ (HUP.out _ HD0.out)).1
     have kA := (HK.out _ (HUP.out _ HDA.out)).1
     have HZA := Lib.hid (show (w2.drew.alloc (.cells #[.string ⟨#[]⟩, .slice none 0 0, .slice none 0 0] 128)).heap[w2.heap.size]? = some (.cells #[.string ⟨#[]⟩, .slice none 0 0, .slice none 0 0] 128 (0, 0)) from heap_alloc_new w2.drew _)
     clear hb2 hl hll hnm hml hi
     go_upto_region 5 with fail
     go_cut [6] (fun v wx => ∃ (xb : Nat) (ea : Option Addr) (ec : Nat), v = .pointer (some ⟨xb, 0, none⟩) ∧ Hid (XW w2 xb nm l ea ec 0 (.slice none 0 0) wx))
     case first =>
       go_region_held3 (fun Z => Z.cell? ⟨c, 0, none⟩ = some (.pointer (some ⟨x, 0, none⟩))) (first | exact kD | exact kA | exact q5 | exact q5z | exact q5a | exact q6 | exact q6a | exact q6b | exact q6c)
         (first
           | (go_at_call 70; refine (HV.out _ (HUP.out _ HD0.out)).mono ?_; rintro e w' ⟨rfl, rfl⟩)
           | (go_at_call 70; refine (HV.out _ (HUP.out _ HDA.out)).mono ?_; rintro e w' ⟨rfl, rfl⟩)
           | (go_at_call 69
              refine (HG.out _ (HUP.out _ HD0.out)).mono ?_
              rintro e w5 ⟨ea, ec, rfl, HE, hb5⟩
              have HB5 := Lib.hid (show Below w2.heap.size w2 w5 from HD0.out.trans (hb5.mono HD0.out.size))
              have HB5a := Lib.hid (show Below w2.heap.size w2 (w5.alloc (.cells #[.string ⟨nm.toArray⟩, .slice ea l.length ec, .slice none 0 0] 128)) from HB5.out.alloc HB5.out.size _)
              have HB5z := Lib.hid (show Below w2.heap.size w2 (w5.alloc (.cells #[.string ⟨#[]⟩, .slice none 0 0, .slice none 0 0] 128)) from HB5.out.alloc HB5.out.size _)
              have q5 := (HK.out _ (HUP.out _ HB5.out)).1
              have q5a := (HK.out _ (HUP.out _ HB5a.out)).1
              have q5z := (HK.out _ (HUP.out _ HB5z.out)).1
              have HF := Lib.hid (show ∃ (xb : Nat) (ea' : Option Addr) (ec' : Nat), Value.pointer (some ⟨w5.heap.size, 0, none⟩) = .pointer (some ⟨xb, 0, none⟩) ∧ Hid (XW w2 xb nm l ea' ec' 0 (.slice none 0 0) (w5.alloc (.cells #[.string ⟨nm.toArray⟩, .slice ea l.length ec, .slice none 0 0] 128))) from
                ⟨w5.heap.size, ea, ec, rfl, Lib.hid ⟨heap_alloc_new w5 _, HB5.out.size, World.ownsRow_nil _ _ _ _, (ownsRow_low HE.out (Nat.zero_le _)).alloc _, HB5a.out⟩⟩)
              clear hb5)
           | (go_at_call 69
              refine (HG.out _ (HUP.out _ HDA.out)).mono ?_
              rintro e w6 ⟨ea, ec, rfl, HE, hb6⟩
              have hz6 := (hb6.block _ (Array.getElem?_eq_some_iff.1 HZA.out).1).trans HZA.out
              have HB6 := Lib.hid (show Below w2.heap.size w2 w6 from HDA.out.trans (hb6.mono HDA.out.size))
              have f60 := Lib.frozen_of_heap hz6 0
              have f61 := Lib.frozen_of_heap hz6 1
              have f62 := Lib.frozen_of_heap hz6 2
              have c60 : w6.cell? ⟨w2.heap.size, 0, none⟩ = some (.string ⟨#[]⟩) := by rw [Lib.cell_of_heap hz6]; rfl
              have c61 : w6.cell? ⟨w2.heap.size, 1, none⟩ = some (.slice none 0 0) := by rw [Lib.cell_of_heap hz6]; rfl
              have c62 : w6.cell? ⟨w2.heap.size, 2, none⟩ = some (.slice none 0 0) := by rw [Lib.cell_of_heap hz6]; rfl
              have hga := grown_set w6 w2.heap.size 0 (.string ⟨nm.toArray⟩)
              have hgb := grown_trans hga (grown_set _ w2.heap.size 1 (.slice ea l.length ec))
              have hgc := grown_trans hgb (grown_set _ w2.heap.size 2 (.slice none 0 0))
              have hsz := HB6.out.size
              have HBa := Lib.hid (HB6.out.grown hga hsz (fun j hj => by cases hj; exact Nat.le_refl _))
              have HBb := Lib.hid (HB6.out.grown hgb hsz (fun j hj => by cases hj; exact Nat.le_refl _))
              have HBc := Lib.hid (HB6.out.grown hgc hsz (fun j hj => by cases hj; exact Nat.le_refl _))
              have q6 := (HK.out _ (HUP.out _ HB6.out)).1
              have q6a := (HK.out _ (HUP.out _ HBa.out)).1
              have q6b := (HK.out _ (HUP.out _ HBb.out)).1
              have q6c := (HK.out _ (HUP.out _ HBc.out)).1
              have HF := Lib.hid (show ∃ (xb : Nat) (ea' : Option Addr) (ec' : Nat), Value.pointer (some ⟨w2.heap.size, 0, none⟩) = .pointer (some ⟨xb, 0, none⟩) ∧ Hid (XW w2 xb nm l ea' ec' 0 (.slice none 0 0) (((w6.setCell ⟨w2.heap.size, 0, none⟩ (.string ⟨nm.toArray⟩)).setCell ⟨w2.heap.size, 1, none⟩ (.slice ea l.length ec)).setCell ⟨w2.heap.size, 2, none⟩ (.slice none 0 0))) from
                ⟨w2.heap.size, ea, ec, rfl, Lib.hid ⟨setCell_at (i := 2) (setCell_at (i := 1) (setCell_at (i := 0) hz6 _) _) _, Nat.le_refl _, World.ownsRow_nil _ _ _ _, (ownsRow_low HE.out (Nat.zero_le _)).kept hgc (.inr (own_ne HE.out hz6 (by decide))), HBc.out⟩⟩)
              clear hb6 hga hgb hgc hz6 hsz))
       all_goals go_wp2
       all_goals go_meet
       all_goals exact HF.out
     case rest =>
       obtain ⟨xb, ea, ec, rfl, HXW⟩ := hcut
       have k1 := HXW.out.cells.2.1
       clear HZA HDA HD0 kD kA HV HG
       go_wp2_with fail
       go_loopw [46] (fun iv wy => ∃ (j : Nat) (pv : Value), iv = .int .i64 j ∧ j ≤ l.length ∧ Hid (XW w2 xb nm l ea ec j pv wy)) (fun iv _ => l.length - (Go.RowKit.intOf iv).toNat)
       case atStart => exact ⟨0, .slice none 0 0, rfl, by omega, HXW⟩
       case round =>
         obtain ⟨j, pv, rfl, hj, HXj⟩ := hrel
         obtain ⟨w7, rfl⟩ : ∃ w7, w7 = wr := ⟨_, rfl⟩
         clear HXW k1
         obtain ⟨x0, x1, x2, x3⟩ := HXj.out.cells
         by_cases hq : j < l.length
         · have HD7 := Lib.hid (show Below w7.heap.size w7 w7.drew from (Below.refl _ w7).drew)
           have HU7 := Lib.hid (HUP.out _ HXj.out.2.2.2.2)
           have HPo7 := Lib.hid (HPo.out w7.drew (HUP.out _ (HXj.out.next HD7.out).2.2.2.2) j hq)
           obtain ⟨p, hp7⟩ : ∃ p, l[j].1 = p := ⟨_, rfl⟩
           have HGR := Lib.hid (fun (Z Z2 : World) (pv2 : Value) (h : XW w2 xb nm l ea ec j pv Z) (hown : Z2.ownsRow w2.heap.size 3 1 pv2 (j + 1) (intCells ((l.take j).map (·.1)) ++ [.int .i64 p])) (hg : Z.grownBy Z2 pv.ownBlock) => h.grow hq (by rw [hp7]; exact hown) hg)
           rw [hp7] at HPo7
           have y7 := HXj.out.next HD7.out
           have HB7 := Lib.hid (show Below w7.heap.size w7 (w7.alloc (.cells #[.int .i64 p] 3)).drew from ((Below.refl _ w7).alloc (Nat.le_refl _) _).drew)
           have z7 := HXj.out.next HB7.out
           have y2 := y7.cells.2.2.1
           have z2 := z7.cells.2.2.1
           have c7 := (HK.out _ (HUP.out _ y7.2.2.2.2)).1
           have hx := (cells_new1 w7 3 (.int .i64 p)).next (Below.refl _ _).drew
           have HO7 := Lib.hid z7.2.2.1
           have HZ7 := Lib.hid z7
           have hw1 : wrap64 ((j : Int) + 1) = (j : Int) + 1 := wrap_next hq (Nat.le_trans HLL.out (by decide))
           have hw2 : IntKind.i64.wrap ((j : Int) + 1) = (j : Int) + 1 := wrap_nextI hq (Nat.le_trans HLL.out (by decide))
           have HJ := Lib.hid (And.intro hq HLL.out)
           clear y7 z7 hp7 x0 x1 x2 x3 hj
           go_upto_block 3 with fail
           go_cut [] (fun wx => ∃ pv2, Hid (XW w2 xb nm l ea ec (j + 1) pv2 wx))
           case rest =>
             obtain ⟨pv2, HX2⟩ := hcut
             clear HPo7 HGR hx y2 z2 c7
             go_wp2
             try rw [hw1]
             exact ⟨⟨j + 1, pv2, rfl, by omega, HX2⟩, by simp [Go.RowKit.intOf]; omega⟩
           case first =>
             go_upto_region 9 with fail
             go_region_law (first
               | (go_simp; go_at_call 71; refine HPo7.out.mono ?_; rintro e w' ⟨rfl, rfl⟩)
               | (refine step_append_row rfl _ _ rfl intT w2.heap.size pv j _ rfl HO7.out _ 1 [.int .i64 p] rfl hx (by simp [Value.oneCell']) (by have := HJ.out; omega) HZ7.out.2.2.2.2.size ?_
                  intro v8 w8 hown hgr _
                  obtain ⟨z1, z2, rfl⟩ := owns_slice hown
                  obtain ⟨⟨g1, g2⟩, g3⟩ := HGR.out _ w8 _ HZ7.out hown hgr
                  have HF := Lib.hid g3
                  clear hown hgr g3))
             all_goals go_wp2
             all_goals go_meet
             all_goals exact ⟨_, HF⟩
         · obtain rfl : j = l.length := by omega
           have HP7 := HP.out.next HXj.out.2.2.2.2
           obtain ⟨_, p1, _, f1, _⟩ := HP7.cells
           have HB8 := Lib.hid (show Below w7.heap.size w7 (w7.alloc (.cells #[.string ⟨nm.toArray⟩, .slice ea l.length ec, pv] 128)) from (Below.refl _ w7).alloc (Nat.le_refl _) _)
           have HP8 := Lib.hid (HP7.next HB8.out)
           have hx := cells_newN w7 [.string ⟨nm.toArray⟩, .slice ea l.length ec, pv] 128
           have HX8 := Lib.hid (HXj.out.next HB8.out)
           have HR8 := Lib.hid (owns_next (owns_next HR.out HXj.out.2.2.2.2) HB8.out)
           have HXL := Lib.hid (show xs.length = i by have := congrArg List.length HX.out; rw [List.length_map, List.length_take] at this; have := HIP.out; omega)
           have p8 := HP8.out.cells.2.1
           have hpv : pv.oneCell' = true := by
             rcases HXj.out.2.2.1.2 with ⟨e, _⟩ | ⟨g, cap, cur, e, _⟩ <;> (rw [e]; rfl)
           clear HP7
           go_wp2_with (at_builtin; refine wpList_append_row rfl _ _ rfl strmT (w.heap.size + 2) sv xs.length (strmCells xs) rfl HP8.out.so _ 1 [.string ⟨nm.toArray⟩, .slice ea l.length ec, pv] rfl hx (by intro u hu; simp only [List.mem_cons, List.not_mem_nil, or_false] at hu; rcases hu with rfl | rfl | rfl <;> first | rfl | exact hpv) ?c3 ?c2 ?_)
           case c3 => have := HXL.out; have := HNL.out; have := HIP.out; omega
           case c2 => have := HP8.out.r; have := (Array.getElem?_eq_some_iff.1 HP8.out.p).1; omega
           intro sv2 w9 hown hgr _
           obtain ⟨z1, z2, rfl⟩ := owns_slice hown
           obtain ⟨g1, g2⟩ := HP8.out.grownS hgr
           have HP9 := Lib.hid (HP8.out.addS (Below.refl _ _) (nm, .slice ea l.length ec, pv) hown hgr (by
             refine ⟨?_, ?_⟩
             · show World.ownsRow _ 0 _ 2 _ (st.f nm).length (evCells ((st.f nm).map (·.2)))
               rw [HL.out]; exact HX8.out.2.2.2.1
             · show World.ownsRow _ 0 _ 1 _ (st.f nm).length (intCells ((st.f nm).map (·.1)))
               rw [HL.out]
               have := HX8.out.2.2.1
               rw [List.take_length] at this
               exact ownsRow_low this (Nat.zero_le _)) ppsT)
           have hR9 := HR8.out.kept hgr (by
             cases e : (Value.slice (some ⟨nb, no, none⟩) ns.length sc).ownBlock with
             | none => exact .inl rfl
             | some b => exact .inr fun e2 => own_apart HR8.out HP8.out.so (by decide) b e e2.symm)
           have hp9 := (hgr.block _ (Array.getElem?_eq_some_iff.1 HP8.out.p).1 (fun e => by have := (HP8.out.so.lt _ e.symm).1; omega)).trans HP8.out.p
           have HR9 := Lib.hid (hR9.kept (grown_set w9 (w.heap.size + 1) 1 (.slice z1 (xs.length + 1) z2)) (.inr (own_ne hR9 hp9 (by decide))))
           clear hown hgr hx hR9 hp9 p1 f1 p8 x0 x1 x2 x3 hpv
           go_wp2
           try rw [HWI.out]
           exact ⟨⟨i + 1, xs ++ [(nm, .slice ea l.length ec, pv)], _, rfl, by have := HIP.out; omega, Lib.hid (by rw [List.map_append, HX.out, HTK.out]; rfl), HP9, HR9⟩, by simp [Go.RowKit.intOf]; have := HIP.out; omega⟩
   · obtain rfl : i = ns.length := by omega
     have HXN := Lib.hid (show xs.map (·.1) = ns by have := HX.out; rw [List.take_length] at this; exact this)
     have hb2 := HP.out.bel
     have kt := (HK.out w2 hb2).2.1
     have HSs := Lib.hid (sessions_any t st.S _ fq w2 (HT.out w2 hb2) (by omega))
     clear HX hi hp HR
     go_wp2_with fail
     refine HSs.out.mono ?_
     rintro e w3 ⟨ka, kc, ks, rfl, HKs, HKw, hkl, HKr, b3⟩
     obtain ⟨qf, hqf⟩ := HQF.out
     have HQ := Lib.hid hqf
     have HKL := Lib.hid (show ks.length ≤ 800 by omega)
     have HP3 := Lib.hid (HP.out.next b3)
     clear HSs b3 hkl kt hqf hb2
     go_wp2_with fail
     go_loopw [76] (fun iv wr => ∃ (i : Nat) (rs : List ReqX) (rv : Value), iv = .int .i64 i ∧ i ≤ ks.length ∧ Hid (rs = reqsL st.S (ks.take i) qf ∧ rs.length ≤ i * 800) ∧ Hid (PPs w (w.heap.size + 2) (w.heap.size + 1) w.heap.size app st.f xs sv rs rv wr) ∧ Hid (wr.ownsRow 0 3 1 (.slice ka ks.length kc) ks.length (intCells ks))) (fun iv _ => ks.length - (Go.RowKit.intOf iv).toNat)
     case atStart => exact ⟨0, [], .slice none 0 0, rfl, by omega, Lib.hid ⟨by simp [reqsL], by simp⟩, HP3, Lib.hid (ownsRow_low HKr.out (Nat.zero_le _))⟩
     case round =>
       obtain ⟨i, rs, rv, rfl, hi, HRs, HPi, HKi⟩ := hrel
       obtain ⟨w4, rfl⟩ : ∃ w4, w4 = wr := ⟨_, rfl⟩
       clear HP3 HKr
       by_cases hp : i < ks.length
       · obtain ⟨nb, no, nc, hv, e0⟩ := intAt17 (cells_of_owns HKi.out) i hp
         cases hv
         obtain ⟨k, hk⟩ : ∃ k, ks[i] = k := ⟨_, rfl⟩
         rw [hk] at e0
         have hkm : k ∈ ks := hk ▸ List.getElem_mem hp
         have hkw := HKw.out k hkm
         obtain ⟨⟨hi9, O⟩, hSk⟩ : ∃ y, st.S k = some y := by
           cases e : st.S k with
           | some y => exact ⟨y, rfl⟩
           | none => exact ((HKs.out.2.2 k).1 hkm e).elim
         have HTK := Lib.hid (show ks.take (i + 1) = ks.take i ++ [k] by rw [List.take_succ_eq_append_getElem hp, hk])
         have hb4 := HPi.out.bel
         have kt := (HK.out w4 hb4).2.1
         have HSq := Lib.hid (seqs_any t st.S _ fq k hi9 O w4 (HT.out w4 hb4) hSk hkw (by omega))
         have HKK := Lib.hid (And.intro hkw hSk)
         have HIP := Lib.hid (And.intro hi hp)
         have HWI := Lib.hid (show wrap64 ((i : Int) + 1) = (i : Int) + 1 from wrap_next hp (Nat.le_trans HKL.out (by decide)))
         clear hkm hk hi
         go_wp2_with fail
         refine HSq.out.mono ?_
         rintro e w5 ⟨qa, qc, qs, rfl, HQs, HQw, hql, HQr, b5⟩
         have HQE := Lib.hid (show qs = qf k from HQs.out.one (HQ.out k hi9 O HKK.out.2))
         have HQL := Lib.hid (show qs.length ≤ 800 by omega)
         have HP5 := Lib.hid (HPi.out.next b5)
         have HK5 := Lib.hid (owns_next HKi.out b5)
         clear HSq b5 hql e0 kt hb4 hkw hSk
         go_wp2_with fail
         go_loopw [87] (fun iv wy => ∃ (j : Nat) (rs2 : List ReqX) (rv2 : Value), iv = .int .i64 j ∧ j ≤ qs.length ∧ Hid (rs2 = rs ++ (qs.take j).map (fun q => (k, q, (lookF st.S k q).1)) ∧ rs2.length ≤ i * 800 + j) ∧ Hid (PPs w (w.heap.size + 2) (w.heap.size + 1) w.heap.size app st.f xs sv rs2 rv2 wy) ∧ Hid (wy.ownsRow 0 3 1 (.slice (some ⟨nb, no, none⟩) ks.length kc) ks.length (intCells ks)) ∧ Hid (wy.ownsRow 0 3 1 (.slice qa qs.length qc) qs.length (intCells qs))) (fun iv _ => qs.length - (Go.RowKit.intOf iv).toNat)
         case atStart => exact ⟨0, rs, rv, rfl, by omega, Lib.hid ⟨by simp, by have := HRs.out.2; omega⟩, HP5, HK5, Lib.hid (ownsRow_low HQr.out (Nat.zero_le _))⟩
         case round =>
           obtain ⟨j, rs2, rv2, rfl, hj, HR2, HPj, HKj, HQj⟩ := hrel
           obtain ⟨w6, rfl⟩ : ∃ w6, w6 = wr := ⟨_, rfl⟩
           clear HP5 HK5 HQr
           by_cases hq : j < qs.length
           · obtain ⟨qb, qo, qc2, hv, e1⟩ := intAt17 (cells_of_owns HQj.out) j hq
             cases hv
             obtain ⟨q, hqe⟩ : ∃ q, qs[j] = q := ⟨_, rfl⟩
             rw [hqe] at e1
             have hqw := HQw.out q (hqe ▸ List.getElem_mem hq)
             have HTQ := Lib.hid (show qs.take (j + 1) = qs.take j ++ [q] by rw [List.take_succ_eq_append_getElem hq, hqe])
             have hb6 := HPj.out.bel
             have kt := (HK.out w6 hb6).2.1
             have HLk := dedupLook_any t st.S _ fq k q w6 (HT.out w6 hb6) HKK.out.1 hqw (fun hi O e => by have := HSO.out k hi O e; omega)
             obtain ⟨⟨⟨oc, op, of, ov⟩, is⟩, hlk⟩ : ∃ y, lookF st.S k q = y := ⟨_, rfl⟩
             rw [hlk] at HLk
             simp only [outV] at HLk
             have HLk := Lib.hid HLk
             have HLE := Lib.hid hlk
             have HJ := Lib.hid (And.intro hj hq)
             have HWJ := Lib.hid (show wrap64 ((j : Int) + 1) = (j : Int) + 1 from wrap_next hq (Nat.le_trans HQL.out (by decide)))
             clear hlk hqe hqw hb6 hj
             go_wp2_with fail
             refine HLk.out.mono ?_
             rintro e w7 ⟨rfl, b7⟩
             have b8 : Below w7.heap.size w7 (w7.alloc (.cells #[.int .i64 oc, .int .i64 op, .int .i64 of, .int .i64 ov] 98)) := (Below.refl _ w7).alloc (Nat.le_refl _) _
             have b9 : Below w7.heap.size w7 ((w7.alloc (.cells #[.int .i64 oc, .int .i64 op, .int .i64 of, .int .i64 ov] 98)).alloc (.cells #[.int .i64 k, .int .i64 q, .int .i64 oc, .int .i64 op, .int .i64 of, .int .i64 ov] 133)) := b8.alloc b8.size _
             have HP7 := HPj.out.next b7
             have p7 := (HP7.next b8).cells.2.2.1
             have HP8 := Lib.hid (HP7.next b9)
             have HK8 := Lib.hid (owns_next (owns_next HKj.out b7) b9)
             have HQ8 := Lib.hid (owns_next (owns_next HQj.out b7) b9)
             have hx := cells_newN (w7.alloc (.cells #[.int .i64 oc, .int .i64 op, .int .i64 of, .int .i64 ov] 98)) [.int .i64 k, .int .i64 q, .int .i64 oc, .int .i64 op, .int .i64 of, .int .i64 ov] 133
             rw [World.size_alloc] at hx
             clear b7 b8 b9 HP7 HLk e1 kt
             go_wp2_with (at_builtin; refine wpList_append_row rfl _ _ rfl reqT (w.heap.size + 2) rv2 rs2.length (reqCells rs2) rfl HP8.out.ro _ 1 [.int .i64 k, .int .i64 q, .int .i64 oc, .int .i64 op, .int .i64 of, .int .i64 ov] rfl hx (by simp [Value.oneCell']) ?c3 ?c2 ?_)
             case c3 => have := HR2.out.2; have := HKL.out; have := HIP.out; have := HQL.out; have := HJ.out; omega
             case c2 => have := (Array.getElem?_eq_some_iff.1 HP8.out.p).1; omega
             intro rv3 w9 hown hgr _
             obtain ⟨z1, z2, rfl⟩ := owns_slice hown
             obtain ⟨g1, g2⟩ := HP8.out.grownR hgr
             have HP9 := Lib.hid (HP8.out.addR (Below.refl _ _) (k, q, ⟨oc, op, of, ov⟩) hown hgr pprT)
             have hp9 := (hgr.block _ (Array.getElem?_eq_some_iff.1 HP8.out.p).1 (fun e => by have := (HP8.out.ro.lt _ e.symm).1; omega)).trans HP8.out.p
             have hK9 := HK8.out.kept hgr (by
               cases e : (Value.slice (some ⟨nb, no, none⟩) ks.length kc).ownBlock with
               | none => exact .inl rfl
               | some b => exact .inr fun e2 => own_apart HK8.out HP8.out.ro (by decide) b e e2.symm)
             have hQ9 := HQ8.out.kept hgr (by
               cases e : (Value.slice (some ⟨qb, qo, none⟩) qs.length qc).ownBlock with
               | none => exact .inl rfl
               | some b => exact .inr fun e2 => own_apart HQ8.out HP8.out.ro (by decide) b e e2.symm)
             have HK9 := Lib.hid (hK9.kept (grown_set w9 (w.heap.size + 1) 2 (.slice z1 (rs2.length + 1) z2)) (.inr (own_ne hK9 hp9 (by decide))))
             have HQ9 := Lib.hid (hQ9.kept (grown_set w9 (w.heap.size + 1) 2 (.slice z1 (rs2.length + 1) z2)) (.inr (own_ne hQ9 hp9 (by decide))))
             clear hown hgr hx hK9 hQ9 hp9 p7
             go_wp2
             try rw [HWJ.out]
             exact ⟨⟨j + 1, rs2 ++ [(k, q, ⟨oc, op, of, ov⟩)], _, rfl, by have := HJ.out; omega, Lib.hid ⟨by rw [HR2.out.1, HTQ.out, List.map_append, List.append_assoc]; simp [HLE.out], by rw [List.length_append, List.length_singleton]; have := HR2.out.2; omega⟩, HP9, HK9, HQ9⟩, by simp [Go.RowKit.intOf]; have := HJ.out; omega⟩
           · obtain rfl : j = qs.length := by omega
             have HR3 := Lib.hid (show rs2 = reqsL st.S (ks.take (i + 1)) qf ∧ rs2.length ≤ (i + 1) * 800 from ⟨by rw [HR2.out.1, HTK.out, List.take_length, HQE.out, HRs.out.1]; simp [reqsL], by have := HR2.out.2; have := HQL.out; omega⟩)
             clear hj hq HR2
             go_wp2
             try rw [HWI.out]
             exact ⟨⟨i + 1, rs2, rv2, rfl, by have := HIP.out; omega, HR3, HPj, HKj⟩, by simp [Go.RowKit.intOf]; have := HIP.out; omega⟩
       · obtain rfl : i = ks.length := by omega
         obtain ⟨y1, y2, rfl⟩ := owns_slice HPi.out.so
         obtain ⟨y3, y4, rfl⟩ := owns_slice HPi.out.ro
         obtain ⟨p0, p1, p2, _, _⟩ := HPi.out.cells
         obtain ⟨f1, f2, f3⟩ := HPi.out.fin (by decide)
         have f3 := HPi.out.bel.grown f3 HPi.out.bel.size (fun j hj => by cases hj; exact Nat.le_refl _)
         have r0 : w4.cell? ⟨w.heap.size, 0, none⟩ = some (.int .i64 0) := by rw [Lib.cell_of_heap HPi.out.r]; rfl
         have r1 : w4.cell? ⟨w.heap.size, 1, none⟩ = some (.slice none 0 0) := by rw [Lib.cell_of_heap HPi.out.r]; rfl
         have r2 : w4.cell? ⟨w.heap.size, 2, none⟩ = some (.slice none 0 0) := by rw [Lib.cell_of_heap HPi.out.r]; rfl
         have g0 := Lib.frozen_of_heap HPi.out.r 0
         have g1 := Lib.frozen_of_heap HPi.out.r 1
         have g2 := Lib.frozen_of_heap HPi.out.r 2
         have HF1 := Lib.hid f1
         have HF2 := Lib.hid (And.intro f2 f3)
         clear f1 f2 f3 hi hp
         go_wp2
         refine bodyPost_ret (results_cellOne rfl _ _ w.heap.size _ _ _ _ rfl HF1.out Tryz.underlying73 rfl parts_size) rfl ?_
         have hrs := HRs.out.1
         rw [List.take_length] at hrs
         refine ⟨_, _, ns, ks, qf, rfl, Lib.hid ⟨HNs.out, HKs.out, HQ.out⟩, by have := HNL.out; omega, ?_, Lib.hid ?_, HF2.out.2⟩
         · rw [← hrs]; have := HRs.out.2; have := HKL.out; omega
         · have := HF2.out.1
           rw [HXN.out] at this
           rw [← hrs]
           exact this
end Go.Proofs.YtgddgipjpdjoaaaGreatDoor
