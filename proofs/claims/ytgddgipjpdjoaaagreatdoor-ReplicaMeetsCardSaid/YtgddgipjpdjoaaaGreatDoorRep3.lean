/-
  snapshot.Load where there is no file of it.
  A replica's Range; Open of an empty disk.
  A replica's Advance.
-/
import Derived.Test.YtgddgipjpdjoaaaGreatDoorSta1
import Derived.Test.YtgddgipjpdjoaaaGreatDoorRep1
import Derived.Test.YtgddgipjpdjoaaaGreatDoorTab2
import Derived.Test.YtgddgipjpdjoaaaGreatDoorLogPm
import Derived.Test.YtgddgipjpdjoaaaGreatDoorOpn2
namespace Go.Proofs.YtgddgipjpdjoaaaGreatDoor
open Go.RowKit Go.Shelf
set_option maxHeartbeats 1000000 in
theorem snapLoad_none (d : Nat) (room : Int) (fs : List Dk.File) (ft : Nat → Prop) (w : World) (h : IsDisk w d room fs ft) (hl : Dk.look fs [115, 110, 97, 112] = none) :
   Calls Tryz.prog 36 #[.pointer (some ⟨d, 0, none⟩)] w fun e w' => e = .returned (.tuple #[.pointer none, .int .i64 6]) ∧ w = w' := by
 have HR := Lib.hid (diskRead_any d room fs ft ⟨#[115, 110, 97, 112]⟩ w h (by decide))
 have HQ := Lib.hid (show Dk.read (⟨#[115, 110, 97, 112]⟩ : ByteArray).data.toList fs = (⟨#[]⟩, 6) by rw [Dk.read, show (⟨#[115, 110, 97, 112]⟩ : ByteArray).data.toList = [115, 110, 97, 112] from rfl, hl])
 rw [HQ.out] at HR
 clear h hl HQ
 go_enter Tryz.func36, Tryz.ntmps36
 go_wp2_with fail
 refine HR.out.mono ?_
 rintro e w1 ⟨rfl, rfl⟩
 go_wp2
 go_ret2
 exact ⟨rfl, rfl⟩
variable {R : (Nat → Prop) → (Nat → Prop) → World → Prop} {a w w0 w' : World} {r lg d sb : Nat} {room : Int} {s s' : Lg.S} {fs fs' : List Dk.File} {st st' : Stat} {TL TS X : Nat → Prop} {J : List (Nat × Obj)}
theorem capok_of {B n : Nat} {e : TypeId} {sz : Nat} {v : Value} {xs : List Value} (h : w.ownsRow B e sz v n xs) : CapOk v := by
 rcases h.2 with ⟨rfl, _⟩ | ⟨g, cap, cur, rfl, _, _, hc, _⟩
 · exact Nat.le_refl _
 · exact hc
def rangeR (f m : Int) (es : List Evt.Entry) : List Evt.Entry := (es.drop (Lg.rangeA f es.length - 1).toNat).take (Lg.rangeM f m es.length).toNat
theorem repRange_any (f m : Int) (h : RR R J a r lg d sb room s fs st w) (hR : Stable2 a R) (hn : s.es.length ≤ 1000000) :
   Calls Tryz.prog 15 #[.pointer (some ⟨r, 0, none⟩), .int .i64 f, .int .i64 m] w fun e w' => ∃ va qs vc, e = .returned (.slice va qs.length vc) ∧ Hid (plainE qs = rangeR f m s.es) ∧ CapOk (.slice va qs.length vc) ∧ Hid (RR (WithRow R (.slice va qs.length vc) qs) J a r lg d sb room s fs st w') ∧ Below w.heap.size w w' := by
 obtain ⟨k0, k1, k2⟩ := h.box.cells
 obtain ⟨TL, TS, X, h, hw⟩ := h
 obtain ⟨ft, pv, ev, ps, hL⟩ := h.log
 have HC := Lib.hid (logRange_any f m hL (by rw [hL.len]; exact hn))
 have H := Lib.hid (And.intro h (And.intro hw hL))
 clear h hw hL
 go_enter Tryz.func15, Tryz.ntmps15
 go_wp2_with fail
 refine HC.out.mono ?_
 rintro e w1 ⟨v, rfl, hO, hb⟩
 obtain ⟨qs, hqs⟩ : ∃ qs, (ps.drop (Lg.rangeA f ps.length - 1).toNat).take (Lg.rangeM f m ps.length).toNat = qs := ⟨_, rfl⟩
 rw [hqs] at hO
 obtain ⟨va, vc, rfl⟩ := cells_slice (cells_of_owns hO.out)
 have hsub : ∀ p ∈ qs, p ∈ ps := fun p hp => by rw [← hqs] at hp; exact List.mem_of_mem_drop (List.mem_of_mem_take hp)
 have HP := Lib.hid (show plainE qs = rangeR f m s.es by
   rw [← hqs, plainE_taken, rangeR, ← H.out.2.2.len, ← H.out.2.2.plain]
   simp [plainE, List.map_drop])
 have HA := Lib.hid (show Apart X w1 (.slice va qs.length vc) qs from ⟨⟨cells_of_owns hO.out, fun p hp => by
     have := H.out.2.2.entsE.2 p (hsub p hp)
     exact ⟨Cells.next this.1 hb, this.2⟩⟩, fun b hbb _ hx => by
     have := (hO.out.lt b hbb).1
     have := H.out.2.2.lt b hx
     omega, fun p hp => (H.out.2.2.evs p (hsub p hp)).2.2⟩)
 have HCP := Lib.hid (capok_of hO.out)
 have HRR := Lib.hid (show RR (WithRow R (.slice va qs.length vc) qs) J a r lg d sb room s fs st w1 from
   ⟨TL, TS, X, H.out.1.next hb, hR _ _ X X w w1 H.out.2.1 (Turn.of_below hb) H.out.1.TX (fun j hj => .inl hj) (fun j hj => .inl hj) (fun j hj => hj) (fun j hj => Nat.lt_of_lt_of_le (H.out.1.log.lt j hj) hb.size) (Below.up H.out.1.log.below (Nat.le_refl _) hb), HA.out⟩)
 have HB := Lib.hid hb
 clear hO hqs hsub hb HC H HA
 go_wp2
 go_ret
 exact ⟨va, qs, vc, rfl, HP, HCP.out, HRR, HB.out⟩
theorem repOpen_new {ft X : Nat → Prop} (hA : Base a w ft) (h : IsDisk w d room [] ft) (hX : ∀ j, X j → j < w.heap.size ∧ a.heap.size ≤ j) (hf : ∀ j, ft j → X j) (hroom : room ≤ 1048576) (hR : Stable2 a R) (hw : R ft X w) :
   Calls Tryz.prog 9 #[.pointer (some ⟨d, 0, none⟩)] w fun e w' => ∃ r lg sb, e = .returned (.tuple #[.pointer (some ⟨r, 0, none⟩), .int .i64 0]) ∧ RR R [] a r lg d sb room (Lg.stateOf 1 [] []) [] Stat.new w' := by
 have HO := Lib.hid (logOpen_any (X := X) hA h (fun j hj => (hX j hj).1) hf hroom Lg.held_nil.man_load (by simp) (Lg.held_nil.reads room) (by simp [Lg.stateOf]) (fun x hx => by cases hx))
 have H := Lib.hid (And.intro hA (And.intro h (And.intro hX (And.intro hf hw))))
 clear hA h hX hf hw
 go_enter Tryz.func9, Tryz.ntmps9
 go_wp2_with fail
 refine HO.out.mono ?_
 rintro e w1 ⟨lg, T', rfl, q1, q2, q3, q4⟩
 obtain ⟨ft1, pv, ev, ps, hL⟩ := q1
 have HSN := Lib.hid (snapLoad_none d room [] ft1 w1 hL.disk rfl)
 have H1 := Lib.hid (And.intro hL (And.intro q2 (And.intro q3 q4)))
 clear HO q2 q3 q4 hL
 go_wp2_with fail
 refine HSN.out.mono ?_
 rintro e w2 ⟨rfl, rfl⟩
 have HSW := Lib.hid (stNew_any w1)
 clear HSN
 go_wp2_with fail
 refine HSW.out.mono ?_
 rintro e w3 ⟨sb, TS, rfl, hs, hts, b3⟩
 have hbx := heap_alloc_new w3 (.cells #[.pointer (some ⟨d, 0, none⟩), .pointer (some ⟨lg, 0, none⟩), .pointer (some ⟨sb, 0, none⟩)] 93)
 have b4 := (Below.refl _ w3).alloc (Nat.le_refl _) (.cells #[.pointer (some ⟨d, 0, none⟩), .pointer (some ⟨lg, 0, none⟩), .pointer (some ⟨sb, 0, none⟩)] 93)
 have HF := Lib.hid (show RR R [] a w3.heap.size lg d sb room (Lg.stateOf 1 [] []) [] Stat.new (w3.alloc (.cells #[.pointer (some ⟨d, 0, none⟩), .pointer (some ⟨lg, 0, none⟩), .pointer (some ⟨sb, 0, none⟩)] 93)) by
   have hL := H1.out.1
   have h0 := H.out
   have hsz1 := H1.out.2.2.1.size
   have hsz3 := b3.size
   have hXs : ∀ j, (X j ∨ T' j) → (j < w1.heap.size ∧ a.heap.size ≤ j) := fun j hj => ⟨hL.lt j hj, by
     rcases hj with e | e
     · exact (h0.2.2.1 j e).2
     · exact hL.base.out j e⟩
   have hL2 : LAt a lg d room (Lg.stateOf 1 [] []) [] T' (fun j => (X j ∨ T' j) ∨ TS j) (w3.alloc (.cells #[.pointer (some ⟨d, 0, none⟩), .pointer (some ⟨lg, 0, none⟩), .pointer (some ⟨sb, 0, none⟩)] 93)) := by
     have hb13 : Below w1.heap.size w1 (w3.alloc (.cells #[.pointer (some ⟨d, 0, none⟩), .pointer (some ⟨lg, 0, none⟩), .pointer (some ⟨sb, 0, none⟩)] 93)) := b3.trans (b4.mono b3.size)
     exact LAt.besideT (T1 := fun _ => False) ⟨ft1, pv, ev, ps, hL⟩ (Turn.of_below hb13) (fun _ hj => hj.elim) (fun _ _ hj => hj) (fun j hj => hj.imp id (hts j)) (fun j hj => by
       rcases hj with hj | hj
       · have := (hXs j hj).1; simp; omega
       · have := hs.lt j hj; simp; omega) (fun j hj => .inl hj) (Below.up hL.base.below (Nat.le_refl _) hb13)
   refine ⟨T', TS, _, ⟨hL2, hs.next b4, hbx, fun j h1 h2 => ?_, fun j hj => .inr hj, fun e => ?_, fun j hj => ?_, Stat.ok_new, fun p hp => by cases hp⟩, ?_⟩
   · have := (hXs j (.inr h1)).1; have := hts j h2; omega
   · rcases e with e | e
     · have := (hXs _ e).1; omega
     · have := hs.lt _ e; omega
   · rcases hj with e | e
     · exact (hXs j e).2
     · have := hts j e; have := hL.base.below.size; omega
   · have hTn : ∀ j, T' j → ft j ∨ w.heap.size ≤ j := H1.out.2.1
     have hbw : Below w1.heap.size w1 (w3.alloc (.cells #[.pointer (some ⟨d, 0, none⟩), .pointer (some ⟨lg, 0, none⟩), .pointer (some ⟨sb, 0, none⟩)] 93)) := b3.trans (b4.mono b3.size)
     refine hR ft _ X _ w _ h0.2.2.2.2 (H1.out.2.2.1.trans (Turn.of_below hbw : Turn ft w1 _) (fun j hj => .inl hj)) h0.2.2.2.1 (fun j hj => ?_) (fun j hj => ?_) (fun j hj => .inl (.inl hj)) hL2.lt hL2.below
     · rcases hj with e | e | ⟨p, hp, _⟩
       · exact hTn j e
       · have := hts j e; exact .inr (by omega)
       · cases hp
     · rcases hj with (e | e) | e
       · exact .inl e
       · rcases hTn j e with e2 | e2
         · exact .inl (h0.2.2.2.1 j e2)
         · exact .inr e2
       · have := hts j e; exact .inr (by omega))
 clear HSW hs hts b3 hbx b4 H1 H
 go_wp2
 go_ret2
 exact ⟨_, lg, sb, rfl, HF.out⟩
end Go.Proofs.YtgddgipjpdjoaaaGreatDoor
namespace Go.Proofs.YtgddgipjpdjoaaaGreatDoor
open Go.RowKit Go.Shelf
variable {R : (Nat → Prop) → (Nat → Prop) → World → Prop} {a w w0 w' : World} {r lg d sb : Nat} {room : Int} {s s' : Lg.S} {fs fs' : List Dk.File} {st st' : Stat} {TL TS X : Nat → Prop} {J : List (Nat × Obj)}
theorem logRange_rr (f m : Int) (h : RR R J a r lg d sb room s fs st w) (hR : Stable2 a R) (hn : s.es.length ≤ 1000000) :
   Calls Tryz.prog 44 #[.pointer (some ⟨lg, 0, none⟩), .int .i64 f, .int .i64 m] w fun e w' => ∃ va qs vc, e = .returned (.slice va qs.length vc) ∧ Hid (plainE qs = rangeR f m s.es) ∧ CapOk (.slice va qs.length vc) ∧ Hid (RR (WithRow R (.slice va qs.length vc) qs) J a r lg d sb room s fs st w') ∧ Below w.heap.size w w' := by
 obtain ⟨TL, TS, X, h, hw⟩ := h
 obtain ⟨ft, pv, ev, ps, hL⟩ := h.log
 refine (logRange_any f m hL (by rw [hL.len]; exact hn)).mono ?_
 rintro e w1 ⟨v, rfl, hO, hb⟩
 obtain ⟨qs, hqs⟩ : ∃ qs, (ps.drop (Lg.rangeA f ps.length - 1).toNat).take (Lg.rangeM f m ps.length).toNat = qs := ⟨_, rfl⟩
 rw [hqs] at hO
 obtain ⟨va, vc, rfl⟩ := cells_slice (cells_of_owns hO.out)
 have hsub : ∀ p ∈ qs, p ∈ ps := fun p hp => by rw [← hqs] at hp; exact List.mem_of_mem_drop (List.mem_of_mem_take hp)
 refine ⟨va, qs, vc, rfl, Lib.hid ?_, capok_of hO.out, Lib.hid ⟨TL, TS, X, h.next hb, hR _ _ X X w w1 hw (Turn.of_below hb) h.TX (fun j hj => .inl hj) (fun j hj => .inl hj) (fun j hj => hj) (fun j hj => Nat.lt_of_lt_of_le (h.log.lt j hj) hb.size) (Below.up h.log.below (Nat.le_refl _) hb), ⟨⟨cells_of_owns hO.out, fun p hp => ?_⟩, fun b hbb _ hx => ?_, fun p hp => (hL.evs p (hsub p hp)).2.2⟩⟩, hb⟩
 · rw [← hqs, plainE_taken, rangeR, ← hL.len, ← hL.plain]
   simp [plainE, List.map_drop]
 · have := hL.entsE.2 p (hsub p hp)
   exact ⟨Cells.next this.1 hb, this.2⟩
 · have := (hO.out.lt b hbb).1
   have := hL.lt b hx
   omega
theorem apply_rr {lv : Value} {qs : List EnX} {p : EnX} (h : RR (WithRow R lv qs) J a r lg d sb room s fs st w) (hR : Stable2 a R) (hp : p ∈ qs) (happ : st.app ≤ 400000) :
   Calls Tryz.prog 45 #[.pointer (some ⟨sb, 0, none⟩), enVal p] w fun e w' => e = .returned (.tuple #[outV (st.apply p.1).1.1, .int .i64 ((st.apply p.1).1.2 : Nat)]) ∧ RR (WithRow R lv qs) J a r lg d sb room s fs (st.apply p.1).2 w' := by
 obtain ⟨TL, TS, X, h, hw⟩ := h
 obtain ⟨⟨pos, ep, ⟨S, ex, se, sq, es⟩⟩, v⟩ := p
 have hev := hw.2.ents.2 _ hp
 have hS2 : (⟨S.toArray⟩ : ByteArray).data.toList = S := by simp
 have hc := stApply_any sb st TS pos ep ⟨S.toArray⟩ ex se sq v es w h.sta h.log.env h.ok (by rw [Lib.size_eq, hS2]; exact hev.2.1) (fun w' ht => evs_turn (p := (⟨pos, ep, ⟨S, ex, se, sq, es⟩⟩, v)) hev.1 (fun b hb hne hx => hw.2.out _ hp b hb hne (h.subX b hx)) ht) hev.2.2.2 hev.2.2.1 happ
 rw [hS2] at hc
 refine hc.mono ?_
 rintro e w' ⟨ft', rfl, q1, q2, q3⟩
 exact ⟨rfl, h.stated (stable2_row hR lv qs) hw (by
   obtain ⟨x, t, fx, fq, q1⟩ := q1
   exact ⟨x, t, fx, fq, q1⟩) q2 q3 (h.ok.apply _).1⟩
def OwnJ (V : Value) (K : List (Nat × Obj)) : Prop := (V.ownBlock = none ∧ K = []) ∨ ∃ g o, V.ownBlock = some g ∧ K = [(g, o)]
theorem RR.appended {B n' sz : Nat} {e : TypeId} {V v' : Value} {K L : List (Nat × Obj)} {xs' : List Value} (h : RR R (J ++ K ++ L) a r lg d sb room s fs st w) (hR : Stable2 a R) (hO : OwnJ V K) (hJb : ∀ p ∈ J, p.1 < B) (hVB : ∀ g, V.ownBlock = some g → B ≤ g)
   (hown : w'.ownsRow B e sz v' n' xs') (hg : w.grownBy w' V.ownBlock) (hv : v'.ownBlock = V.ownBlock ∨ v'.ownBlock = some w.heap.size) : ∃ K', OwnJ v' K' ∧ RR R (J ++ K') a r lg d sb room s fs st w' := by
 have ht : Turn (JB (J ++ K ++ L)) w w' := Turn.of_grownO hg (fun b hb => by
   rcases hO with ⟨h0, _⟩ | ⟨g, o, h1, rfl⟩
   · rw [h0] at hb; cases hb
   · rw [h1] at hb; cases hb
     exact ⟨(_, o), by simp, rfl⟩)
 have hJ : ∀ p ∈ J, (JB (J ++ K ++ L) p.1 ∨ w.heap.size ≤ p.1) ∧ w'.heap[p.1]? = some p.2 := fun p hp => by
   have hw := h.junk p (by simp [hp])
   refine ⟨.inl ⟨p, by simp [hp], rfl⟩, ?_⟩
   rw [hg.block p.1 (Array.getElem?_eq_some_iff.1 hw).1 (fun e => ?_)]
   · exact hw
   · have := hVB p.1 e.symm
     have := hJb p hp
     omega
 cases hb : v'.ownBlock with
 | none => exact ⟨[], .inl ⟨hb, rfl⟩, by rw [List.append_nil]; exact h.turnE hR ht hJ (fun _ _ _ hh => hh)⟩
 | some g' =>
   have hlt := (hown.lt g' hb).2
   refine ⟨[(g', w'.heap[g'])], .inr ⟨g', _, hb, rfl⟩, h.turnE hR ht (fun p hp => ?_) (fun _ _ _ hh => hh)⟩
   rcases List.mem_append.1 hp with hp | hp
   · exact hJ p hp
   · rw [List.mem_singleton.1 hp]
     refine ⟨?_, Array.getElem?_eq_getElem hlt⟩
     rcases hv with hv | hv
     · rw [hb] at hv
       rcases hO with ⟨h0, _⟩ | ⟨g, o, h1, rfl⟩
       · rw [h0] at hv; cases hv
       · rw [h1] at hv; cases hv
         exact .inl ⟨(_, o), by simp, rfl⟩
     · rw [hb] at hv; cases hv
       exact .inr (Nat.le_refl _)
def doneCells (l : List (EnX × Outc)) : List Value := l.flatMap fun p => [.int .i64 p.1.1.pos, .int .i64 p.1.1.epoch, .string ⟨p.1.1.b.stream.toArray⟩, .int .i64 p.1.1.b.expect, .int .i64 p.1.1.b.session, .int .i64 p.1.1.b.seq, p.1.2, .int .i64 p.2.code, .int .i64 p.2.pos, .int .i64 p.2.first, .int .i64 p.2.version]
theorem doneT : ElemT Tryz.prog 47 102 11 := by
 have h : (Tryz.prog.info? 102).map (fun i => (i.zero, i.size, i.bytes)) = some (some (.agg #[.int .i64 0, .int .i64 0, .string ⟨#[]⟩, .int .i64 0, .int .i64 0, .int .i64 0, .slice none 0 0, .int .i64 0, .int .i64 0, .int .i64 0, .int .i64 0]), 11, 112) := by kernel_rfl
 obtain ⟨i0, hi, hz0, hz1, hz2⟩ := info_parts h
 exact ⟨Tryz.underlying47, ⟨i0, _, 112, hi, hz0, hz1, hz2, rfl, by omega⟩, by omega⟩
theorem Stat.plays_snoc : ∀ (l : List Evt.Entry) (st : Stat) (e : Evt.Entry), st.plays (l ++ [e]) = ((st.plays l).1 ++ [(e, ((st.plays l).2.apply e).1.1)], ((st.plays l).2.apply e).2)
 | [], st, e => rfl
 | x :: l, st, e => by
   show ((x, (st.apply x).1.1) :: ((st.apply x).2.plays (l ++ [e])).1, ((st.apply x).2.plays (l ++ [e])).2) = _
   rw [Stat.plays_snoc l _ e]
   rfl
theorem done_news {q : EnX} {p ep ex se sq : Int} {S : ByteArray} {sv : Value} (h : enVal q = .agg #[.int .i64 p, .int .i64 ep, .string S, .int .i64 ex, .int .i64 se, .int .i64 sq, sv]) (o : Outc) :
   doneCells [(q, o)] = [.int .i64 p, .int .i64 ep, .string S, .int .i64 ex, .int .i64 se, .int .i64 sq, sv, .int .i64 o.code, .int .i64 o.pos, .int .i64 o.first, .int .i64 o.version] := by
 rw [enVal_cells] at h
 simp only [Value.agg.injEq] at h
 have h2 := congrArg Array.toList h
 simp only [List.cons.injEq, and_true] at h2
 obtain ⟨e1, e2, e3, e4, e5, e6, e7⟩ := h2
 show [Value.int .i64 q.1.pos, .int .i64 q.1.epoch, .string ⟨q.1.b.stream.toArray⟩, .int .i64 q.1.b.expect, .int .i64 q.1.b.session, .int .i64 q.1.b.seq, q.2, .int .i64 o.code, .int .i64 o.pos, .int .i64 o.first, .int .i64 o.version] = _
 rw [e1, e2, e3, e4, e5, e6, e7]
theorem doneCells_snoc (l : List (EnX × Outc)) (p : EnX × Outc) : doneCells (l ++ [p]) = doneCells l ++ doneCells [p] := by simp [doneCells]
def advL (st : Stat) (upto : Int) (L : List Evt.Entry) : List Evt.Entry := if upto ≤ st.app then [] else rangeR (st.app + 1) (upto - st.app) L
set_option maxHeartbeats 8000000 in
set_option maxRecDepth 100000 in
theorem repAdvance_any (n : Int) (h : RR R J a r lg d sb room s fs st w) (hR : Stable2 a R) (hn : s.es.length ≤ 300000) (hJ : ∀ p ∈ J, p.1 < w.heap.size) (happ : st.app ≤ 100000) (hnb : K64 n) (hap2 : ∀ k, k ≤ s.es.length → (st.plays ((advL st n s.es).take k)).2.app ≤ 400000) :
   Calls Tryz.prog 12 #[.pointer (some ⟨r, 0, none⟩), .int .i64 n] w fun e w' => ∃ va vc, ∃ dn : List (EnX × Outc), e = .returned (.slice va dn.length vc) ∧ Hid (dn.map (fun p => (p.1.1, p.2)) = (st.plays (advL st n s.es)).1) ∧ RR R J a r lg d sb room s fs (st.plays (advL st n s.es)).2 w' := by
 have hC := h.ok.a
 have HCM := Lib.hid (fun W (hb : Below w.heap.size w W) => repCommit_any (h.next hR hb))
 by_cases hle : n ≤ st.app
 · have HL := Lib.hid (show advL st n s.es = [] by unfold advL; rw [if_pos hle])
   have H := Lib.hid h
   clear h
   go_enter Tryz.func12, Tryz.ntmps12
   go_wp2_with fail
   refine (HCM.out w (Below.refl _ _)).mono ?_
   rintro e w1 ⟨rfl, rfl⟩
   go_wp2
   go_ret
   exact ⟨none, 0, [], rfl, Lib.hid (by rw [HL.out]; rfl), by rw [HL.out]; exact H.out⟩
 · have HL := Lib.hid (show advL st n s.es = rangeR (st.app + 1) (n - st.app) s.es by unfold advL; rw [if_neg hle])
   have H := Lib.hid h
   have hw1 : IntKind.i64.wrap (st.app + 1) = st.app + 1 := by rw [IntKind.wrap_i64]; omega
   have hw2 : IntKind.i64.wrap (n - st.app) = n - st.app := by
     have := hnb.2
     rw [IntKind.wrap_i64]; omega
   have hbx := h.box.cells.2.1
   have HKS := Lib.hid (show ∀ Z, Below w.heap.size w Z → Z.cell? ⟨r, 1, none⟩ = some (.pointer (some ⟨lg, 0, none⟩)) from fun Z hb => cell_kept hb (Nat.le_refl _) hbx)
   have HRG := Lib.hid (fun W (hb : Below w.heap.size w W) => logRange_rr (st.app + 1) (n - st.app) (h.next hR hb) hR (by omega))
   have hnh : ¬ n ≤ st.app := hle
   clear h hbx hle
   go_enter Tryz.func12, Tryz.ntmps12
   go_wp2_with fail
   refine (HCM.out w (Below.refl _ _)).mono ?_
   rintro e w1 ⟨rfl, rfl⟩
   go_upto_region 4 with fail
   go_cut [25, 26, 27] (fun lv nv iv wx => ∃ va qs vc, lv = .slice va (qs.length : Nat) vc ∧ nv = .int .i64 (qs.length : Nat) ∧ iv = .int .i64 0 ∧ Hid (plainE qs = rangeR (st.app + 1) (n - st.app) s.es) ∧ Hid (RR (WithRow R (.slice va qs.length vc) qs) J a r lg d sb room s fs st wx) ∧ Hid (Below w.heap.size w wx))
   case first =>
     go_region_held3 (fun Z => Z.cell? ⟨r, 1, none⟩ = some (.pointer (some ⟨lg, 0, none⟩)))
       ((refine HKS.out _ ?_; first
         | with_reducible exact Below.refl _ w
         | with_reducible exact (Below.refl _ w).drew
         | with_reducible exact HB5.out))
       (first
         | (go_at_call 14; refine (HCM.out _ (Below.refl _ w).drew).mono ?_; rintro e w5 ⟨rfl, rfl⟩)
         | (go_at_call 44; refine (HRG.out _ (Below.refl _ w).drew).mono ?_; rintro e w5 ⟨va, qs, vc, rfl, hpl, hcap, hrr, b5⟩; have HB5 := Lib.hid (show Below w.heap.size w w5 from (Below.refl _ w).drew.trans b5); clear b5 hcap))
     all_goals go_wp2
     all_goals go_meet
     all_goals exact ⟨va, qs, vc, rfl, rfl, rfl, hpl, hrr, HB5⟩
   case rest =>
     obtain ⟨va, qs, vc, rfl, rfl, rfl, HPL, HRR, HBW⟩ := hcut
     have hql : qs.length ≤ s.es.length := by
       have h1 : (plainE qs).length ≤ s.es.length := by
         rw [HPL.out, rangeR, List.length_take, List.length_drop]
         omega
       simpa [plainE] using h1
     clear HCM HRG HKS H
     go_wp2
     go_loopw [5, 27] (fun vv iv wr => ∃ (i : Nat) (xa : Option Addr) (xc : Nat) (dn : List (EnX × Outc)) (K : List (Nat × Obj)), vv = .slice xa i xc ∧ iv = .int .i64 i ∧ i ≤ qs.length ∧ dn.length = i ∧ w.heap.size ≤ wr.heap.size ∧ Hid (dn.map (fun p => (p.1.1, p.2)) = (st.plays ((plainE qs).take i)).1) ∧ Hid (wr.ownsRow w.heap.size 102 11 (.slice xa i xc) i (doneCells dn)) ∧ Hid (OwnJ (.slice xa i xc) K) ∧ Hid (RR (WithRow R (.slice va qs.length vc) qs) (J ++ K) a r lg d sb room s fs (st.plays ((plainE qs).take i)).2 wr)) (fun _ iv _ => qs.length - (intOf iv).toNat)
     case atStart => exact ⟨0, none, 0, [], [], rfl, rfl, by omega, rfl, HBW.out.size, Lib.hid rfl, Lib.hid (World.ownsRow_nil _ _ _ _), Lib.hid (.inl ⟨rfl, rfl⟩), by rw [List.append_nil]; exact HRR⟩
     case round =>
       obtain ⟨i, xa, xc, dn, K, rfl, rfl, hi, hdn, hwr, HD, HOW, HOJ, HRI⟩ := hrel
       by_cases hp : i < qs.length
       · have hRr := stable2_row hR (.slice va qs.length vc) qs
         obtain ⟨b, o, c, p, ep, S, ex, se, sq, sa, sl, sc, es, hv, q0, q1, q2, q3, q4, q5, q6, _, _, _, _, hpe, hp2⟩ := enAt HRI.out.rowE i hp
         cases hv
         obtain ⟨si, hsi⟩ : ∃ si, (st.plays ((plainE qs).take i)).2 = si := ⟨_, rfl⟩
         obtain ⟨q, hq⟩ : ∃ q, qs[i] = q := ⟨_, rfl⟩
         have hqm : q ∈ qs := by rw [← hq]; exact List.getElem_mem _
         have HV := Lib.hid (show enVal q = .agg #[.int .i64 p, .int .i64 ep, .string S, .int .i64 ex, .int .i64 se, .int .i64 sq, .slice sa sl sc] by
           rw [← hq, enVal_cells, hpe.out, hp2.out])
         have hsa : si.app ≤ 400000 := by
           have := hap2 i (by omega)
           rw [HL.out, ← HPL.out, hsi] at this
           exact this
         obtain ⟨⟨⟨⟨oc, op, of, ov⟩, cd⟩, s2⟩, hap⟩ : ∃ P, si.apply q.1 = P := ⟨_, rfl⟩
         have HPLA := Lib.hid (show st.plays ((plainE qs).take (i + 1)) = ((st.plays ((plainE qs).take i)).1 ++ [(q.1, ⟨oc, op, of, ov⟩)], s2) by
           have hpi : i < (plainE qs).length := by simpa [plainE] using hp
           rw [List.take_succ_eq_append_getElem hpi, Stat.plays_snoc, hsi]
           have : (plainE qs)[i] = q.1 := by simp only [plainE, List.getElem_map]; rw [hq]
           rw [this, hap])
         rw [hsi] at HRI
         have hr2 := HRI.out.box.cells.2.2
         obtain ⟨W6, hW6⟩ : ∃ W6, wr.alloc (.cells #[.int .i64 p, .int .i64 ep, .string S, .int .i64 ex, .int .i64 se, .int .i64 sq, .slice sa sl sc] 40) = W6 := ⟨_, rfl⟩
         have b6 : Below wr.heap.size wr W6 := by rw [← hW6]; exact (Below.refl _ wr).alloc (Nat.le_refl _) _
         have he6 : EB17 W6 wr.heap.size p ep S ex se sq (.slice sa sl sc) := by rw [← hW6]; exact heap_alloc_new wr _
         have hs6 : W6.heap.size = wr.heap.size + 1 := by rw [← hW6]; simp
         have hr6 := cell_kept b6 (Nat.le_refl _) hr2
         have hz6 := heap_alloc_new W6 (.cells #[.int .i64 0, .int .i64 0, .int .i64 0, .int .i64 0] 98)
         have hRA := HRI.out.enter (R' := WithRow R (.slice (some ⟨b, o, none⟩) qs.length vc) qs) (J2 := [(wr.heap.size, enO p ep S ex se sq (.slice sa sl sc))]) hRr (b6.drew) (fun p hp => by
           rw [List.mem_singleton.1 hp]; exact ⟨Nat.le_refl _, he6⟩) (fun _ _ _ hh => hh)
         have b6z : Below wr.heap.size wr (W6.alloc (.cells #[.int .i64 0, .int .i64 0, .int .i64 0, .int .i64 0] 98)).drew := (b6.alloc b6.size _).drew
         have hRB := HRI.out.enter (R' := WithRow R (.slice (some ⟨b, o, none⟩) qs.length vc) qs) (J2 := [(wr.heap.size, enO p ep S ex se sq (.slice sa sl sc)), (W6.heap.size, .cells #[.int .i64 0, .int .i64 0, .int .i64 0, .int .i64 0] 98 (0, 0))]) hRr b6z (fun p hp => by
           simp only [List.mem_cons, List.not_mem_nil, or_false] at hp
           rcases hp with rfl | rfl
           · exact ⟨Nat.le_refl _, he6.next ((Below.refl _ W6).alloc (Nat.le_refl _) _).drew⟩
           · exact ⟨by omega, hz6⟩) (fun _ _ _ hh => hh)
         have hA1 := apply_rr hRA hR hqm hsa
         have hA2 := apply_rr hRB hR hqm hsa
         rw [hap, HV.out] at hA1 hA2
         have hA1 : Calls Tryz.prog 45 #[.pointer (some ⟨sb, 0, none⟩), .agg #[.int .i64 p, .int .i64 ep, .string S, .int .i64 ex, .int .i64 se, .int .i64 sq, .slice sa sl sc]] W6.drew (fun e w' => e = .returned (.tuple #[.agg #[.int .i64 oc, .int .i64 op, .int .i64 of, .int .i64 ov], .int .i64 (cd : Nat)]) ∧ RR (WithRow R (.slice (some ⟨b, o, none⟩) qs.length vc) qs) (J ++ K ++ [(wr.heap.size, enO p ep S ex se sq (.slice sa sl sc))]) a r lg d sb room s fs s2 w') := hA1
         have hA2 : Calls Tryz.prog 45 #[.pointer (some ⟨sb, 0, none⟩), .agg #[.int .i64 p, .int .i64 ep, .string S, .int .i64 ex, .int .i64 se, .int .i64 sq, .slice sa sl sc]] (W6.alloc (.cells #[.int .i64 0, .int .i64 0, .int .i64 0, .int .i64 0] 98)).drew (fun e w' => e = .returned (.tuple #[.agg #[.int .i64 oc, .int .i64 op, .int .i64 of, .int .i64 ov], .int .i64 (cd : Nat)]) ∧ RR (WithRow R (.slice (some ⟨b, o, none⟩) qs.length vc) qs) (J ++ K ++ [(wr.heap.size, enO p ep S ex se sq (.slice sa sl sc)), (W6.heap.size, .cells #[.int .i64 0, .int .i64 0, .int .i64 0, .int .i64 0] 98 (0, 0))]) a r lg d sb room s fs s2 w') := hA2
         have HA1 := Lib.hid hA1
         have HA2 := Lib.hid hA2
         have hrne : r < wr.heap.size := (Array.getElem?_eq_some_iff.1 HRI.out.box).1
         have HKS := Lib.hid (show ∀ Z, Below W6.heap.size W6 Z → Z.cell? ⟨r, 2, none⟩ = some (.pointer (some ⟨sb, 0, none⟩)) ∧ Z.cell? ⟨wr.heap.size, 0, none⟩ = some (.int .i64 p) ∧ Z.cell? ⟨wr.heap.size, 1, none⟩ = some (.int .i64 ep) ∧ Z.cell? ⟨wr.heap.size, 2, none⟩ = some (.string S) ∧ Z.cell? ⟨wr.heap.size, 3, none⟩ = some (.int .i64 ex) ∧ Z.cell? ⟨wr.heap.size, 4, none⟩ = some (.int .i64 se) ∧ Z.cell? ⟨wr.heap.size, 5, none⟩ = some (.int .i64 sq) ∧ Z.cell? ⟨wr.heap.size, 6, none⟩ = some (.slice sa sl sc) from fun Z hb => ⟨cell_kept hb (Nat.le_refl _) hr6, (he6.next hb).cells⟩)
         have HW6 := Lib.hid hW6
         have HQ := Lib.hid (And.intro hq (And.intro hs6 (And.intro hrne b6)))
         clear hA1 hA2 hRA hRB b6z hz6 hr6 he6 b6 hr2 hap hsi hpe hp2 hq hs6
         go_upto_region 7 with fail
         try rw [HW6.out]
         go_cut [8] (fun pv wx => ∃ b8, pv = .pointer (some ⟨b8, 0, none⟩) ∧ Hid (RR (WithRow R (.slice (some ⟨b, o, none⟩) qs.length vc) qs) (J ++ K ++ [(wr.heap.size, enO p ep S ex se sq (.slice sa sl sc)), (b8, .cells #[.int .i64 oc, .int .i64 op, .int .i64 of, .int .i64 ov] 98 (0, 0))]) a r lg d sb room s fs s2 wx))
         case first =>
           go_region_held3 (fun Z => Z.cell? ⟨r, 2, none⟩ = some (.pointer (some ⟨sb, 0, none⟩)) ∧ Z.cell? ⟨wr.heap.size, 0, none⟩ = some (.int .i64 p) ∧ Z.cell? ⟨wr.heap.size, 1, none⟩ = some (.int .i64 ep) ∧ Z.cell? ⟨wr.heap.size, 2, none⟩ = some (.string S) ∧ Z.cell? ⟨wr.heap.size, 3, none⟩ = some (.int .i64 ex) ∧ Z.cell? ⟨wr.heap.size, 4, none⟩ = some (.int .i64 se) ∧ Z.cell? ⟨wr.heap.size, 5, none⟩ = some (.int .i64 sq) ∧ Z.cell? ⟨wr.heap.size, 6, none⟩ = some (.slice sa sl sc))
             ((first
               | (refine HKS.out _ ?_; first
                 | with_reducible exact Below.refl _ W6
                 | with_reducible exact (Below.refl _ W6).drew
                 | with_reducible exact ((Below.refl _ W6).alloc (Nat.le_refl _) _).drew
                 | with_reducible exact (Below.refl _ W6).drew.alloc (Nat.le_refl _) _)
               | (refine HS6.out _ ?_; first
                 | with_reducible exact World.grownBy_alloc _ _ _
                 | with_reducible exact grown_set4 _ _ _ _ _ _
                 | with_reducible exact ⟨rfl, rfl, rfl, Nat.le_refl _, fun _ _ _ => rfl⟩)))
             (first
               | (go_at_call 45; refine HA1.out.mono ?_; rintro e w5 ⟨rfl, hx⟩; have HX := Lib.hid hx; have HS6 := Lib.hid (show ∀ Z, w5.grownBy Z (some w5.heap.size) → Z.cell? ⟨r, 2, none⟩ = some (.pointer (some ⟨sb, 0, none⟩)) ∧ Z.cell? ⟨wr.heap.size, 0, none⟩ = some (.int .i64 p) ∧ Z.cell? ⟨wr.heap.size, 1, none⟩ = some (.int .i64 ep) ∧ Z.cell? ⟨wr.heap.size, 2, none⟩ = some (.string S) ∧ Z.cell? ⟨wr.heap.size, 3, none⟩ = some (.int .i64 ex) ∧ Z.cell? ⟨wr.heap.size, 4, none⟩ = some (.int .i64 se) ∧ Z.cell? ⟨wr.heap.size, 5, none⟩ = some (.int .i64 sq) ∧ Z.cell? ⟨wr.heap.size, 6, none⟩ = some (.slice sa sl sc) from fun Z hg => by
                   have h1 := (hg.block r (Array.getElem?_eq_some_iff.1 hx.box).1 (by have := (Array.getElem?_eq_some_iff.1 hx.box).1; simp; omega)).trans hx.box
                   have hj := hx.junk (wr.heap.size, enO p ep S ex se sq (.slice sa sl sc)) (by simp)
                   have h2 := (hg.block wr.heap.size (Array.getElem?_eq_some_iff.1 hj).1 (by have := (Array.getElem?_eq_some_iff.1 hj).1; simp; omega)).trans hj
                   exact ⟨(show RB17 Z r d lg sb from h1).cells.2.2, EB17.cells h2⟩); clear hx)
               | (go_at_call 45; refine HA2.out.mono ?_; rintro e w5 ⟨rfl, hx⟩; have HX2 := Lib.hid hx; have hzq := hx.junk (W6.heap.size, .cells #[.int .i64 0, .int .i64 0, .int .i64 0, .int .i64 0] 98 (0, 0)) (by simp); have hzq : OutAt w5 (W6.heap.size) ⟨0, 0, 0, 0⟩ := hzq; have g0 := hzq.cells.1; have g1 := hzq.cells.2.1; have g2 := hzq.cells.2.2.1; have g3 := hzq.cells.2.2.2; have r0 := Lib.frozen_of_heap hzq 0; have r1 := Lib.frozen_of_heap hzq 1; have r2 := Lib.frozen_of_heap hzq 2; have r3 := Lib.frozen_of_heap hzq 3; have HZQ := Lib.hid hzq; have HS6 := Lib.hid (show ∀ Z, w5.grownBy Z (some (W6.heap.size)) → Z.cell? ⟨r, 2, none⟩ = some (.pointer (some ⟨sb, 0, none⟩)) ∧ Z.cell? ⟨wr.heap.size, 0, none⟩ = some (.int .i64 p) ∧ Z.cell? ⟨wr.heap.size, 1, none⟩ = some (.int .i64 ep) ∧ Z.cell? ⟨wr.heap.size, 2, none⟩ = some (.string S) ∧ Z.cell? ⟨wr.heap.size, 3, none⟩ = some (.int .i64 ex) ∧ Z.cell? ⟨wr.heap.size, 4, none⟩ = some (.int .i64 se) ∧ Z.cell? ⟨wr.heap.size, 5, none⟩ = some (.int .i64 sq) ∧ Z.cell? ⟨wr.heap.size, 6, none⟩ = some (.slice sa sl sc) from fun Z hg => by
                   have h1 := (hg.block r (Array.getElem?_eq_some_iff.1 hx.box).1 (by have := HQ.out.2.2.1; have := HQ.out.2.1; simp; omega)).trans hx.box
                   have hj := hx.junk (wr.heap.size, enO p ep S ex se sq (.slice sa sl sc)) (by simp)
                   have h2 := (hg.block wr.heap.size (Array.getElem?_eq_some_iff.1 hj).1 (by have := HQ.out.2.1; simp; omega)).trans hj
                   exact ⟨(show RB17 Z r d lg sb from h1).cells.2.2, EB17.cells h2⟩); clear hx hzq))
           all_goals go_wp2
           all_goals go_meet
           all_goals first
             | exact ⟨_, rfl, Lib.hid (by
                 have h9 := HX.out.enter (R' := WithRow R (.slice (some ⟨b, o, none⟩) qs.length vc) qs) (J2 := [(w5.heap.size, .cells #[.int .i64 oc, .int .i64 op, .int .i64 of, .int .i64 ov] 98 (0, 0))]) hRr ((Below.refl _ w5).alloc (Nat.le_refl _) (.cells #[.int .i64 oc, .int .i64 op, .int .i64 of, .int .i64 ov] 98)) (fun p hp => by
                   rw [List.mem_singleton.1 hp]; exact ⟨Nat.le_refl _, heap_alloc_new w5 _⟩) (fun _ _ _ hh => hh)
                 rw [show J ++ K ++ [(wr.heap.size, enO p ep S ex se sq (.slice sa sl sc))] ++ [(w5.heap.size, .cells #[.int .i64 oc, .int .i64 op, .int .i64 of, .int .i64 ov] 98 (0, 0))] = J ++ K ++ [(wr.heap.size, enO p ep S ex se sq (.slice sa sl sc)), (w5.heap.size, .cells #[.int .i64 oc, .int .i64 op, .int .i64 of, .int .i64 ov] 98 (0, 0))] by simp] at h9
                 exact h9)⟩
             | exact ⟨_, rfl, Lib.hid (by
                 have hg := grown_set4 w5 W6.heap.size (.int .i64 oc) (.int .i64 op) (.int .i64 of) (.int .i64 ov)
                 have hne : ∀ p ∈ J ++ K, p.1 ≠ W6.heap.size := fun p hp e => by
                   have h1 := (Array.getElem?_eq_some_iff.1 (HRI.out.junk p hp)).1
                   have h2 := HQ.out.2.1
                   omega
                 refine HX2.out.turnE hRr (Turn.of_grown hg ⟨(W6.heap.size, .cells #[.int .i64 0, .int .i64 0, .int .i64 0, .int .i64 0] 98 (0, 0)), by simp, rfl⟩) (fun p hp => ?_) (fun _ _ _ hh => hh)
                 rcases List.mem_append.1 hp with hp | hp
                 · have h1 := HX2.out.junk p (List.mem_append_left _ hp)
                   exact ⟨.inl ⟨p, List.mem_append_left _ hp, rfl⟩, (hg.block p.1 (Array.getElem?_eq_some_iff.1 h1).1 (by have := hne p hp; simpa using this)).trans h1⟩
                 · simp only [List.mem_cons, List.not_mem_nil, or_false] at hp
                   rcases hp with rfl | rfl
                   · have h1 := HX2.out.junk (wr.heap.size, enO p ep S ex se sq (.slice sa sl sc)) (by simp)
                     exact ⟨.inl ⟨(wr.heap.size, enO p ep S ex se sq (.slice sa sl sc)), by simp, rfl⟩, (hg.block wr.heap.size (Array.getElem?_eq_some_iff.1 h1).1 (by have := HQ.out.2.1; simp; omega)).trans h1⟩
                   · exact ⟨.inl ⟨(W6.heap.size, .cells #[.int .i64 0, .int .i64 0, .int .i64 0, .int .i64 0] 98 (0, 0)), by simp, rfl⟩, out_store HZQ.out _ _ _ _⟩)⟩
         case rest =>
           obtain ⟨b8, rfl, HX⟩ := hcut
           obtain ⟨y0, y1, y2, y3, y4, y5, y6⟩ := EB17.cells (HX.out.junk (wr.heap.size, enO p ep S ex se sq (.slice sa sl sc)) (by simp))
           have ho8 : OutAt wc b8 ⟨oc, op, of, ov⟩ := HX.out.junk (b8, .cells #[.int .i64 oc, .int .i64 op, .int .i64 of, .int .i64 ov] 98 (0, 0)) (by simp)
           obtain ⟨g0, g1, g2, g3⟩ := ho8.cells
           have hbD : Below wc.heap.size wc (wc.alloc (.cells #[.int .i64 p, .int .i64 ep, .string S, .int .i64 ex, .int .i64 se, .int .i64 sq, .slice sa sl sc, .int .i64 oc, .int .i64 op, .int .i64 of, .int .i64 ov] 102)) := (Below.refl _ wc).alloc (Nat.le_refl _) _
           have hownc : wc.ownsRow w.heap.size 102 11 (.slice xa i xc) i (doneCells dn) := ownsRow_at HOW.out (fun g hg _ => by
             rcases HOJ.out with ⟨h0, _⟩ | ⟨g1, o1, h1, hK⟩
             · rw [h0] at hg; cases hg
             · rw [h1] at hg; cases hg
               rw [HX.out.junk (_, o1) (by rw [hK]; simp), HRI.out.junk (_, o1) (by rw [hK]; simp)])
           have hownD := owns_next hownc hbD
           have hxD : Cells (wc.alloc (.cells #[.int .i64 p, .int .i64 ep, .string S, .int .i64 ex, .int .i64 se, .int .i64 sq, .slice sa sl sc, .int .i64 oc, .int .i64 op, .int .i64 of, .int .i64 ov] 102)) (.slice (some ⟨wc.heap.size, 0, none⟩) 1 1) 11 1 (doneCells [(q, ⟨oc, op, of, ov⟩)]) := by
             rw [done_news HV.out]
             refine ⟨rfl, .inr ⟨wc.heap.size, 0, 1, rfl, fun j u hj => ?_⟩⟩
             rw [Lib.cell_of_heap (heap_alloc_new wc _)]
             match j with
             | 0 | 1 | 2 | 3 | 4 | 5 | 6 | 7 | 8 | 9 | 10 => simpa using hj
             | j + 11 => simp at hj
           have honeD : ∀ u ∈ doneCells [(q, (⟨oc, op, of, ov⟩ : Outc))], u.oneCell' = true := by
             rw [done_news HV.out]
             simp [Value.oneCell']
           have hbase : w.heap.size ≤ (wc.alloc (.cells #[.int .i64 p, .int .i64 ep, .string S, .int .i64 ex, .int .i64 se, .int .i64 sq, .slice sa sl sc, .int .i64 oc, .int .i64 op, .int .i64 of, .int .i64 ov] 102)).heap.size := by
             have h2 : wr.heap.size < wc.heap.size := (Array.getElem?_eq_some_iff.1 (HX.out.junk (wr.heap.size, enO p ep S ex se sq (.slice sa sl sc)) (by simp))).1
             rw [World.size_alloc]
             omega
           have HBS := Lib.hid hbase
           have HOD := Lib.hid (And.intro hownD (And.intro hxD (And.intro honeD hbase)))
           have HXD := Lib.hid (HX.out.next hRr hbD)
           clear hownc hownD hxD honeD hbase hbD ho8 HA1 HA2 HKS HX
           go_wp2_with (at_builtin; refine wpList_append_at rfl _ _ rfl doneT w.heap.size (.slice xa i xc) i (doneCells dn) rfl HOD.out.1 _ 1 (doneCells [(q, ⟨oc, op, of, ov⟩)]) rfl HOD.out.2.1 HOD.out.2.2.1 (by omega) HOD.out.2.2.2 ?_)
           intro v' w10 hown hg hbl
           obtain ⟨ya, yc, rfl⟩ := cells_slice (cells_of_owns hown)
           obtain ⟨K', hO', hR'⟩ := HXD.out.appended hRr HOJ.out hJ (fun g hgg => (HOW.out.lt g hgg).1) hown hg (by rw [World.size_alloc]; exact hbl)
           have HFI := Lib.hid (And.intro hown (And.intro hO' (And.intro hR' (show w.heap.size ≤ w10.heap.size from Nat.le_trans HBS.out hg.size))))
           clear hown hg hbl hO' hR' HXD HOD
           go_wp2
           refine ⟨⟨i + 1, ya, yc, dn ++ [(q, ⟨oc, op, of, ov⟩)], K', rfl, by go_num, by omega, by simp [hdn], HFI.out.2.2.2, Lib.hid ?_, Lib.hid ?_, Lib.hid HFI.out.2.1, Lib.hid ?_⟩, by simp [intOf]; omega⟩
           · rw [HPLA.out, List.map_append, HD.out]; rfl
           · rw [doneCells_snoc]; exact HFI.out.1
           · rw [HPLA.out]; exact HFI.out.2.2.1
       · obtain rfl : i = qs.length := by omega
         have hpl : (plainE qs).take qs.length = advL st n s.es := by
           rw [HL.out, ← HPL.out, List.take_of_length_le (by simp [plainE])]
         rw [hpl] at HD HRI
         have HFIN := Lib.hid ((HRI.out.turnE (J' := J) (stable2_row hR _ _) (Turn.refl _ _) (fun p hp => ⟨.inl ⟨p, by simp [hp], rfl⟩, HRI.out.junk p (by simp [hp])⟩) (fun _ _ _ hh => hh)).dropRow)
         have HDN := Lib.hid hdn
         clear hpl hdn HRI HOW HOJ
         go_wp2
         go_ret
         exact ⟨xa, xc, dn, by rw [HDN.out]; rfl, HD, HFIN.out⟩
end Go.Proofs.YtgddgipjpdjoaaaGreatDoor
