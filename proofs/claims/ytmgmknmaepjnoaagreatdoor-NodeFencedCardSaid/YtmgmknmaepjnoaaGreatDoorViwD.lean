/-
  Views: a row of ints cloned; a view of a message.
-/
import Derived.Test.YtmgmknmaepjnoaaGreatDoorViwB
import Derived.Test.YtmgmknmaepjnoaaGreatDoorMeP3
namespace Go.Proofs.YtmgmknmaepjnoaaGreatDoor
open Go.RowKit Go.Shelf Proofs.Tryz
theorem rj:fh prog 32 3 1:=by
 have h:(prog.info? 3).map (fun i=>(i.zero,i.size,i.bytes))=some (some (.int .i64 0),1,8):=by kernel_rfl
 obtain⟨i0,hi,hz0,hz1,hz2⟩:=info_parts h;exact⟨underlying32,⟨i0,_,8,hi,hz0,hz1,hz2,rfl,by omega⟩,by omega⟩
theorem Ho (l:List Int):∀u∈aE l,u.oneCell'=true:=fun u hu=>by
 unfold aE at hu;obtain⟨x,_,rfl⟩:=List.mem_map.1 hu;rfl
def fR (w:World) (B:Nat) (a:Option Addr) (c:Nat) (l:List Int):Prop:=∃g,a=some ⟨g,0,none⟩/\w.ownsRow B 3 1 (.slice a l.length c) l.length (aE l)
theorem fR.cap {w:World} {B:Nat} {a:Option Addr} {c:Nat} {l:List Int} (h:fR w B a c l):l.length<=c:=by
 obtain⟨g,rfl,h⟩:=h;rcases h.2 with⟨e,h0⟩|⟨g2,cap,cur,e,_,_,hc,_⟩
 ·cases e
 ·simp only[Value.slice.injEq]at e;rw[e.2.2];exact hc
theorem fR.next {w w':World} {B:Nat} {a:Option Addr} {c:Nat} {l:List Int} (h:fR w B a c l) (hb:Below w.heap.size w w'):fR w' B a c l:=by
 obtain⟨g,e,h⟩:=h;exact⟨g,e,bX h hb⟩
theorem fR.low {w:World} {B B':Nat} {a:Option Addr} {c:Nat} {l:List Int} (h:fR w B a c l) (hb:B'<=B):fR w B' a c l:=by
 obtain⟨g,e,h⟩:=h;exact⟨g,e,bV h hb⟩
theorem jB (a:Option Addr) (c:Nat) (l:List Int) (w:World) (h:Cells w (.slice a l.length c) 1 l.length (aE l)) (hn:l.length<=1000) (h1:1<=l.length) :
 Calls prog 47 #[.slice a l.length c] w fun e w'=>∃a' c',e=.returned (.slice a' l.length c')/\Hid (fR w' w.heap.size a' c' l)/\Below w.heap.size w w':=by
 have hq:∀(w:World) (a:Option Addr) (n c n' c':Nat),(binOp .eql 32 (.slice a n c) (.slice none n' c')).run prog w=.ok (.bool a.isNone) w:=fun w a n c n' c'=>Lib.run_eql_slice_nil w _ _ a n c n' c' underlying32;rcases h.2 with⟨h0,_⟩|⟨b,o,c',he,_⟩
 ·omega
 simp only[Value.slice.injEq]at he;obtain⟨rfl,_,rfl⟩:=he;have HX:=ad (h.next ((ae _ w).alloc ab (.cells #[] 3)));clear h;go_enter func47,ntmps47;go_wp2_with (at_builtin;refine fG rfl _ _ rfl rj w.heap.size _ 0 [] rfl (me w w.heap.size 3 1 ab) _ l.length (aE l) rfl HX.out (Ho l) ?c3 ?c2 ?_)
 case c3=>omega
 case c2=>simp
 intro v' w2 hown hg _;have hO:w2.ownsRow w.heap.size 3 1 v' l.length (aE l):=by simpa using hown
 obtain⟨g,cap,hv⟩:∃g cap,v'=.slice (some ⟨g,0,none⟩) l.length cap:=by
  rcases hO.2 with⟨_,h0⟩|⟨g,cap,cur,e,_⟩
  ·omega
  ·exact⟨g,cap,e⟩
 subst hv;have HO:=ad (show fR w2 w.heap.size (some ⟨g,0,none⟩) cap l from⟨g,rfl,hO⟩);have HB:=ad (((ae _ w).alloc ab (.cells #[] 3)).grown hg (by simp) (fun k hk=>by cases hk;exact ab));clear hown hg hO;go_wp2;go_ret;exact⟨_,_,rfl,HO,HB.out⟩
set_option maxHeartbeats 4000000 in
theorem xI (V:Vw) (A:q_gk) (w:World) (h0:V.ep<1) :
 Calls prog 102 #[dw V A] w fun e w'=>e=.returned (.bool false)/\Below w.heap.size w w':=by
 unfold dw;go_enter func102,ntmps102;go_wp2
 all_goals (go_ret;exact⟨rfl,an (ae _ w) _⟩)
theorem mi {w0 wa wb:World} {a b c d:Addr} {u v x y:Value} (h:wa.cell? a=some u/\wa.cell? b=some v/\wa.cell? c=some x/\wa.cell? d=some y/\Below w0.heap.size w0 wa) (hb:Below wa.heap.size wa wb):wb.cell? a=some u/\wb.cell? b=some v/\wb.cell? c=some x/\wb.cell? d=some y/\Below w0.heap.size w0 wb :=
 ⟨cell_kept hb ab h.1,cell_kept hb ab h.2.1,cell_kept hb ab h.2.2.1,cell_kept hb ab h.2.2.2.1,Below.up h.2.2.2.2 ab hb⟩
def mu (w:World) (B:Nat) (V:Vw) (A:q_gk):Prop:=fR w B A.ca A.cc V.ch/\fR w B A.sa A.sc V.si/\fR w B A.ba A.bc V.bo
theorem mu.at {w:World} {B:Nat} {V:Vw} {A:q_gk} (h:mu w B V A):fE w V A:=by
 obtain⟨h1,h2,h3⟩:=h;have h4:=h1.cap;obtain⟨_,_,g1⟩:=h1;obtain⟨_,_,g2⟩:=h2;obtain⟨_,_,g3⟩:=h3;exact⟨aj g1,aj g2,aj g3,h4⟩
theorem mu.next {w w':World} {B:Nat} {V:Vw} {A:q_gk} (h:mu w B V A) (hb:Below w.heap.size w w'):mu w' B V A:=⟨h.1.next hb,h.2.1.next hb,h.2.2.next hb⟩
theorem GQ {X w':World} {c:Array Value} {e:TypeId} (hb:Below (X.alloc (.cells c e)).heap.size (X.alloc (.cells c e)) w'):w'.heap[X.heap.size]?=some (.cells c e (0,0)):=(hb.block _ (by simp)).trans (heap_alloc_new X _)
theorem CV {X w':World} {c:Array Value} {e:TypeId} (hb:Below (X.drew.alloc (.cells c e)).heap.size (X.drew.alloc (.cells c e)) w'):w'.heap[X.heap.size]?=some (.cells c e (0,0)):=(hb.block X.heap.size (by simp)).trans (heap_alloc_new X.drew _)
theorem oG {X w':World} {o:Obj} (hb:Below (X.alloc o).heap.size (X.alloc o) w'):Below X.heap.size X w':=Below.up (an (ae _ X) o) ab hb
theorem Ae {w w3 Z:World} {k:Nat} {a b c d:Addr} {u v x y:Value} (h:w3.cell? a=some u/\w3.cell? b=some v/\w3.cell? c=some x/\w3.cell? d=some y/\Below w.heap.size w w3) (hg:w3.grownBy Z (some k)) (ha:a.block=w.heap.size) (hb:b.block=w.heap.size) (hc:c.block=w.heap.size) (hd:d.block=w.heap.size) (hk:w.heap.size<k) :
 Z.cell? a=some u/\Z.cell? b=some v/\Z.cell? c=some x/\Z.cell? d=some y/\Below w.heap.size w Z:=by
 have hne:∀e:Addr,e.block=w.heap.size->some e.block≠some k:=fun e he q=>by simp only[Option.some.injEq]at q;omega
 refine⟨hg.cell h.1 (hne a ha),hg.cell h.2.1 (hne b hb),hg.cell h.2.2.1 (hne c hc),hg.cell h.2.2.2.1 (hne d hd),h.2.2.2.2.grown hg h.2.2.2.2.size (fun j hj=>by simp only[Option.some.injEq]at hj;omega)⟩
theorem vV {X w':World} {o:Obj} (hb:Below (X.drew.alloc o).heap.size (X.drew.alloc o) w'):Below X.heap.size X w':=Below.up (an ((ae _ X).drew:Below X.heap.size X X.drew) o) ab hb
theorem vh {X w':World} (hb:Below X.drew.heap.size X.drew w'):Below X.heap.size X w':=(ae X.heap.size X).drew.trans hb
theorem qi:(prog.info? 70).map (·.size)=some 4:=by kernel_rfl
theorem fI {w:World} {b:Nat} (h:w.heap[b]?=some (.cells #[.int .i64 0,.slice none 0 0,.slice none 0 0,.slice none 0 0] 70 (0,0))):w.cell? ⟨b,0,none⟩=some (.int .i64 0)/\w.cell? ⟨b,1,none⟩=some (.slice none 0 0)/\w.cell? ⟨b,2,none⟩=some (.slice none 0 0)/\w.cell? ⟨b,3,none⟩=some (.slice none 0 0):=by
 refine⟨?_,?_,?_,?_⟩ <;> (rw[aw h];rfl)
def l8:Obj:=.cells #[.int .i64 0,.slice none 0 0,.slice none 0 0,.slice none 0 0] 70 (0,0)
theorem oJ {w:World} {b:Nat} {u0 u1 u2 u3:Value} (h:w.heap[b]?=some (.cells #[u0,u1,u2,u3] 70 (0,0))) (v0 v1 v2 v3:Value):((((w.setCell ⟨b,0,none⟩ v0).setCell ⟨b,1,none⟩ v1).setCell ⟨b,2,none⟩ v2).setCell ⟨b,3,none⟩ v3).heap[b]?=some (.cells #[v0,v1,v2,v3] 70 (0,0)):=by
 have h0:(w.setCell ⟨b,0,none⟩ v0).heap[b]?=some (.cells #[v0,u1,u2,u3] 70 (0,0)):=av (i:=0) h _;have h1:=av (i:=1) h0 v1;have h1:_=some (Obj.cells #[v0,v1,u2,u3] 70 (0,0)):=h1;have h2:=av (i:=2) h1 v2;have h2:_=some (Obj.cells #[v0,v1,v2,u3] 70 (0,0)):=h2;exact av (i:=3) h2 v3
theorem fR.grown {w w':World} {B k:Nat} {a:Option Addr} {c:Nat} {l:List Int} (h:fR w B a c l) (hg:w.grownBy w' (some k)) {cs:Array Value} {e:TypeId} (hk:w.heap[k]?=some (.cells cs e (0,0))) (he:e≠3):fR w' B a c l:=by
 obtain⟨g,rfl,h⟩:=h;refine⟨g,rfl,h.kept hg (.inr fun q=>?_)⟩;simp only[Value.ownBlock,Option.some.injEq]at q;subst q;rcases h.2 with⟨q,_⟩|⟨g2,cap,cur,q,_,hc,_⟩
 ·cases q
 ·simp only[Value.slice.injEq,Option.some.injEq,Addr.mk.injEq,and_true,true_and]at q;rw[<-q.1,hk]at hc;simp only[Option.some.injEq,Obj.cells.injEq]at hc;exact he hc.2.1
theorem LW {w w3:World} {V:Vw} {a1 a2 a3:Option Addr} {c1 c2 c3:Nat} (hB:Below w.heap.size w w3) (h1:fR w3 w.heap.size a1 c1 V.ch) (h2:fR w3 w.heap.size a2 c2 V.si) (h3:fR w3 w.heap.size a3 c3 V.bo) (hr:w3.heap[w.heap.size+1]?=some l8) :
 ∃g A',Value.pointer (some ⟨w3.heap.size,0,none⟩)=.pointer (some ⟨g,0,none⟩)/\Hid ((w3.alloc (.cells #[.int .i64 V.ep,.slice a1 V.ch.length c1,.slice a2 V.si.length c2,.slice a3 V.bo.length c3] 70)).heap[g]?=some (nj V A'))/\Hid (mu (w3.alloc (.cells #[.int .i64 V.ep,.slice a1 V.ch.length c1,.slice a2 V.si.length c2,.slice a3 V.bo.length c3] 70)) w.heap.size V A')/\Hid (Below w.heap.size w (w3.alloc (.cells #[.int .i64 V.ep,.slice a1 V.ch.length c1,.slice a2 V.si.length c2,.slice a3 V.bo.length c3] 70)))/\Hid ((w3.alloc (.cells #[.int .i64 V.ep,.slice a1 V.ch.length c1,.slice a2 V.si.length c2,.slice a3 V.bo.length c3] 70)).heap[w.heap.size+1]?=some l8) :=
 have hb:=an (ae _ w3) (.cells #[.int .i64 V.ep,.slice a1 V.ch.length c1,.slice a2 V.si.length c2,.slice a3 V.bo.length c3] 70)
 ⟨w3.heap.size,⟨a1,c1,a2,c2,a3,c3⟩,rfl,ad (heap_alloc_new w3 _),ad ⟨h1.next hb,h2.next hb,h3.next hb⟩,ad (an hB _),ad (au hb ab hr)⟩
theorem LV {w w3:World} {k:Nat} {V:Vw} {a1 a2 a3:Option Addr} {c1 c2 c3:Nat} (hB:Below w.heap.size w w3) (h1:fR w3 w.heap.size a1 c1 V.ch) (h2:fR w3 w.heap.size a2 c2 V.si) (h3:fR w3 w.heap.size a3 c3 V.bo) (hr:w3.heap[w.heap.size+1]?=some l8) (hz:w3.heap[k]?=some l8) (hk:w.heap.size+1<k) :
 ∃g A',Value.pointer (some ⟨k,0,none⟩)=.pointer (some ⟨g,0,none⟩)/\Hid (((((w3.setCell ⟨k,0,none⟩ (.int .i64 V.ep)).setCell ⟨k,1,none⟩ (.slice a1 V.ch.length c1)).setCell ⟨k,2,none⟩ (.slice a2 V.si.length c2)).setCell ⟨k,3,none⟩ (.slice a3 V.bo.length c3)).heap[g]?=some (nj V A'))/\Hid (mu ((((w3.setCell ⟨k,0,none⟩ (.int .i64 V.ep)).setCell ⟨k,1,none⟩ (.slice a1 V.ch.length c1)).setCell ⟨k,2,none⟩ (.slice a2 V.si.length c2)).setCell ⟨k,3,none⟩ (.slice a3 V.bo.length c3)) w.heap.size V A')/\Hid (Below w.heap.size w ((((w3.setCell ⟨k,0,none⟩ (.int .i64 V.ep)).setCell ⟨k,1,none⟩ (.slice a1 V.ch.length c1)).setCell ⟨k,2,none⟩ (.slice a2 V.si.length c2)).setCell ⟨k,3,none⟩ (.slice a3 V.bo.length c3)))/\Hid (((((w3.setCell ⟨k,0,none⟩ (.int .i64 V.ep)).setCell ⟨k,1,none⟩ (.slice a1 V.ch.length c1)).setCell ⟨k,2,none⟩ (.slice a2 V.si.length c2)).setCell ⟨k,3,none⟩ (.slice a3 V.bo.length c3)).heap[w.heap.size+1]?=some l8) :=
 have hg:=dG w3 k (.int .i64 V.ep) (.slice a1 V.ch.length c1) (.slice a2 V.si.length c2) (.slice a3 V.bo.length c3)
 ⟨k,⟨a1,c1,a2,c2,a3,c3⟩,rfl,ad (oJ hz _ _ _ _),ad ⟨h1.grown hg hz (by decide),h2.grown hg hz (by decide),h3.grown hg hz (by decide)⟩,ad (hB.grown hg hB.size (fun j hj=>by simp only[Option.some.injEq]at hj;omega)),ad ((hg.block _ (aA.1 hr).1 (fun e=>by simp only[Option.some.injEq]at e;omega)).trans hr)⟩
set_option maxHeartbeats 16000000 in
set_option maxRecDepth 100000 in
theorem tI (V:Vw) (A:q_gk) (b:Bool) (w:World) (h:fE w V A) (h1:1<=V.ch.length/\V.ch.length<=100) (h2:1<=V.si.length/\V.si.length<=100) (h3:1<=V.bo.length/\V.bo.length<=100) (hV:if b=true then eU V else V.ep<1) :
 Calls prog 54 #[dw V A] w fun e w'=>(if b=true then ∃A',e=.returned (.tuple #[dw V A',.bool true])/\Hid (mu w' w.heap.size V A') else e=.returned (.tuple #[.agg #[.int .i64 0,.slice none 0 0,.slice none 0 0,.slice none 0 0],.bool false]))/\Below w.heap.size w w':=by
 obtain⟨W,hW⟩:∃W,(w.alloc (.cells #[.int .i64 V.ep,.slice A.ca V.ch.length A.cc,.slice A.sa V.si.length A.sc,.slice A.ba V.bo.length A.bc] 47)).alloc (.cells #[.int .i64 0,.slice none 0 0,.slice none 0 0,.slice none 0 0] 70)=W:=⟨_,rfl⟩;have bW:Below w.heap.size w W:=by rw[<-hW];exact an (an (ae _ w) _) _
 have hz:W.heap[w.heap.size]?=some (.cells #[.int .i64 V.ep,.slice A.ca V.ch.length A.cc,.slice A.sa V.si.length A.sc,.slice A.ba V.bo.length A.bc] 47 (0,0)):=by
  rw[<-hW,Lib.alloc_old _ _ _ (by simp)];exact heap_alloc_new w _
 have k0:W.cell? ⟨w.heap.size,0,none⟩=some (.int .i64 V.ep):=aq hz rfl;have k1:W.cell? ⟨w.heap.size,1,none⟩=some (.slice A.ca V.ch.length A.cc):=aq hz rfl;have k2:W.cell? ⟨w.heap.size,2,none⟩=some (.slice A.sa V.si.length A.sc):=aq hz rfl;have k3:W.cell? ⟨w.heap.size,3,none⟩=some (.slice A.ba V.bo.length A.bc):=aq hz rfl;have hr:W.heap[w.heap.size+1]?=some (.cells #[.int .i64 0,.slice none 0 0,.slice none 0 0,.slice none 0 0] 70 (0,0)):=by
  rw[<-hW];have:=heap_alloc_new (w.alloc (.cells #[.int .i64 V.ep,.slice A.ca V.ch.length A.cc,.slice A.sa V.si.length A.sc,.slice A.ba V.bo.length A.bc] 47)) (.cells #[.int .i64 0,.slice none 0 0,.slice none 0 0,.slice none 0 0] 70);rw[World.size_alloc]at this;exact this
 have C1:=ad (fun Z (hb:Below w.heap.size w Z)=>(jB A.ca A.cc V.ch Z (h.next hb).1 (by omega) h1.1).mono (R':=fun e w'=>∃a' c',e=.returned (.slice a' V.ch.length c')/\Hid (fR w' w.heap.size a' c' V.ch)/\Below Z.heap.size Z w') (by
  rintro e w' ⟨a',c',rfl,ho,hb'⟩;exact⟨a',c',rfl,ad (ho.out.low hb.size),hb'⟩))
 have C2:=ad (fun Z (hb:Below w.heap.size w Z)=>(jB A.sa A.sc V.si Z (h.next hb).2.1 (by omega) h2.1).mono (R':=fun e w'=>∃a' c',e=.returned (.slice a' V.si.length c')/\Hid (fR w' w.heap.size a' c' V.si)/\Below Z.heap.size Z w') (by
  rintro e w' ⟨a',c',rfl,ho,hb'⟩;exact⟨a',c',rfl,ad (ho.out.low hb.size),hb'⟩))
 have C3:=ad (fun Z (hb:Below w.heap.size w Z)=>(jB A.ba A.bc V.bo Z (h.next hb).2.2.1 (by omega) h3.1).mono (R':=fun e w'=>∃a' c',e=.returned (.slice a' V.bo.length c')/\Hid (fR w' w.heap.size a' c' V.bo)/\Below Z.heap.size Z w') (by
  rintro e w' ⟨a',c',rfl,ho,hb'⟩;exact⟨a',c',rfl,ad (ho.out.low hb.size),hb'⟩))
 have HK0:=ad (show ∀Z,Below W.heap.size W Z->(Z.cell? ⟨w.heap.size,0,none⟩=some (.int .i64 V.ep)/\Z.cell? ⟨w.heap.size,1,none⟩=some (.slice A.ca V.ch.length A.cc)/\Z.cell? ⟨w.heap.size,2,none⟩=some (.slice A.sa V.si.length A.sc)/\Z.cell? ⟨w.heap.size,3,none⟩=some (.slice A.ba V.bo.length A.bc)/\Below w.heap.size w Z)from fun Z hz=>mi ⟨k0,k1,k2,k3,bW⟩ hz);have HWS:=ad (show W.heap.size=w.heap.size+2 by rw[<-hW];simp);have HBW:=ad bW;have HW:=ad hW;have HV:=ad hV;have HLN:=ad (aB h1 (aB h2 h3));have hr:W.heap[w.heap.size+1]?=some l8:=hr;clear h hz bW hW hV h1 h2 h3;unfold dw;go_enter func54,ntmps54;go_upto_region 1 with fail;rw[HW.out];go_cut [4] (fun vv wx=>∃g A',vv=.pointer (some ⟨g,0,none⟩)/\Hid (wx.heap[g]?=some (nj V A'))/\Hid (mu wx w.heap.size V A')/\Hid (Below w.heap.size w wx)/\Hid (wx.heap[w.heap.size+1]?=some (.cells #[.int .i64 0,.slice none 0 0,.slice none 0 0,.slice none 0 0] 70 (0,0))))
 case first =>
  go_region_held3 (fun Z=>Z.cell? ⟨w.heap.size,0,none⟩=some (.int .i64 V.ep)/\Z.cell? ⟨w.heap.size,1,none⟩=some (.slice A.ca V.ch.length A.cc)/\Z.cell? ⟨w.heap.size,2,none⟩=some (.slice A.sa V.si.length A.sc)/\Z.cell? ⟨w.heap.size,3,none⟩=some (.slice A.ba V.bo.length A.bc)/\Below w.heap.size w Z)
   (first|exact⟨k0,k1,k2,k3,HBW.out.drew⟩|exact mi (by assumption) hb|exact HK3.out _ (an (ae _ _) _)|exact HK2.out _ (an (ae _ _) _)|exact HK1.out _ (an (ae _ _) _)|exact HK0.out _ ((ae _ W).drew.alloc ab _)|exact Ae (HK3.out _ (ae _ _)) (dG _ _ _ _ _ _) rfl rfl rfl rfl (World.block_lt_of_cell? _ _ (HK2.out _ (ae _ _)).1)|exact Ae (HK3.out _ (ae _ _)) (dG _ _ _ _ _ _) rfl rfl rfl rfl (World.block_lt_of_cell? _ _ (HK1.out _ (ae _ _)).1)|exact Ae (HK3.out _ (ae _ _)) (dG _ _ _ _ _ _) rfl rfl rfl rfl (World.block_lt_of_cell? _ _ (HK0.out _ (ae _ _)).1))
   (first
    |(go_at_call_of 47 (Value.slice A.ca V.ch.length A.cc);refine(C1.out _ (And.right (And.right (And.right (And.right (by assumption)))))).mono ?_;rintro e w1 ⟨a1,c1,rfl,HO1,hb⟩;have hrr:w1.heap[w.heap.size+1]?=some l8:=(by first|with_reducible exact au (oG hb) ab hr|with_reducible exact au hb ab hr|exact au (vV hb) ab hr|exact au (vh hb) ab hr);have hsz1:w.heap.size+1<w1.heap.size:=(aA.1 hrr).1;have HK1:=ad (show ∀Z,Below w1.heap.size w1 Z->(Z.cell? ⟨w.heap.size,0,none⟩=some (.int .i64 V.ep)/\Z.cell? ⟨w.heap.size,1,none⟩=some (.slice A.ca V.ch.length A.cc)/\Z.cell? ⟨w.heap.size,2,none⟩=some (.slice A.sa V.si.length A.sc)/\Z.cell? ⟨w.heap.size,3,none⟩=some (.slice A.ba V.bo.length A.bc)/\Below w.heap.size w Z)from fun Z hz=>mi (mi (by assumption) hb) hz);(first|(have hz:=CV hb;obtain⟨n0,n1,n2,n3⟩:=fI hz;have f0:=ay hz 0;have f1:=ay hz 1;have f2:=ay hz 2;have f3:=ay hz 3)|(have hz:=GQ hb;obtain⟨n0,n1,n2,n3⟩:=fI hz;have f0:=ay hz 0;have f1:=ay hz 1;have f2:=ay hz 2;have f3:=ay hz 3)|(have hz:=au hb ab hz;obtain⟨n0,n1,n2,n3⟩:=fI hz;have f0:=ay hz 0;have f1:=ay hz 1;have f2:=ay hz 2;have f3:=ay hz 3)|skip))
    |(go_at_call_of 47 (Value.slice A.sa V.si.length A.sc);refine(C2.out _ (And.right (And.right (And.right (And.right (by assumption)))))).mono ?_;rintro e w2 ⟨a2,c2,rfl,HO2,hb⟩;have hrr:w2.heap[w.heap.size+1]?=some l8:=(by first|with_reducible exact au (oG hb) ab hrr|with_reducible exact au hb ab hrr|exact au (vV hb) ab hrr|exact au (vh hb) ab hrr);have hsz2:w.heap.size+1<w2.heap.size:=(aA.1 hrr).1;have HK2:=ad (show ∀Z,Below w2.heap.size w2 Z->(Z.cell? ⟨w.heap.size,0,none⟩=some (.int .i64 V.ep)/\Z.cell? ⟨w.heap.size,1,none⟩=some (.slice A.ca V.ch.length A.cc)/\Z.cell? ⟨w.heap.size,2,none⟩=some (.slice A.sa V.si.length A.sc)/\Z.cell? ⟨w.heap.size,3,none⟩=some (.slice A.ba V.bo.length A.bc)/\Below w.heap.size w Z)from fun Z hz=>mi (mi (by assumption) hb) hz);have HO1:=ad (by first|exact HO1.out.next hb|exact HO1.out.next (oG hb));(first|(have hz:=CV hb;obtain⟨n0,n1,n2,n3⟩:=fI hz;have f0:=ay hz 0;have f1:=ay hz 1;have f2:=ay hz 2;have f3:=ay hz 3)|(have hz:=GQ hb;obtain⟨n0,n1,n2,n3⟩:=fI hz;have f0:=ay hz 0;have f1:=ay hz 1;have f2:=ay hz 2;have f3:=ay hz 3)|(have hz:=au hb ab hz;obtain⟨n0,n1,n2,n3⟩:=fI hz;have f0:=ay hz 0;have f1:=ay hz 1;have f2:=ay hz 2;have f3:=ay hz 3)|skip))
    |(go_at_call_of 47 (Value.slice A.ba V.bo.length A.bc);refine(C3.out _ (And.right (And.right (And.right (And.right (by assumption)))))).mono ?_;rintro e w3 ⟨a3,c3,rfl,HO3,hb⟩;have hrr:w3.heap[w.heap.size+1]?=some l8:=(by first|with_reducible exact au (oG hb) ab hrr|with_reducible exact au hb ab hrr|exact au (vV hb) ab hrr|exact au (vh hb) ab hrr);have hsz3:w.heap.size+1<w3.heap.size:=(aA.1 hrr).1;have HK3:=ad (show ∀Z,Below w3.heap.size w3 Z->(Z.cell? ⟨w.heap.size,0,none⟩=some (.int .i64 V.ep)/\Z.cell? ⟨w.heap.size,1,none⟩=some (.slice A.ca V.ch.length A.cc)/\Z.cell? ⟨w.heap.size,2,none⟩=some (.slice A.sa V.si.length A.sc)/\Z.cell? ⟨w.heap.size,3,none⟩=some (.slice A.ba V.bo.length A.bc)/\Below w.heap.size w Z)from fun Z hz=>mi (mi (by assumption) hb) hz);have HO1:=ad (by first|exact HO1.out.next hb|exact HO1.out.next (oG hb));have HO2:=ad (by first|exact HO2.out.next hb|exact HO2.out.next (oG hb));(first|(have hz:=CV hb;obtain⟨n0,n1,n2,n3⟩:=fI hz;have f0:=ay hz 0;have f1:=ay hz 1;have f2:=ay hz 2;have f3:=ay hz 3)|(have hz:=GQ hb;obtain⟨n0,n1,n2,n3⟩:=fI hz;have f0:=ay hz 0;have f1:=ay hz 1;have f2:=ay hz 2;have f3:=ay hz 3)|(have hz:=au hb ab hz;obtain⟨n0,n1,n2,n3⟩:=fI hz;have f0:=ay hz 0;have f1:=ay hz 1;have f2:=ay hz 2;have f3:=ay hz 3)|skip)))
  all_goals go_wp2
  all_goals go_meet
  all_goals first
   |exact LW ((HK3.out _ (ae _ w3)).2.2.2.2) HO1.out HO2.out HO3.out hrr
   |exact LV (k:=_) ((HK3.out _ (ae _ w3)).2.2.2.2) HO1.out HO2.out HO3.out hrr hz (by have:=HWS.out;omega)
 case rest =>
  obtain⟨g,A',rfl,HG,HO,HB,HRZ⟩:=hcut;obtain⟨g0,g1,g2,g3⟩:=ni HG.out;cases b with
  |true =>
   have HR:=ad (mB V A' wc HO.out.at (by have:=HV.out;rw[if_pos rfl]at this;exact this));clear HV C1 C2 C3 HK0 k0 k1 k2 k3;go_wp2_with fail;refine HR.out.mono ?_;rintro e w5 ⟨rfl,b5⟩;have g0:=cell_kept b5 ab g0;have g1:=cell_kept b5 ab g1;have g2:=cell_kept b5 ab g2;have g3:=cell_kept b5 ab g3;have hz5:w5.heap[w.heap.size+1]?=some (.cells #[.int .i64 0,.slice none 0 0,.slice none 0 0,.slice none 0 0] 70 (0,0)):=au b5 ab HRZ.out;obtain⟨n0,n1,n2,n3⟩:=fI hz5;have f0:=ay hz5 0;have f1:=ay hz5 1;have f2:=ay hz5 2;have f3:=ay hz5 3;have HZ5:=ad hz5;have HO5:=ad (HO.out.next b5);have HB5:=ad (Below.up HB.out ab b5);clear hz5 b5 HR HG HO HB HRZ;go_wp2;refine bodyPost_ret (aO rfl _ _ (w.heap.size+1) _ _ _ _ rfl (oJ HZ5.out _ _ _ _) underlying70 rfl qi) rfl ?_;have hg:=dG w5 (w.heap.size+1) (.int .i64 V.ep) (.slice A'.ca V.ch.length A'.cc) (.slice A'.sa V.si.length A'.sc) (.slice A'.ba V.bo.length A'.bc);exact⟨⟨A',rfl,ad ⟨HO5.out.1.grown hg HZ5.out (by decide),HO5.out.2.1.grown hg HZ5.out (by decide),HO5.out.2.2.grown hg HZ5.out (by decide)⟩⟩,HB5.out.grown hg HB5.out.size (fun j hj=>by simp only[Option.some.injEq]at hj;omega)⟩
  |false =>
   have HR:=ad (xI V A' wc (by have:=HV.out;rw[if_neg (by simp)]at this;exact this));clear HV C1 C2 C3 HK0 k0 k1 k2 k3;go_wp2_with fail;refine HR.out.mono ?_;rintro e w5 ⟨rfl,b5⟩;have hz5:w5.heap[w.heap.size+1]?=some (.cells #[.int .i64 0,.slice none 0 0,.slice none 0 0,.slice none 0 0] 70 (0,0)):=au b5 ab HRZ.out;obtain⟨n0,n1,n2,n3⟩:=fI hz5;have f0:=ay hz5 0;have f1:=ay hz5 1;have f2:=ay hz5 2;have f3:=ay hz5 3;have HZ5:=ad hz5;have HB5:=ad (Below.up HB.out ab b5);clear hz5 b5 HR HG HO HB HRZ;go_wp2;refine bodyPost_ret (aO rfl _ _ (w.heap.size+1) _ _ _ _ rfl (oJ HZ5.out _ _ _ _) underlying70 rfl qi) rfl ?_;exact⟨by first|(rw[if_neg (by simp)];done)|(rw[if_neg (by simp)];rfl)|rfl|(simp only;rfl),HB5.out.grown (dG w5 (w.heap.size+1) _ _ _ _) HB5.out.size (fun j hj=>by simp only[Option.some.injEq]at hj;omega)⟩
end Go.Proofs.YtmgmknmaepjnoaaGreatDoor
