/-
  A node: a client's read.
-/
import Derived.Test.YtmgmknmaepjnoaaGreatDoorNodI
namespace Go.Proofs.YtmgmknmaepjnoaaGreatDoor
open Go.RowKit Go.Shelf Go.Sort Proofs.Tryz
section
variable {R:(Nat->Prop)->(Nat->Prop)->World->Prop} {a w w':World} {nb lg sb:Nat} {room:Int} {s s':Lg.S} {fs fs':List Dk.ai} {st:Stat} {J:List (Nat×Obj)} {N:Nd}
def uU (s:Lg.S) (st:Stat) (S:ByteArray):Bool:=(dT (st.app+1) s.es.length s.es).any fun e=>(e.b.stream==S.data.toList)
theorem BB (S:ByteArray) (h:ah R J a nb lg sb room s fs st N w) (hR:aC a R) (hn:s.es.length<=300000) (happ:st.app<=1000000000000) :
 Calls prog 66 #[.pointer (some ⟨N.r,0,none⟩),.string S] w fun e w'=>e=.returned (.bool (uU s st S))/\Below w.heap.size w w':=by
 obtain⟨J',h1,_⟩:=h.rep;exact zh S h1 hR hn happ
set_option maxHeartbeats 16000000 in
set_option maxRecDepth 100000 in
theorem Jf (cl id z now:Int) (S:ByteArray) (h:ah R J a nb lg sb room s fs st N w) (hR:aC a R) (hV:gq N fs) (hn:N.outs.length<=1000) (hl:N.ez<=now) :
 Calls prog 36 #[.pointer (some ⟨nb,0,none⟩),.int .i64 cl,.agg #[.int .i64 id,.string S,.int .i64 z],.int .i64 now] w fun e w'=>e=.returned (.tuple #[])/\ah R J a nb lg sb room s fs st {N with outs:=N.outs++[(cl,gV id 9 0 none 0 0)]} w':=by
 obtain⟨W,hW⟩:∃W,w.alloc (.cells #[.int .i64 id,.string S,.int .i64 z] 49)=W:=⟨_,rfl⟩;have bW:Below w.heap.size w W:=by rw[<-hW];exact an (ae _ w) _
 have k0:W.cell? ⟨w.heap.size,0,none⟩=some (.int .i64 id):=by rw[<-hW,aw (heap_alloc_new w _)];rfl
 have HSV:=qS now (h.next hR bW) hR hV;rw[decide_eq_false (by omega)]at HSV;have HSV:=ad HSV;have HSY:=ad (fun Z (hb:Below w.heap.size w Z)=>mx cl 51 (.agg #[.int .i64 id,.int .i64 9,.int .i64 0,.slice none 0 0]) (h.next hR hb) hR hn);have HW:=ad hW;have HB:=ad bW;have HK:=ad k0;clear h hW bW hV hl hn k0;go_enter func36,ntmps36;go_upto_region 1 with fail;rw[HW.out];go_wp2_with fail;refine HSV.out.mono ?_;rintro e w1 ⟨rfl,b1⟩;have k0:=cell_kept b1 ab HK.out;have HB1:=ad (Below.up HB.out ab b1);clear b1 HSV HK;go_wp2_with fail;refine(HSY.out w1 HB1.out).mono ?_;rintro e w2 ⟨rfl,hx⟩;have HX:=ad hx;clear hx HSY;go_wp2;go_end0;exact⟨rfl,HX.out⟩
set_option maxHeartbeats 16000000 in
set_option maxRecDepth 100000 in
theorem Hf (cl id z now:Int) (S:ByteArray) (h:ah R J a nb lg sb room s fs st N w) (hR:aC a R) (hV:gq N fs) (hn:N.outs.length<=1000) (hs:S.size<=maxLen) (hn4:st.n<=400) (hm4:st.m<=400) (hel:s.es.length<=300000) (happ:st.app<=1000000000000) (hl:now<N.ez) (hd:d' N=true\/uU s st S=false) :
 Calls prog 36 #[.pointer (some ⟨nb,0,none⟩),.int .i64 cl,.agg #[.int .i64 id,.string S,.int .i64 z],.int .i64 now] w fun e w'=>∃va vc,∃K:List (Nat×Obj),e=.returned (.tuple #[]) /\
  Hid (AM J va vc (eM (st.f S.data.toList) z) K) /\
  Hid (ah R (J++K) a nb lg sb room s fs st {N with outs:=N.outs++[(cl,gV id 0 ((st.f S.data.toList).length:Nat) va (eM (st.f S.data.toList) z).length vc)]} w'):=by
 obtain⟨W,hW⟩:∃W,w.alloc (.cells #[.int .i64 id,.string S,.int .i64 z] 49)=W:=⟨_,rfl⟩;have bW:Below w.heap.size w W:=by rw[<-hW];exact an (ae _ w) _
 have k0:W.cell? ⟨w.heap.size,0,none⟩=some (.int .i64 id):=by rw[<-hW,aw (heap_alloc_new w _)];rfl
 have k1:W.cell? ⟨w.heap.size,1,none⟩=some (.string S):=by rw[<-hW,aw (heap_alloc_new w _)];rfl
 have k2:W.cell? ⟨w.heap.size,2,none⟩=some (.int .i64 z):=by rw[<-hW,aw (heap_alloc_new w _)];rfl
 have HSV:=qS now (h.next hR bW) hR hV;rw[decide_eq_true hl]at HSV;have HSV:=ad HSV;have HAN:=ad (fun Z (hb:Below w.heap.size w Z)=>EI cl id z S (h.next hR hb) hR hs hn hn4 hm4);have HTA:=ad (fun Z (hb:Below w.heap.size w Z)=>pd (h.next hR hb) hR hV.1);have HDI:=ad (fun Z (hb:Below w.heap.size w Z)=>BB S (h.next hR hb) hR hel happ);have HC3:=ad (fun Z (hb:Below w.heap.size w Z)=>(h.next hR hb).c3.2.2);obtain⟨L,hL⟩:∃L,eM (st.f S.data.toList) z=L:=⟨_,rfl⟩;obtain⟨ver,hver⟩:∃ver:Nat,(st.f S.data.toList).length=ver:=⟨_,rfl⟩;rw[hL]at HAN ⊢;rw[hver]at HAN ⊢;have HW:=ad hW;have HB:=ad bW;obtain⟨bx,hbx⟩:∃bx,w.heap.size=bx:=⟨_,rfl⟩;rw[hbx]at k0 k1 k2;have HBX:=ad hbx;have HK:=ad (aB k0 (aB k1 k2));clear h hW bW hV hl hn k0 k1 k2 hL hver hbx;go_enter func36,ntmps36;go_upto_region 1 with fail;rw[HW.out,HBX.out];go_wp2_with fail;refine HSV.out.mono ?_;rintro e w1 ⟨rfl,b1⟩;have k0:=cell_kept b1 ab HK.out.1;have k1:=cell_kept b1 ab HK.out.2.1;have k2:=cell_kept b1 ab HK.out.2.2;have c3:=HC3.out _ (Below.up HB.out ab b1);have HB1:=ad (Below.up HB.out ab b1);have HTA1:∀d os,Calls prog 62 #[.pointer (some ⟨nb,0,none⟩)] (grow (redrawn w1 d) os) (fun e w'=>e=.returned (.bool (d' N))/\∃p:Regrown,w'=grow (redrawn w1 p.d) p.os):=fun d os=>Calls.regrown_of (HTA.out _ (Below.up HB1.out ab (below_regrown w1 d os)));have HDI1:∀d os,Calls prog 66 #[.pointer (some ⟨N.r,0,none⟩),.string S] (grow (redrawn w1 d) os) (fun e w'=>e=.returned (.bool (uU s st S))/\∃p:Regrown,w'=grow (redrawn w1 p.d) p.os):=fun d os=>Calls.regrown_of (HDI.out _ (Below.up HB1.out ab (below_regrown w1 d os)));have r1:=cell_regrown k1;have r3:=cell_regrown c3;clear b1 HSV HK HC3 HTA HDI;cases htl:d' N with
 |true =>
  rw[htl]at HTA1;clear hd;go_wp2_with fail;refine wp_region_quiet_below (by kernel_rfl) (by kernel_rfl) ?_
  repeat (quiet_step (first|exact HTA1 _ _|exact HDI1 _ _))
  refine wpQuiet_nil ?_;intro _ hw';obtain⟨⟨dq,osq⟩,hw''⟩:=hw';subst hw'';have m0:=cell_regrown k0 dq osq;have m1:=r1 dq osq;have m2:=cell_regrown k2 dq osq;have HA2:=ad (HAN.out _ (Below.up HB1.out ab (below_regrown w1 dq osq)));obtain⟨w2,hw2⟩:∃w2,grow (redrawn w1 dq) osq=w2:=⟨_,rfl⟩;rw[hw2]at m0 m1 m2 HA2 ⊢;clear hw2 HTA1 HDI1 r1 r3 HAN k0 k1 k2 c3;go_wp2_with fail;refine HA2.out.mono ?_;rintro e w3 ⟨va,vc,K,rfl,q1,q2⟩;clear HA2;go_wp2;go_end0;exact⟨va,vc,K,rfl,q1,q2⟩
 |false =>
  rw[htl]at HTA1 hd;obtain hd:=hd.resolve_left (by simp);rw[hd]at HDI1;clear hd;go_wp2_with fail;refine wp_region_quiet_below (by kernel_rfl) (by kernel_rfl) ?_
  repeat (quiet_step (first|exact HTA1 _ _|exact HDI1 _ _))
  refine wpQuiet_nil ?_;intro _ hw';obtain⟨⟨dq,osq⟩,hw''⟩:=hw';subst hw'';have m0:=cell_regrown k0 dq osq;have m1:=r1 dq osq;have m2:=cell_regrown k2 dq osq;have HA2:=ad (HAN.out _ (Below.up HB1.out ab (below_regrown w1 dq osq)));obtain⟨w2,hw2⟩:∃w2,grow (redrawn w1 dq) osq=w2:=⟨_,rfl⟩;rw[hw2]at m0 m1 m2 HA2 ⊢;clear hw2 HTA1 HDI1 r1 r3 HAN k0 k1 k2 c3;go_wp2_with fail;refine HA2.out.mono ?_;rintro e w3 ⟨va,vc,K,rfl,q1,q2⟩;clear HA2;go_wp2;go_end0;exact⟨va,vc,K,rfl,q1,q2⟩
end
end Go.Proofs.YtmgmknmaepjnoaaGreatDoor
