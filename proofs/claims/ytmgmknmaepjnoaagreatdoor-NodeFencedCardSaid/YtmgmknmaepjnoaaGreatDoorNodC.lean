/-
  A node: what was told; whether it is in its view, who is ahead and behind, whether it is ready, and serves.
-/
import Derived.Test.YtmgmknmaepjnoaaGreatDoorNodA
namespace Go.Proofs.YtmgmknmaepjnoaaGreatDoor
open Go.RowKit Go.Shelf Proofs.Tryz
section
variable {R:(Nat->Prop)->(Nat->Prop)->World->Prop} {a w w':World} {nb lg sb:Nat} {room:Int} {s:Lg.S} {fs:List Dk.ai} {st:Stat} {J:List (Nat×Obj)} {N:Nd}
theorem tf:AL none 0 [] []:=⟨.inl ⟨rfl,rfl⟩,fun W _ B _=>World.ownsRow_nil W B _ _⟩
set_option maxHeartbeats 4000000 in
theorem GU (h:ah R J a nb lg sb room s fs st N w) (hR:aC a R) :
 Calls prog 38 #[.pointer (some ⟨nb,0,none⟩)] w fun e w'=>∃oa oc Ko,e=.returned (.slice oa N.outs.length oc)/\AL oa oc N.outs Ko/\(∀p∈Ko,∀q∈J,p.1≠q.1)/\ah R (Ko++J) a nb lg sb room s fs st {N with outs:=[]} w':=by
 obtain⟨P,K,Ko,h1,h2,hd,h3⟩:=h;have hh:w.heap[nb]?=some (dJ N P):=h3.bj (nb,dJ N P) (by simp);obtain⟨d0,d1,d2,d3,d4,d5,d6,d7,d8,d9,d10,d11,d12⟩:=cM hh;have f12:=ay hh 12;have hst:(w.setCell ⟨nb,12,none⟩ (.slice none 0 0)).heap[nb]?=some (dJ {N with outs:=[]} {P with oa:=none,oc:=0}):=by
  rw[av (i:=12) hh (.slice none 0 0)];simp[dJ]
 have he:(nb,dJ N P)::(K++Ko)++J=(nb,dJ N P)::K++(Ko++J):=by simp
 rw[he]at h3;have hd2:Sep nb K (Ko++J):=⟨fun p hp=>hd.1.1 p (by simp[hp]),fun p hp=>by
  rcases aK.1 hp with hp|hp
  ·exact⟨hd.1.1 p (by simp[hp]),fun q hq e=>hd.2 q hq p hp e.symm⟩
  ·exact⟨(hd.1.2 p hp).1,fun q hq=>(hd.1.2 p hp).2 q (by simp[hq])⟩⟩
 have hs:=h3.C9 (o':=dJ {N with outs:=[]} {P with oa:=none,oc:=0}) (Kx':=K) hd2 hR (ax.cq (ft:=fun j=>j=nb) (az w nb 12 (.slice none 0 0)) rfl) (fun j hj=>.inl hj) hst (fun p hp=>by
  have hw:=h3.bj p (by simp[hp]);refine⟨.inl ⟨p,hp,rfl⟩,?_⟩;rw[Below.heap_setCell w ⟨nb,12,none⟩ _ p.1 (hd2.1 p hp)];exact hw)
 have HX:=ad (show ah R (Ko++J) a nb lg sb room s fs st {N with outs:=[]} (w.setCell ⟨nb,12,none⟩ (.slice none 0 0))from
  ⟨{P with oa:=none,oc:=0},K,[],h1,tf,⟨by rw[List.append_nil];exact hs.1,fun p hp q hq=>by cases hq⟩,by rw[List.append_nil];exact hs.2⟩)
 have H2:=ad (aB h2 (show ∀p∈Ko,∀q∈J,p.1≠q.1 from fun p hp q hq e=>(hd.1.2 q hq).2 p (by simp[hp]) e.symm));clear h1 h2 hd hd2 h3 hh hst he hs;go_enter func38,ntmps38;go_wp2;go_ret;exact⟨P.oa,P.oc,Ko,rfl,H2.out.1,H2.out.2,HX.out⟩
set_option maxHeartbeats 4000000 in
theorem jl (h:ah R J a nb lg sb room s fs st N w) (hV:eU N.v) :
 Calls prog 51 #[.pointer (some ⟨nb,0,none⟩)] w fun e w'=>e=.returned (.bool (decide (0<=place N.v N.id)))/\Below w.heap.size w w':=by
 obtain⟨P,hh,hv,_⟩:=h.heap;obtain⟨c0,_,_,_,c4,c5,c6,c7,_,_,_,_,_⟩:=cM hh;have HC:=ad (fun Z (hb:Below w.heap.size w Z)=>et N.v P.A N.id Z (hv.next hb) hV);have HB:=ad (ae w.heap.size w);clear h hh hv hV;go_enter func51,ntmps51;go_wp2_with fail
 go_region_held3 (fun Z=>Z.cell? ⟨nb,4,none⟩=some (.int .i64 N.v.ep)/\Z.cell? ⟨nb,5,none⟩=some (.slice P.A.ca N.v.ch.length P.A.cc)/\Z.cell? ⟨nb,6,none⟩=some (.slice P.A.sa N.v.si.length P.A.sc)/\Z.cell? ⟨nb,7,none⟩=some (.slice P.A.ba N.v.bo.length P.A.bc)/\Z.cell? ⟨nb,0,none⟩=some (.int .i64 N.id)/\Below w.heap.size w Z) (first|exact⟨c4,c5,c6,c7,c0,HB.out.drew⟩|exact uI (by assumption) hb)
  (first|(go_at_call 70;refine(HC.out _ (And.right (And.right (And.right (And.right (And.right (by assumption))))))).mono ?_;rintro e w1 ⟨rfl,hb⟩))
 have hq:w1.cell? ⟨nb,4,none⟩=some (.int .i64 N.v.ep)/\w1.cell? ⟨nb,5,none⟩=some (.slice P.A.ca N.v.ch.length P.A.cc)/\w1.cell? ⟨nb,6,none⟩=some (.slice P.A.sa N.v.si.length P.A.sc)/\w1.cell? ⟨nb,7,none⟩=some (.slice P.A.ba N.v.bo.length P.A.bc)/\w1.cell? ⟨nb,0,none⟩=some (.int .i64 N.id)/\Below w.heap.size w w1:=by assumption
 have HQ:=ad hq.2.2.2.2.2;clear hq c0 c4 c5 c6 c7;go_wp2;go_ret;exact⟨rfl,HQ.out⟩
set_option maxHeartbeats 4000000 in
theorem sD (h:ah R J a nb lg sb room s fs st N w) (hV:eU N.v) :
 Calls prog 73 #[.pointer (some ⟨nb,0,none⟩)] w fun e w'=>e=.returned (.int .i64 (ahead N.v N.id))/\Below w.heap.size w w':=by
 obtain⟨P,hh,hv,_⟩:=h.heap;obtain⟨c0,_,_,_,c4,c5,c6,c7,_,_,_,_,_⟩:=cM hh;have HC:=ad (fun Z (hb:Below w.heap.size w Z)=>xJ N.v P.A N.id Z (hv.next hb) hV);have HB:=ad (ae w.heap.size w);clear h hh hv hV;go_enter func73,ntmps73;go_wp2_with fail
 go_region_held3 (fun Z=>Z.cell? ⟨nb,4,none⟩=some (.int .i64 N.v.ep)/\Z.cell? ⟨nb,5,none⟩=some (.slice P.A.ca N.v.ch.length P.A.cc)/\Z.cell? ⟨nb,6,none⟩=some (.slice P.A.sa N.v.si.length P.A.sc)/\Z.cell? ⟨nb,7,none⟩=some (.slice P.A.ba N.v.bo.length P.A.bc)/\Z.cell? ⟨nb,0,none⟩=some (.int .i64 N.id)/\Below w.heap.size w Z) (first|exact⟨c4,c5,c6,c7,c0,HB.out.drew⟩|exact uI (by assumption) hb)
  (first|(go_at_call 118;refine(HC.out _ (And.right (And.right (And.right (And.right (And.right (by assumption))))))).mono ?_;rintro e w1 ⟨rfl,hb⟩))
 have hq:w1.cell? ⟨nb,4,none⟩=some (.int .i64 N.v.ep)/\w1.cell? ⟨nb,5,none⟩=some (.slice P.A.ca N.v.ch.length P.A.cc)/\w1.cell? ⟨nb,6,none⟩=some (.slice P.A.sa N.v.si.length P.A.sc)/\w1.cell? ⟨nb,7,none⟩=some (.slice P.A.ba N.v.bo.length P.A.bc)/\w1.cell? ⟨nb,0,none⟩=some (.int .i64 N.id)/\Below w.heap.size w w1:=by assumption
 have HQ:=ad hq.2.2.2.2.2;clear hq c0 c4 c5 c6 c7;go_wp2;go_ret;exact⟨rfl,HQ.out⟩
set_option maxHeartbeats 4000000 in
theorem mK (h:ah R J a nb lg sb room s fs st N w) (hV:eU N.v) :
 Calls prog 71 #[.pointer (some ⟨nb,0,none⟩)] w fun e w'=>e=.returned (.int .i64 (behind N.v N.id))/\Below w.heap.size w w':=by
 obtain⟨P,hh,hv,_⟩:=h.heap;obtain⟨c0,_,_,_,c4,c5,c6,c7,_,_,_,_,_⟩:=cM hh;have HC:=ad (fun Z (hb:Below w.heap.size w Z)=>vm N.v P.A N.id Z (hv.next hb) hV);have HB:=ad (ae w.heap.size w);clear h hh hv hV;go_enter func71,ntmps71;go_wp2_with fail
 go_region_held3 (fun Z=>Z.cell? ⟨nb,4,none⟩=some (.int .i64 N.v.ep)/\Z.cell? ⟨nb,5,none⟩=some (.slice P.A.ca N.v.ch.length P.A.cc)/\Z.cell? ⟨nb,6,none⟩=some (.slice P.A.sa N.v.si.length P.A.sc)/\Z.cell? ⟨nb,7,none⟩=some (.slice P.A.ba N.v.bo.length P.A.bc)/\Z.cell? ⟨nb,0,none⟩=some (.int .i64 N.id)/\Below w.heap.size w Z) (first|exact⟨c4,c5,c6,c7,c0,HB.out.drew⟩|exact uI (by assumption) hb)
  (first|(go_at_call 114;refine(HC.out _ (And.right (And.right (And.right (And.right (And.right (by assumption))))))).mono ?_;rintro e w1 ⟨rfl,hb⟩))
 have hq:w1.cell? ⟨nb,4,none⟩=some (.int .i64 N.v.ep)/\w1.cell? ⟨nb,5,none⟩=some (.slice P.A.ca N.v.ch.length P.A.cc)/\w1.cell? ⟨nb,6,none⟩=some (.slice P.A.sa N.v.si.length P.A.sc)/\w1.cell? ⟨nb,7,none⟩=some (.slice P.A.ba N.v.bo.length P.A.bc)/\w1.cell? ⟨nb,0,none⟩=some (.int .i64 N.id)/\Below w.heap.size w w1:=by assumption
 have HQ:=ad hq.2.2.2.2.2;clear hq c0 c4 c5 c6 c7;go_wp2;go_ret;exact⟨rfl,HQ.out⟩
def d' (N:Nd):Bool:=decide (0<=place N.v N.id)&&(behind N.v N.id==0)
set_option maxHeartbeats 4000000 in
theorem pd (h:ah R J a nb lg sb room s fs st N w) (hR:aC a R) (hV:eU N.v) :
 Calls prog 62 #[.pointer (some ⟨nb,0,none⟩)] w fun e w'=>e=.returned (.bool (d' N))/\Below w.heap.size w w':=by
 have H1:=ad (jl h hV);have H2:=ad (fun Z (hb:Below w.heap.size w Z)=>mK (h.next hR hb) hV);clear h hV;by_cases hp:0<=place N.v N.id
 ·have HS:=ad (show d' N=(behind N.v N.id==0)by unfold d';rw[decide_eq_true hp];rfl);have H1:=ad (show Calls prog 51 #[.pointer (some ⟨nb,0,none⟩)] w (fun e w'=>e=.returned (.bool true)/\Below w.heap.size w w')by have:=H1.out;rw[decide_eq_true hp]at this;exact this);clear hp;go_enter func62,ntmps62;go_wp2_with fail;refine H1.out.mono ?_;rintro e w1 ⟨rfl,b1⟩;have HB1:=ad b1;clear b1 H1;go_wp2_with fail;refine(H2.out w1 HB1.out).mono ?_;rintro e w2 ⟨rfl,b2⟩;have HB2:=ad (Below.up HB1.out ab b2);clear b2 H2 HB1;go_wp2;go_ret;exact⟨by rw[HS.out];rfl,HB2.out⟩
 ·have HS:=ad (show d' N=false by unfold d';rw[decide_eq_false hp];rfl);have H1:=ad (show Calls prog 51 #[.pointer (some ⟨nb,0,none⟩)] w (fun e w'=>e=.returned (.bool false)/\Below w.heap.size w w')by have:=H1.out;rw[decide_eq_false hp]at this;exact this);clear hp H2;go_enter func62,ntmps62;go_wp2_with fail;refine H1.out.mono ?_;rintro e w1 ⟨rfl,b1⟩;have HB1:=ad b1;clear b1 H1;go_wp2;go_ret;exact⟨by rw[HS.out];rfl,HB1.out⟩
def gq (N:Nd) (fs:List Dk.ai):Prop:=eU N.v/\0<=place N.v N.id/\since N.v N.id=1/\Dk.read Lg.eR fs=(eG,0)
theorem KE {w0 wa wb:World} {a1 a2 a3 a4 a5 a6:Addr} {u1 u2 u3 u4 u5 u6:Value} (h:wa.cell? a1=some u1/\wa.cell? a2=some u2/\wa.cell? a3=some u3/\wa.cell? a4=some u4/\wa.cell? a5=some u5/\wa.cell? a6=some u6/\Below w0.heap.size w0 wa) (hb:Below wa.heap.size wa wb) :
 wb.cell? a1=some u1/\wb.cell? a2=some u2/\wb.cell? a3=some u3/\wb.cell? a4=some u4/\wb.cell? a5=some u5/\wb.cell? a6=some u6/\Below w0.heap.size w0 wb :=
 ⟨cell_kept hb ab h.1,cell_kept hb ab h.2.1,cell_kept hb ab h.2.2.1,cell_kept hb ab h.2.2.2.1,cell_kept hb ab h.2.2.2.2.1,cell_kept hb ab h.2.2.2.2.2.1,Below.up h.2.2.2.2.2.2 ab hb⟩
set_option maxHeartbeats 8000000 in
set_option maxRecDepth 100000 in
theorem gC (h:ah R J a nb lg sb room s fs st N w) (hR:aC a R) (hV:gq N fs) :
 Calls prog 32 #[.pointer (some ⟨nb,0,none⟩)] w fun e w'=>e=.returned (.bool true)/\Below w.heap.size w w':=by
 obtain⟨hV,hp,hs1,hrd⟩:=hV;have HI:=ad (show ∀Z,Below w.heap.size w Z->Calls prog 51 #[.pointer (some ⟨nb,0,none⟩)] Z (fun e w'=>e=.returned (.bool true)/\Below Z.heap.size Z w')from fun Z hb=>by
  have:=jl (h.next hR hb) hV;rw[decide_eq_true hp]at this;exact this)
 obtain⟨P,hh,hv,_⟩:=h.heap;obtain⟨c0,_,c2,_,c4,c5,c6,c7,_,_,_,_,_⟩:=cM hh;have HC:=ad (fun Z (hb:Below w.heap.size w Z)=>xH N.v P.A N.id Z (hv.next hb) hV);rw[hs1]at HC;have HRS:=ad (show ∀Z,Below w.heap.size w Z->Calls prog 53 #[.pointer (some ⟨N.d,0,none⟩)] Z (fun e w'=>e=.returned (.int .i64 1)/\Below Z.heap.size Z w')from fun Z hb=>by
  obtain⟨J',hr,_⟩:=(h.next hR hb).rep;obtain⟨TL,TS,X,hr,_⟩:=hr;obtain⟨ft,pv,ev,ps,hL⟩:=hr.log;exact vw N.d room fs ft Z hL.im hrd)
 have HB:=ad (ae w.heap.size w);clear h hh hv hV hp hs1 hrd;go_enter func32,ntmps32;go_wp2_with fail
 go_region_held3 (fun Z=>Z.cell? ⟨nb,2,none⟩=some (.pointer (some ⟨N.d,0,none⟩))/\Z.cell? ⟨nb,4,none⟩=some (.int .i64 N.v.ep)/\Z.cell? ⟨nb,5,none⟩=some (.slice P.A.ca N.v.ch.length P.A.cc)/\Z.cell? ⟨nb,6,none⟩=some (.slice P.A.sa N.v.si.length P.A.sc)/\Z.cell? ⟨nb,7,none⟩=some (.slice P.A.ba N.v.bo.length P.A.bc)/\Z.cell? ⟨nb,0,none⟩=some (.int .i64 N.id)/\Below w.heap.size w Z) (first|exact⟨c2,c4,c5,c6,c7,c0,HB.out.drew⟩|exact KE (by assumption) hb)
  (first
   |(go_at_call 51;refine(HI.out _ (And.right (And.right (And.right (And.right (And.right (And.right (by assumption)))))))).mono ?_;rintro e w1 ⟨rfl,hb⟩)
   |(go_at_call 52;refine(HC.out _ (And.right (And.right (And.right (And.right (And.right (And.right (by assumption)))))))).mono ?_;rintro e w1 ⟨rfl,hb⟩)
   |(go_at_call 53;refine(HRS.out _ (And.right (And.right (And.right (And.right (And.right (And.right (by assumption)))))))).mono ?_;rintro e w1 ⟨rfl,hb⟩))
 have hq:w1.cell? ⟨nb,2,none⟩=some (.pointer (some ⟨N.d,0,none⟩))/\w1.cell? ⟨nb,4,none⟩=some (.int .i64 N.v.ep)/\w1.cell? ⟨nb,5,none⟩=some (.slice P.A.ca N.v.ch.length P.A.cc)/\w1.cell? ⟨nb,6,none⟩=some (.slice P.A.sa N.v.si.length P.A.sc)/\w1.cell? ⟨nb,7,none⟩=some (.slice P.A.ba N.v.bo.length P.A.bc)/\w1.cell? ⟨nb,0,none⟩=some (.int .i64 N.id)/\Below w.heap.size w w1:=by assumption
 have HQ:=ad hq.2.2.2.2.2.2;clear hq c0 c2 c4 c5 c6 c7;go_wp2;go_ret;exact⟨rfl,HQ.out⟩
set_option maxHeartbeats 4000000 in
theorem qS (now:Int) (h:ah R J a nb lg sb room s fs st N w) (hR:aC a R) (hV:gq N fs) :
 Calls prog 65 #[.pointer (some ⟨nb,0,none⟩),.int .i64 now] w fun e w'=>e=.returned (.bool (decide (now<N.ez)))/\Below w.heap.size w w':=by
 have H1:=ad (gC h hR hV);obtain⟨P,hh,hv,_⟩:=h.heap;have c8:=(cM hh).2.2.2.2.2.2.2.2.1;clear h hh hv hV;go_enter func65,ntmps65;go_wp2_with fail;refine H1.out.mono ?_;rintro e w1 ⟨rfl,b1⟩;have m8:=cell_kept b1 ab c8;have HB1:=ad b1;clear b1 H1 c8;go_wp2;go_ret;exact⟨rfl,HB1.out⟩
theorem kL (h:ah R J a nb lg sb room s fs st N w):Calls prog 41 #[.pointer (some ⟨N.r,0,none⟩)] w fun e w'=>e=.returned (.int .i64 (s.es.length:Int))/\w=w':=by
 obtain⟨J',h1,h2⟩:=h.rep;exact ly h1
theorem mJ (h:ah R J a nb lg sb room s fs st N w):Calls prog 42 #[.pointer (some ⟨N.r,0,none⟩)] w fun e w'=>e=.returned (.int .i64 st.app)/\w=w':=by
 obtain⟨J',h1,h2⟩:=h.rep;exact gW h1
set_option maxHeartbeats 4000000 in
theorem yd (k:Nat) (h:ah R J a nb lg sb room s fs st N w) (hR:aC a R) (hn:s.es.length<=1000000) (hk:k<=s.es.length) :
 Calls prog 110 #[.pointer (some ⟨nb,0,none⟩),.int .i64 (k:Int)] w fun e w'=>e=.returned (.int .i64 (cR s.es (k:Int)).1)/\Below w.heap.size w w':=by
 obtain⟨J',h1,_⟩:=h.rep;have HC:=ad (He h1 hR hn k hk);obtain⟨P,hh,_,_⟩:=h.heap;have c3:=(cM hh).2.2.2.1;clear h h1 hh;go_enter func110,ntmps110;go_wp2_with fail;refine HC.out.mono ?_;rintro e w1 ⟨p,S,ex,se,sq,va,vl,vc,B,rfl,hb⟩;have HB:=ad hb;clear hb HC c3;go_wp2;go_ret;exact⟨rfl,an HB.out _⟩
theorem Gh {wa wb:World} {a1 a2 a3:Addr} {u1 u2 u3:Value} (h:wa.cell? a1=some u1/\wa.cell? a2=some u2/\wa.cell? a3=some u3) (hb:Below wa.heap.size wa wb):wb.cell? a1=some u1/\wb.cell? a2=some u2/\wb.cell? a3=some u3 :=
 ⟨cell_kept hb ab h.1,cell_kept hb ab h.2.1,cell_kept hb ab h.2.2⟩
theorem ah.c3 (h:ah R J a nb lg sb room s fs st N w):w.cell? ⟨nb,4,none⟩=some (.int .i64 N.v.ep)/\w.cell? ⟨nb,0,none⟩=some (.int .i64 N.id)/\w.cell? ⟨nb,3,none⟩=some (.pointer (some ⟨N.r,0,none⟩)):=by
 obtain⟨P,hh,_,_⟩:=h.heap;obtain⟨c0,_,_,c3,c4,_⟩:=cM hh;exact⟨c4,c0,c3⟩
def KO (N:Nd) (c:Int):Value:=.iface 79 (.agg #[.int .i64 N.v.ep,.int .i64 N.id,.int .i64 c])
def i' (N:Nd) (c:Int):List (Int×Value):=if ahead N.v N.id=0 then [] else [(ahead N.v N.id,KO N c)]
set_option maxHeartbeats 8000000 in
set_option maxRecDepth 100000 in
theorem rH (h:ah R J a nb lg sb room s fs st N w) (hR:aC a R) (hV:eU N.v) (hn:N.outs.length<=1000) :
 Calls prog 64 #[.pointer (some ⟨nb,0,none⟩)] w fun e w'=>e=.returned (.tuple #[])/\ah R J a nb lg sb room s fs st {N with outs:=N.outs++i' N st.app} w':=by
 have HA:=ad (fun Z (hb:Below w.heap.size w Z)=>sD (h.next hR hb) hV);have H:=ad h;by_cases h0:ahead N.v N.id=0
 ·have HO:=ad (show i' N st.app=[]by unfold i';rw[if_pos h0]);rw[h0]at HA;clear h h0;go_enter func64,ntmps64;go_wp2_with fail;refine(HA.out w (ae _ _)).mono ?_;rintro e w1 ⟨rfl,b1⟩;have HX:=ad (H.out.next hR b1);clear b1 HA H;go_wp2;go_end0;exact⟨rfl,by rw[HO.out,List.append_nil];exact HX.out⟩
 ·have HO:=ad (show i' N st.app=[(ahead N.v N.id,KO N st.app)]by unfold i';rw[if_neg h0]);have hbx:((ahead N.v N.id:Int) != 0)=true:=by rw[bne_iff_ne];exact h0
  obtain⟨x,hx⟩:∃x,ahead N.v N.id=x:=⟨_,rfl⟩;rw[hx]at HA HO hbx;have HCM:=ad (fun Z (hb:Below w.heap.size w Z)=>(mJ (h.next hR hb)).mono (R':=fun e w'=>e=.returned (.int .i64 st.app)/\Below Z.heap.size Z w') (by rintro e w' ⟨rfl,rfl⟩;exact⟨rfl,ae _ _⟩));have HSY:=ad (fun Z (hb:Below w.heap.size w Z)=>mx x 79 (.agg #[.int .i64 N.v.ep,.int .i64 N.id,.int .i64 st.app]) (h.next hR hb) hR hn);have HC3:=ad (fun Z (hb:Below w.heap.size w Z)=>(h.next hR hb).c3);clear h h0 hx H;go_enter func64,ntmps64;go_wp2_with fail;refine(HA.out w (ae _ _)).mono ?_;rintro e w1 ⟨rfl,b1⟩;have HBc:=ad b1.drew;obtain⟨c4,c0,c3⟩:=HC3.out w1 b1;clear b1 HC3;go_wp2_with fail
  go_region_held3 (fun Z=>Z.cell? ⟨nb,4,none⟩=some (.int .i64 N.v.ep)/\Z.cell? ⟨nb,0,none⟩=some (.int .i64 N.id)/\Z.cell? ⟨nb,3,none⟩=some (.pointer (some ⟨N.r,0,none⟩)))
   (first|exact⟨c4,c0,c3⟩|exact Gh (by assumption) hb|exact HKX.out)
   (first
    |(go_at_call 73;refine(HA.out _ HBc.out).mono ?_;rintro e w2 ⟨rfl,hb⟩;have HBc:=ad (Below.up HBc.out ab hb))
    |(go_at_call 42;refine(HCM.out _ HBc.out).mono ?_;rintro e w3 ⟨rfl,hb⟩;have HBc:=ad (Below.up HBc.out ab hb))
    |(go_at_call 57;refine(HSY.out _ HBc.out).mono ?_;rintro e w4 ⟨rfl,hx⟩;have HX:=ad hx;have HKX:=ad hx.c3))
  go_wp2;go_end0;exact⟨rfl,by rw[HO.out];exact HX.out⟩
def I0 (N:Nd) (k:Nat) (pe len app:Int) (va:Option Addr) (n vc:Nat):Value:=.iface 77 (.agg #[.int .i64 N.v.ep,.int .i64 N.id,.int .i64 (k:Int),.int .i64 pe,.int .i64 (len+1),.int .i64 app,.slice va n vc])
def eW (N:Nd) (k:Nat) (pe len app:Int) (va:Option Addr) (n vc:Nat):List (Int×Value):=if behind N.v N.id=0 then [] else [(behind N.v N.id,I0 N k pe len app va n vc)]
set_option maxHeartbeats 8000000 in
set_option maxRecDepth 100000 in
theorem Au (k:Nat) (va:Option Addr) (n vc:Nat) (h:ah R J a nb lg sb room s fs st N w) (hR:aC a R) (hV:gq N fs) (hn:N.outs.length<=1000) (hk:k<=s.es.length) (hl:s.es.length<=1000000) :
 Calls prog 61 #[.pointer (some ⟨nb,0,none⟩),.int .i64 (k:Int),.slice va n vc] w fun e w'=>e=.returned (.tuple #[])/\ah R J a nb lg sb room s fs st {N with outs:=N.outs++eW N k (cR s.es (k:Int)).1 s.es.length st.app va n vc} w':=by
 have HA:=ad (fun Z (hb:Below w.heap.size w Z)=>mK (h.next hR hb) hV.1);have H:=ad h;by_cases h0:behind N.v N.id=0
 ·have HO:=ad (show eW N k (cR s.es (k:Int)).1 s.es.length st.app va n vc=[]by unfold eW;rw[if_pos h0]);rw[h0]at HA;clear h h0;go_enter func61,ntmps61;go_wp2_with fail;refine(HA.out w (ae _ _)).mono ?_;rintro e w1 ⟨rfl,b1⟩;have HX:=ad (H.out.next hR b1);clear b1 HA H;go_wp2;refine bodyPost_ret (results_none rfl _ _ _) rfl ?_;exact⟨rfl,by rw[HO.out,List.append_nil];exact HX.out⟩
 ·obtain⟨x,hx⟩:∃x,behind N.v N.id=x:=⟨_,rfl⟩;obtain⟨pe,hpe⟩:∃pe,(cR s.es (k:Int)).1=pe:=⟨_,rfl⟩;obtain⟨m,hm⟩:∃m,s.es.length=m:=⟨_,rfl⟩;have HO:=ad (show eW N k pe (m:Int) st.app va n vc=[(x,I0 N k pe (m:Int) st.app va n vc)]by unfold eW;rw[if_neg h0,hx]);have hbx:((x:Int)==0)=false:=by rw[beq_eq_false_iff_ne,<-hx];exact h0
  rw[hx]at HA;have HRD:=ad (fun Z (hb:Below w.heap.size w Z)=>gC (h.next hR hb) hR hV);have HCM:=ad (fun Z (hb:Below w.heap.size w Z)=>(mJ (h.next hR hb)).mono (R':=fun e w'=>e=.returned (.int .i64 st.app)/\Below Z.heap.size Z w') (by rintro e w' ⟨rfl,rfl⟩;exact⟨rfl,ae _ _⟩));have HLA:=ad (fun Z (hb:Below w.heap.size w Z)=>(kL (h.next hR hb)).mono (R':=fun e w'=>e=.returned (.int .i64 (m:Int))/\Below Z.heap.size Z w') (by rintro e w' ⟨rfl,rfl⟩;exact⟨by rw[hm],ae _ _⟩));have HEP:=ad (fun Z (hb:Below w.heap.size w Z)=>by have:=yd k (h.next hR hb) hR hl hk;rw[hpe]at this;exact this);have HSY:=ad (fun Z (hb:Below w.heap.size w Z)=>mx x 77 (.agg #[.int .i64 N.v.ep,.int .i64 N.id,.int .i64 (k:Int),.int .i64 pe,.int .i64 ((m:Int)+1),.int .i64 st.app,.slice va n vc]) (h.next hR hb) hR hn);have HC3:=ad (fun Z (hb:Below w.heap.size w Z)=>(h.next hR hb).c3);rw[hpe,hm];have hml:m<=1000000:=by omega
  have hw1:IntKind.i64.wrap ((m:Int)+1)=(m:Int)+1:=by rw[IntKind.wrap_i64];omega
  clear h h0 hx H hpe hm hk hl;go_enter func61,ntmps61;go_wp2_with fail;refine(HA.out w (ae _ _)).mono ?_;rintro e w1 ⟨rfl,b1⟩;have HB1:=ad b1;clear b1;go_wp2_with fail;refine(HRD.out w1 HB1.out).mono ?_;rintro e w2 ⟨rfl,b2⟩;have hb12:=Below.up HB1.out ab b2;have HBc:=ad hb12.drew;obtain⟨c4,c0,c3⟩:=HC3.out w2 hb12;clear b2 HC3 HRD hb12 HB1;go_wp2_with fail
  go_region_held3 (fun Z=>Z.cell? ⟨nb,4,none⟩=some (.int .i64 N.v.ep)/\Z.cell? ⟨nb,0,none⟩=some (.int .i64 N.id)/\Z.cell? ⟨nb,3,none⟩=some (.pointer (some ⟨N.r,0,none⟩)))
   (first|exact⟨c4,c0,c3⟩|exact Gh (by assumption) hb|exact HKX.out)
   (first
    |(go_at_call 71;refine(HA.out _ HBc.out).mono ?_;rintro e w2 ⟨rfl,hb⟩;have HBc:=ad (Below.up HBc.out ab hb))
    |(go_at_call 110;refine(HEP.out _ HBc.out).mono ?_;rintro e w2 ⟨rfl,hb⟩;have HBc:=ad (Below.up HBc.out ab hb))
    |(go_at_call 41;refine(HLA.out _ HBc.out).mono ?_;rintro e w2 ⟨rfl,hb⟩;have HBc:=ad (Below.up HBc.out ab hb))
    |(go_at_call 42;refine(HCM.out _ HBc.out).mono ?_;rintro e w3 ⟨rfl,hb⟩;have HBc:=ad (Below.up HBc.out ab hb))
    |(go_at_call 57;refine(HSY.out _ HBc.out).mono ?_;rintro e w4 ⟨rfl,hx⟩;have HX:=ad hx;have HKX:=ad hx.c3))
  go_wp2;go_end0;exact⟨rfl,by rw[HO.out];exact HX.out⟩
end
end Go.Proofs.YtmgmknmaepjnoaaGreatDoor
