/-
  A node: what is committed, and told to clients.
-/
import Derived.Test.YtmgmknmaepjnoaaGreatDoorNodC
namespace Go.Proofs.YtmgmknmaepjnoaaGreatDoor
open Go.RowKit Go.Shelf Go.Sort Proofs.Tryz
section
variable {R:(Nat->Prop)->(Nat->Prop)->World->Prop} {a w w':World} {nb lg sb:Nat} {room:Int} {s:Lg.S} {fs:List Dk.ai} {st:Stat} {J:List (Nat×Obj)} {N:Nd}
theorem ah.Kj (h:ah R J a nb lg sb room s fs st N w):∃J':List (Nat×Obj),RR R J' a N.r lg N.d sb room s fs st w/\(∀p∈J',p.1<w.heap.size) /\
 ∀(R':(Nat->Prop)->(Nat->Prop)->World->Prop) (s':Lg.S) (fs':List Dk.ai) (st':Stat) (K':List (Nat×Obj)) (W:World),RR R' (J'++K') a N.r lg N.d sb room s' fs' st' W->(∀p∈K',w.heap.size<=p.1)->ah R' (J++K') a nb lg sb room s' fs' st' N W:=by
 obtain⟨P,K,Ko,h1,h2,hd,h3⟩:=h;have hlt:∀p∈(nb,dJ N P)::(K++Ko)++J,p.1<w.heap.size:=fun p hp=>(aA.1 (h3.bj p hp)).1;refine⟨_,h3,hlt,fun R' s' fs' st' K' W h4 hK=>⟨P,K,Ko,h1,h2,⟨⟨hd.1.1,fun p hp=>?_⟩,hd.2⟩,?_⟩⟩
 ·rcases aK.1 hp with hp|hp
  ·exact hd.1.2 p hp
  ·have h5:=hK p hp;exact⟨fun e=>by have:=hlt (nb,dJ N P) (by simp);simp only at this;omega,fun q hq e=>by have:=hlt q (by simp only[List.mem_append,List.mem_cons]at hq ⊢;exact .inl (.inr hq));omega⟩
 ·rw[<-List.append_assoc];exact h4
theorem ah.drop {J':List (Nat×Obj)} (h:ah R (J++J') a nb lg sb room s fs st N w) (hR:aC a R):ah R J a nb lg sb room s fs st N w:=by
 obtain⟨P,K,Ko,h1,h2,hd,h3⟩:=h;rw[<-List.append_assoc]at h3;exact⟨P,K,Ko,h1,h2,⟨⟨hd.1.1,fun p hp=>hd.1.2 p (aH _ hp)⟩,hd.2⟩,h3.sub hR (fun p hp=>aH _ hp)⟩
theorem ah.bj (h:ah R J a nb lg sb room s fs st N w):∀p∈J,w.heap[p.1]?=some p.2:=by
 obtain⟨P,K,Ko,h1,h2,hd,h3⟩:=h;exact fun p hp=>h3.bj p (by simp[hp])
theorem lX (n:Int) (h:ah R J a nb lg sb room s fs st N w) (hR:aC a R) (hn:s.es.length<=300000) (happ:st.app<=100000) (hnb:sV n) (hap2:∀k,k<=s.es.length->(st.aS ((cj st n s.es).take k)).2.app<=400000) :
 Calls prog 63 #[.pointer (some ⟨N.r,0,none⟩),.int .i64 n] w fun e w'=>∃va vc,∃(dn:List (bu×cI)) (K:List (Nat×Obj)),e=.returned (.slice va dn.length vc)/\Hid (dn.map (fun p=>(p.1.1,p.2))=(st.aS (cj st n s.es)).1)/\Hid (∀p∈dn,∃(sa:Option Addr) (sl sc:Nat),p.1.2=.slice sa sl sc) /\
  Hid (∀W:World,(∀p∈K,W.heap[p.1]?=some p.2)->Cells W (.slice va dn.length vc) 11 dn.length (dQ dn))/\ah R (J++K) a nb lg sb room s fs (st.aS (cj st n s.es)).2 N w':=by
 obtain⟨J',h1,h2,h3⟩:=h.Kj;refine(ud n h1 hR hn h2 happ hnb hap2).mono ?_;rintro e w' ⟨va,vc,dn,K,rfl,q1,q2,q3,q4,q5⟩;have hK:∀p∈K,w.heap.size<=p.1:=fun p hp=>by
  rcases q4 with⟨_,rfl⟩|⟨g,o,hg,rfl⟩
  ·cases hp
  ·rw[aN.1 hp];exact(q3.out.lt g hg).1
 refine⟨va,vc,dn,K,rfl,q1,q2,ad (fun W hW=>?_),h3 R s fs _ K w' q5 hK⟩;have hc:W.ownsRow w.heap.size 149 11 (.slice va dn.length vc) dn.length (dQ dn):=fv q3.out (fun g hg _=>by
  rcases q4 with⟨h0,_⟩|⟨g1,o1,hg1,hK1⟩
  ·rw[h0]at hg;cases hg
  ·rw[hg1]at hg;cases hg;rw[hW (_,o1) (by rw[hK1];simp),q5.bj (_,o1) (by rw[hK1];simp)])
 exact aj hc
def qE (p:Evt.Entry×cI):Int×Value:=(1000+p.1.b.br,.iface 91 (.agg #[.int .i64 p.1.b.seq,.int .i64 0,.int .i64 p.2.code,.int .i64 p.2.pos,.int .i64 p.2.first,.int .i64 p.2.version]))
def eu (N:Nd) (L:List (Evt.Entry×cI)) (app:Int):List (Int×Value):=L.map qE++(if L=[] then [] else i' N app)
theorem Dh (h:ah R J a nb lg sb room s fs st N w) (hR:aC a R) (hV:eU N.v) (ht:d' N=false) :
 Calls prog 35 #[.pointer (some ⟨nb,0,none⟩)] w fun e w'=>e=.returned (.tuple #[])/\Below w.heap.size w w':=by
 have HT:=pd h hR hV;rw[ht]at HT;have HT:=ad HT;clear h hV ht;go_enter func35,ntmps35;go_wp2_with fail;refine HT.out.mono ?_;rintro e w1 ⟨rfl,b1⟩;have HB:=ad b1;clear b1 HT;go_wp2;refine bodyPost_ret (results_none rfl _ _ _) rfl ?_;exact⟨rfl,HB.out⟩
set_option maxHeartbeats 16000000 in
set_option maxRecDepth 100000 in
theorem nJ (h:ah R J a nb lg sb room s fs st N w) (hR:aC a R) (hV:gq N fs) (ht:d' N=true) (hn:N.outs.length<=500) (hl:s.es.length<=100) (happ:st.app<=100000) (hap2:∀k,k<=s.es.length->(st.aS ((cj st s.es.length s.es).take k)).2.app<=400000)
 (hse:∀p∈(st.aS (cj st s.es.length s.es)).1,0<=p.1.b.br/\p.1.b.br<=1000000000000) (hdl:(st.aS (cj st s.es.length s.es)).1.length<=100) :
 Calls prog 35 #[.pointer (some ⟨nb,0,none⟩)] w fun e w'=>e=.returned (.tuple #[])/\ah R J a nb lg sb room s fs (st.aS (cj st s.es.length s.es)).2 {N with outs:=N.outs++eu N (st.aS (cj st s.es.length s.es)).1 (st.aS (cj st s.es.length s.es)).2.app} w':=by
 have HT:=pd h hR hV.1;rw[ht]at HT;have HT:=ad HT;obtain⟨m,hm⟩:∃m,s.es.length=m:=⟨_,rfl⟩;have HRD:=ad (fun Z (hb:Below w.heap.size w Z)=>gC (h.next hR hb) hR hV);have HLA:=ad (fun Z (hb:Below w.heap.size w Z)=>(kL (h.next hR hb)).mono (R':=fun e w'=>e=.returned (.int .i64 (m:Int))/\Below Z.heap.size Z w') (by rintro e w' ⟨rfl,rfl⟩;exact⟨by rw[hm],ae _ _⟩));have HAD:=ad (fun Z (hb:Below w.heap.size w Z)=>by
  have:=lX (s.es.length:Int) (h.next hR hb) hR (by omega) happ (by unfold sV;omega) hap2;rw[hm]at this;exact this)
 have HC3:=ad (fun Z (hb:Below w.heap.size w Z)=>(h.next hR hb).c3.2.2);have hVV:=hV.1;rw[hm]at hse hdl ⊢;obtain⟨⟨L,s2⟩,hL⟩:∃P,st.aS (cj st m s.es)=P:=⟨_,rfl⟩;rw[hL]at HAD hse hdl ⊢;simp only at HAD hse hdl ⊢;have HSE:=ad hse;clear h hV ht hm hap2 hse hl happ hL;go_enter func35,ntmps35;go_wp2_with fail;refine HT.out.mono ?_;rintro e w1 ⟨rfl,b1⟩;have HB1:=ad b1;clear b1 HT;go_wp2_with fail;refine(HRD.out w1 HB1.out).mono ?_;rintro e w2 ⟨rfl,b2⟩;have hb12:=Below.up HB1.out ab b2;have HBc:=ad hb12.drew;have c3:=HC3.out w2 hb12;clear b2 HRD HC3 hb12 HB1;go_upto_region 1 with fail;go_cut [2] (fun lv wx=>∃va vc,∃(dn:List (bu×cI)) (K:List (Nat×Obj)),lv=.slice va dn.length vc/\Hid (dn.map (fun p=>(p.1.1,p.2))=L)/\Hid (∀p∈dn,∃(sa:Option Addr) (sl sc:Nat),p.1.2=.slice sa sl sc)/\Hid (∀W:World,(∀p∈K,W.heap[p.1]?=some p.2)->Cells W (.slice va dn.length vc) 11 dn.length (dQ dn))/\Hid (ah R (J++K) a nb lg sb room s fs s2 N wx))
 case first =>
  go_region_held3 (fun Z=>Z.cell? ⟨nb,3,none⟩=some (.pointer (some ⟨N.r,0,none⟩)))
   (first|exact c3|exact cell_kept hb ab (by assumption)|exact HKX.out)
   (first
    |(go_at_call 41;refine(HLA.out _ HBc.out).mono ?_;rintro e w3 ⟨rfl,hb⟩;have HBc:=ad (Below.up HBc.out ab hb))
    |(go_at_call 63;refine(HAD.out _ HBc.out).mono ?_;rintro e w4 ⟨va,vc,dn,K,rfl,q1,q2,q3,hx⟩;have HX:=ad hx;have HKX:=ad hx.c3.2.2))
  all_goals go_wp2
  all_goals go_meet
  all_goals exact⟨va,vc,dn,K,rfl,q1,q2,q3,HX⟩
 case rest =>
  obtain⟨va,vc,dn,K,rfl,HDN,HSL,HRW,HN⟩:=hcut;have hlen:dn.length=L.length:=by rw[<-HDN.out];simp
  have HLEN:=ad hlen;have hdn:dn.length<=100:=by omega
  clear HBc c3 HLA HAD hlen hdl;go_wp2
  go_loopw [25] (fun iv wr=>∃i:Nat,iv=.int .i64 i/\i<=dn.length/\Hid (ah R (J++K) a nb lg sb room s fs s2 {N with outs:=N.outs++(L.take i).map qE} wr)) (fun iv _=>dn.length-(intOf iv).toNat)
  case atStart=>exact⟨0,rfl,by omega,ad (by simpa using HN.out)⟩
  case round =>
   obtain⟨i,rfl,hi,HNI⟩:=hrel;by_cases hp:i<dn.length
   ·have hcel:=HRW.out wr (fun p hp=>HNI.out.bj p (by simp[hp]));obtain⟨b,o,c,hv,hce⟩:=xy (fun p:bu×cI=>[Value.int .i64 p.1.1.pos,.int .i64 p.1.1.epoch,.string ⟨p.1.1.b.stream.toArray⟩,.int .i64 p.1.1.b.expect,.int .i64 p.1.1.b.br,.int .i64 p.1.1.b.seq,p.1.2,.int .i64 p.2.code,.int .i64 p.2.pos,.int .i64 p.2.first,.int .i64 p.2.version]) 11 (fun _=>rfl) hcel i hp;cases hv;obtain⟨⟨⟨⟨p,ep,⟨S,ex,se,sq,es⟩⟩,sv⟩,⟨oc,op,of,ov⟩⟩,hq⟩:∃q,dn[i]=q:=⟨_,rfl⟩;obtain⟨sa,sl,sc,hsv⟩:=HSL.out dn[i] (List.getElem_mem hp);rw[hq]at hsv hce;simp only at hsv;subst hsv;have q0:=hce 0 _ (by omega) rfl;have q1:=hce 1 _ (by omega) rfl;have q2:=hce 2 _ (by omega) rfl;have q3:=hce 3 _ (by omega) rfl;have q4:=hce 4 _ (by omega) rfl;have q5:=hce 5 _ (by omega) rfl;have q6:=hce 6 _ (by omega) rfl;have q7:=hce 7 _ (by omega) rfl;have q8:=hce 8 _ (by omega) rfl;have q9:=hce 9 _ (by omega) rfl;have q10:=hce 10 _ (by omega) rfl;simp only[Nat.add_zero]at q0;have hLi:L[i]?=some (⟨p,ep,⟨S,ex,se,sq,es⟩⟩,⟨oc,op,of,ov⟩):=by
     rw[<-HDN.out,List.getElem?_map,aR hp,hq];rfl
    obtain⟨s1,s2'⟩:=HSE.out _ (List.mem_of_getElem? hLi);simp only at s1 s2';obtain⟨Sb,hSb⟩:∃Sb:ByteArray,(⟨S.toArray⟩:ByteArray)=Sb:=⟨_,rfl⟩;rw[hSb]at q2;obtain⟨W,hW⟩:∃W,wr.alloc (.cells #[.int .i64 p,.int .i64 ep,.string Sb,.int .i64 ex,.int .i64 se,.int .i64 sq,.slice sa sl sc,.int .i64 oc,.int .i64 op,.int .i64 of,.int .i64 ov] 149)=W:=⟨_,rfl⟩;have bW:Below wr.heap.size wr W:=by rw[<-hW];exact an (ae _ wr) _
    have HSY:=ad (mx (1000+se) 91 (.agg #[.int .i64 sq,.int .i64 0,.int .i64 oc,.int .i64 op,.int .i64 of,.int .i64 ov]) (HNI.out.next hR bW) hR (by
     have:(L.take i).length<=dn.length:=by rw[List.length_take,HLEN.out];omega
     simp only[List.length_append,List.length_map];omega))
    have HT:=ad (show L.take (i+1)=L.take i++[(⟨p,ep,⟨S,ex,se,sq,es⟩⟩,⟨oc,op,of,ov⟩)]by rw[List.take_add_one,hLi];rfl);have HW:=ad hW;have hw1:wrap64 (1000+se)=1000+se:=IntWalk.wrap64_in _ (by omega);clear hcel hce hq hLi hSb hW bW;go_wp2_with fail;rw[HW.out];refine HSY.out.mono ?_;rintro e w5 ⟨rfl,hx⟩;have HX:=ad (show ah R (J++K) a nb lg sb room s fs s2 {N with outs:=N.outs++(L.take (i+1)).map qE} w5 by
     rw[HT.out,List.map_append,<-List.append_assoc];exact hx)
    clear hx HSY HNI q0 q1 q2 q3 q4 q5 q6 q7 q8 q9 q10;go_wp2;exact⟨⟨i+1,by go_num,by omega,HX⟩,by simp[intOf];omega⟩
   ·obtain rfl:i=dn.length:=by omega
    have hall:L.take dn.length=L:=by rw[HLEN.out,List.take_length]
    rw[hall]at HNI;by_cases h0:dn.length=0
    ·have HNO:=ad (show L=[]from aP (by have:=HLEN.out;omega));have h0i:¬(0:Int)<(dn.length:Int):=by omega
     clear hall h0 hi hp;go_wp2;go_end0;exact⟨rfl,by
      have:=HNI.out.drop hR;rw[HNO.out]at this ⊢;simpa[eu]using this⟩
    ·have HNO:=ad (show L≠[]from fun e=>h0 (by have:=HLEN.out;rw[e]at this;simpa using this));have h0i:(0:Int)<(dn.length:Int):=by omega
     have HAA:=ad (rH HNI.out hR hVV (by
      simp only[List.length_append,List.length_map];have:=HLEN.out;omega))
     clear hall h0 hi hp;go_wp2_with fail;refine HAA.out.mono ?_;rintro e w5 ⟨rfl,hx⟩;have HX:=ad (hx.drop hR);clear hx HAA;go_wp2;go_end0;exact⟨rfl,by
      have:=HX.out;unfold eu;rw[if_neg HNO.out,<-List.append_assoc];exact this⟩
end
section
variable {R:(Nat->Prop)->(Nat->Prop)->World->Prop} {a w w':World} {nb lg sb:Nat} {room:Int} {s s':Lg.S} {fs fs':List Dk.ai} {st:Stat} {J:List (Nat×Obj)} {N:Nd}
theorem ah.enter {R':(Nat->Prop)->(Nat->Prop)->World->Prop} {J2:List (Nat×Obj)} (h:ah R J a nb lg sb room s fs st N w) (hR:aC a R) (hb:Below w.heap.size w w') (hJ:∀p∈J2,w.heap.size<=p.1/\w'.heap[p.1]?=some p.2)
 (hRR:∀T X',(∀j,X' j->a.heap.size<=j/\(j<w.heap.size\/JB J2 j))->R T X' w'->R' T X' w'):ah R' (J++J2) a nb lg sb room s fs st N w':=by
 obtain⟨J',h1,h2,h3⟩:=h.Kj;exact h3 R' s fs st J2 w' (h1.enter hR hb hJ hRR) (fun p hp=>(hJ p hp).1)
set_option maxHeartbeats 16000000 in
set_option maxRecDepth 100000 in
theorem FU (k:Nat) (h:ah R J a nb lg sb room s fs st N w) (hR:aC a R) (hk:k<=1000000) (hl:s.es.length<=100) :
 Calls prog 117 #[.pointer (some ⟨nb,0,none⟩),.int .i64 (k:Int)] w fun e w'=>∃va n vc,e=.returned (.slice va n vc)/\Below w.heap.size w w':=by
 obtain⟨J',h1,_⟩:=h.rep;have HRG:=ad (qF ((k:Int)+1) 8 h1 hR (by omega));have c3:=h.c3.2.2;have HEV:=ad h.env;have hw1:wrap64 ((k:Int)+1)=(k:Int)+1:=IntWalk.wrap64_in _ (by omega);clear h h1;go_enter func117,ntmps117;go_wp2_with fail;refine HRG.out.mono ?_;rintro e w1 ⟨va,qs,vc,rfl,hpl,hcap,hrr,b1⟩;have hlen:qs.length<=100:=by
  have h2:(ag qs).length<=s.es.length:=by
   rw[hpl.out,dT,List.length_take,List.length_drop];omega
  have h3:(ag qs).length=qs.length:=by simp[ag]
  omega
 have HEN:=ad hrr.out.ey;have HB1:=ad b1;have HEV1:=ad (HEV.out.next b1);have HCAP:=ad hcap;clear hpl hcap hrr b1 HRG c3 HEV;go_wp2
 go_loopw [6,18] (fun zv iv wr=>∃(i:Nat) (z:Int),iv=.int .i64 i/\zv=.int .i64 z/\i<=qs.length/\0<=z/\z<=10000*i/\Below w1.heap.size w1 wr) (fun _ iv _=>qs.length-(intOf iv).toNat)
 case atStart=>exact⟨0,0,rfl,rfl,by omega,by omega,by omega,ae _ _⟩
 case round =>
  obtain⟨i,z,rfl,rfl,hi,hz0,hz1,hbw⟩:=hrel;by_cases hp:i<qs.length
  ·obtain⟨b,o,c,p,ep,S,ex,se,sq,sa,sl,sc,es,hv,q0,q1,q2,q3,q4,q5,q6,g1,g2,g3,g4,hpe,hp2⟩:=jI (HEN.out.next hbw) i hp;cases hv;obtain⟨W,hW⟩:∃W,wr.alloc (.cells #[.int .i64 p,.int .i64 ep,.string S,.int .i64 ex,.int .i64 se,.int .i64 sq,.slice sa sl sc] 95)=W:=⟨_,rfl⟩;have bW:Below wr.heap.size wr W:=by rw[<-hW];exact an (ae _ wr) _
   have HRP:=ad (oU p ep S ex se sq (.slice sa sl sc) es W ((HEV1.out.next hbw).next bW) g2 (Cells.next g1 bW) g4 g3);have HBW:=ad (Below.up hbw ab bW);have HLE:=ad (Evt.gE ⟨p,ep,⟨S.data.toList,ex,se,sq,es⟩⟩);have HW:=ad hW;have hcp:i<=vc:=by
    have:qs.length<=vc:=HCAP.out;omega
   clear hbw g1 g2 g3 g4 hpe hp2 bW hW;go_wp2_with fail;rw[HW.out];refine HRP.out.mono ?_;rintro e w6 ⟨r,rfl,hr,b6⟩;have hrs:r.size<=3012:=by rw[Lib.size_eq,hr.out];exact HLE.out
   have HB6:=ad (Below.up HBW.out ab b6);have hw2:wrap64 (z+(r.size:Int))=z+(r.size:Int):=IntWalk.wrap64_in _ (by omega);clear b6 hr HLE HRP HBW;by_cases h0:i=0
   ·subst h0;go_wp2;exact⟨⟨1,z+(r.size:Int),by go_num,rfl,by omega,by omega,by omega,HB6.out⟩,by simp[intOf];omega⟩
   ·have h0i:(0:Int)<(i:Int):=by omega
    by_cases h5:5000<z+(r.size:Int)
    ·go_wp2;go_ret;exact⟨_,_,_,rfl,HB1.out.trans (HB6.out.mono HB1.out.size)⟩
    ·go_wp2;exact⟨⟨i+1,z+(r.size:Int),by go_num,rfl,by omega,by omega,by omega,HB6.out⟩,by simp[intOf];omega⟩
  ·obtain rfl:i=qs.length:=by omega
   go_wp2;go_ret;exact⟨_,_,_,rfl,HB1.out.trans (hbw.mono HB1.out.size)⟩
set_option maxHeartbeats 16000000 in
set_option maxRecDepth 100000 in
theorem Fb (h:ah R J a nb lg sb room s fs st N w) (hR:aC a R) (hV:gq N fs) (hb0:jO N.v N.id=0) (hb1:N.vU=1) :
 Calls prog 119 #[.pointer (some ⟨nb,0,none⟩)] w fun e w'=>e=.returned (.bool false)/\Below w.heap.size w w':=by
 have HI:∀d os,Calls prog 51 #[.pointer (some ⟨nb,0,none⟩)] (grow (redrawn w d) os) (fun e w'=>e=.returned (.bool true)/\∃p:Regrown,w'=grow (redrawn w p.d) p.os):=fun d os=>Calls.regrown_of (by
  have:=jl (h.next hR (below_regrown w d os)) hV.1;rw[decide_eq_true hV.2.1]at this;exact this)
 obtain⟨P,hh,hv,_⟩:=h.heap;obtain⟨c0,c1,_,_,c4,c5,c6,c7,_⟩:=cM hh;have HC:∀d os,Calls prog 176 #[dw N.v P.A,.int .i64 N.id] (grow (redrawn w d) os) (fun e w'=>e=.returned (.int .i64 0)/\∃p:Regrown,w'=grow (redrawn w p.d) p.os):=fun d os=>Calls.regrown_of (by
  have:=yD N.v P.A N.id _ (hv.next (below_regrown w d os)) hV.1;rw[hb0]at this;exact this)
 rw[hb1]at c1;have k0:=cell_regrown c0;have k1:=cell_regrown c1;have k4:=cell_regrown c4;have k5:=cell_regrown c5;have k6:=cell_regrown c6;have k7:=cell_regrown c7;clear h hh hv hV hb0 hb1 c0 c1 c4 c5 c6 c7;unfold dw at HC;go_enter func119,ntmps119;go_wp2_with fail;refine wp_region_quiet_below (by kernel_rfl) (by kernel_rfl) ?_
 repeat (quiet_step (first|exact HI _ _|exact HC _ _))
 refine wpQuiet_nil ?_;intro _ hw';obtain⟨⟨dq,osq⟩,hw''⟩:=hw';subst hw'';go_wp2;go_ret;exact⟨rfl,below_regrown w dq osq⟩
end
end Go.Proofs.YtmgmknmaepjnoaaGreatDoor
