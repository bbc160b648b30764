/-
  snapshot.Load where there is no file of it. A replica's Range; Open of an empty disk. A replica's Advance.
-/
import Derived.Test.YtmgmknmaepjnoaaGreatDoorRep1
import Derived.Test.YtmgmknmaepjnoaaGreatDoorTab2
import Derived.Test.YtmgmknmaepjnoaaGreatDoorOpn
namespace Go.Proofs.YtmgmknmaepjnoaaGreatDoor
open Go.RowKit Go.Shelf Proofs.Tryz
section
set_option maxHeartbeats 1000000 in
theorem xQ (d:Nat) (room:Int) (fs:List Dk.ai) (ft:Nat->Prop) (w:World) (h:bw w d room fs ft) (hl:Dk.look fs [115,110,97,112]=none) :
 Calls prog 97 #[.pointer (some ⟨d,0,none⟩)] w fun e w'=>e=.returned (.tuple #[.pointer none,.int .i64 6])/\w=w':=by
 have HR:=ad (gO d room fs ft ⟨#[115,110,97,112]⟩ w h (by decide));have HQ:=ad (show Dk.read (⟨#[115,110,97,112]⟩:ByteArray).data.toList fs=(⟨#[]⟩,6)by rw[Dk.read,show(⟨#[115,110,97,112]⟩:ByteArray).data.toList=[115,110,97,112]from rfl,hl]);rw[HQ.out]at HR;clear h hl HQ;go_enter func97,ntmps97;go_wp2_with fail;refine HR.out.mono ?_;rintro e w1 ⟨rfl,rfl⟩;go_wp2
 go_ret2
 exact⟨rfl,rfl⟩
variable {R:(Nat->Prop)->(Nat->Prop)->World->Prop} {a w w0 w':World} {r lg d sb:Nat} {room:Int} {s s':Lg.S} {fs fs':List Dk.ai} {st st':Stat} {TL TS X:Nat->Prop} {J:List (Nat×Obj)}
theorem tE {B n:Nat} {e:TypeId} {sz:Nat} {v:Value} {xs:List Value} (h:w.ownsRow B e sz v n xs):mw v:=by
 rcases h.2 with⟨rfl,_⟩|⟨g,cap,cur,rfl,_,_,hc,_⟩
 ·exact ab
 ·exact hc
def dT (f m:Int) (es:List Evt.Entry):List Evt.Entry:=(es.drop (Lg.gK f es.length-1).toNat).take (Lg.iA f m es.length).toNat
theorem qF (f m:Int) (h:RR R J a r lg d sb room s fs st w) (hR:aC a R) (hn:s.es.length<=1000000) :
 Calls prog 45 #[.pointer (some ⟨r,0,none⟩),.int .i64 f,.int .i64 m] w fun e w'=>∃va qs vc,e=.returned (.slice va qs.length vc)/\Hid (ag qs=dT f m s.es)/\mw (.slice va qs.length vc)/\Hid (RR (cn R (.slice va qs.length vc) qs) J a r lg d sb room s fs st w')/\Below w.heap.size w w':=by
 obtain⟨k0,k1,k2⟩:=h.box.cells;obtain⟨TL,TS,X,h,hw⟩:=h;obtain⟨ft,pv,ev,ps,hL⟩:=h.log;have HC:=ad (qY f m hL (by rw[hL.len];exact hn));have H:=ad (aB h (aB hw hL));clear h hw hL;go_enter func45,ntmps45;go_wp2_with fail;refine HC.out.mono ?_;rintro e w1 ⟨v,rfl,hO,hb⟩;obtain⟨qs,hqs⟩:∃qs,(ps.drop (Lg.gK f ps.length-1).toNat).take (Lg.iA f m ps.length).toNat=qs:=⟨_,rfl⟩;rw[hqs]at hO;obtain⟨va,vc,rfl⟩:=aJ (aj hO.out);have hsub:∀p∈qs,p∈ps:=fun p hp=>by rw[<-hqs]at hp;exact List.mem_of_mem_drop (List.mem_of_mem_take hp)
 have HP:=ad (show ag qs=dT f m s.es by
  rw[<-hqs,kI,dT,<-H.out.2.2.len,<-H.out.2.2.plain];simp[ag,List.map_drop])
 have HA:=ad (show eP X w1 (.slice va qs.length vc) qs from⟨⟨aj hO.out,fun p hp=>by
  have:=H.out.2.2.pB.2 p (hsub p hp);exact⟨Cells.next this.1 hb,this.2⟩⟩,fun b hbb _ hx=>by
  have:=(hO.out.lt b hbb).1;have:=H.out.2.2.lt b hx;omega,fun p hp=>(H.out.2.2.gu p (hsub p hp)).2.2⟩)
 have HCP:=ad (tE hO.out);have HRR:=ad (show RR (cn R (.slice va qs.length vc) qs) J a r lg d sb room s fs st w1 from
  ⟨TL,TS,X,H.out.1.next hb,hR _ _ X X w w1 H.out.2.1 (ax.aI hb) H.out.1.TX (fun j hj=>.inl hj) (fun j hj=>.inl hj) (fun j hj=>hj) (fun j hj=>Nat.lt_of_lt_of_le (H.out.1.log.lt j hj) hb.size) (Below.up H.out.1.log.below ab hb),HA.out⟩)
 have HB:=ad hb;clear hO hqs hsub hb HC H HA;go_wp2;go_ret;exact⟨va,qs,vc,rfl,HP,HCP.out,HRR,HB.out⟩
theorem Dx {ft X:Nat->Prop} {ex:List Dk.ai} (hH:Lg.Holds ex fs 1 [] []) (hg:∀x∈fs,Lg.yv [] x.name=false/\x.name.length<=1000) (hsn:Dk.look fs [115,110,97,112]=none) (hA:fF a w ft) (h:bw w d room fs ft) (hX:∀j,X j->j<w.heap.size/\a.heap.size<=j) (hf:∀j,ft j->X j) (hroom:room<=4194304) (hR:aC a R) (hw:R ft X w) :
 Calls prog 50 #[.pointer (some ⟨d,0,none⟩)] w fun e w'=>∃r lg sb,e=.returned (.tuple #[.pointer (some ⟨r,0,none⟩),.int .i64 0])/\RR R [] a r lg d sb room (Lg.aL 1 [] []) fs Stat.new w'/\w.heap.size<=r:=by
 have HO:=ad (BJ (X:=X) hA h (fun j hj=>(hX j hj).1) hf hroom hH.Hu (by simp) (hH.reads room) (by simp[Lg.aL]) hg);have H:=ad (aB hA (aB h (aB hX (aB hf hw))));clear hA h hX hf hw;go_enter func50,ntmps50;go_wp2_with fail;refine HO.out.mono ?_;rintro e w1 ⟨lg,T',rfl,q1,q2,q3,q4⟩;obtain⟨ft1,pv,ev,ps,hL⟩:=q1;have HSN:=ad (xQ d room fs ft1 w1 hL.im hsn);have H1:=ad (aB hL (aB q2 (aB q3 q4)));clear HO q2 q3 q4 hL;go_wp2_with fail;refine HSN.out.mono ?_;rintro e w2 ⟨rfl,rfl⟩;have HSW:=ad (Fg w1);clear HSN;go_wp2_with fail;refine HSW.out.mono ?_;rintro e w3 ⟨sb,TS,rfl,hs,hts,b3⟩;have hbx:=heap_alloc_new w3 (.cells #[.pointer (some ⟨d,0,none⟩),.pointer (some ⟨lg,0,none⟩),.pointer (some ⟨sb,0,none⟩)] 179);have b4:=(ae _ w3).alloc ab (.cells #[.pointer (some ⟨d,0,none⟩),.pointer (some ⟨lg,0,none⟩),.pointer (some ⟨sb,0,none⟩)] 179);have HF:=ad (show RR R [] a w3.heap.size lg d sb room (Lg.aL 1 [] []) fs Stat.new (w3.alloc (.cells #[.pointer (some ⟨d,0,none⟩),.pointer (some ⟨lg,0,none⟩),.pointer (some ⟨sb,0,none⟩)] 179))by
  have hL:=H1.out.1;have h0:=H.out;have hsz1:=H1.out.2.2.1.size;have hsz3:=b3.size;have hXs:∀j,(X j\/T' j)->(j<w1.heap.size/\a.heap.size<=j):=fun j hj=>⟨hL.lt j hj,by
   rcases hj with e|e
   ·exact(h0.2.2.1 j e).2
   ·exact hL.base.out j e⟩
  have hL2:iX a lg d room (Lg.aL 1 [] []) fs T' (fun j=>(X j\/T' j)\/TS j) (w3.alloc (.cells #[.pointer (some ⟨d,0,none⟩),.pointer (some ⟨lg,0,none⟩),.pointer (some ⟨sb,0,none⟩)] 179)):=by
   have hb13:Below w1.heap.size w1 (w3.alloc (.cells #[.pointer (some ⟨d,0,none⟩),.pointer (some ⟨lg,0,none⟩),.pointer (some ⟨sb,0,none⟩)] 179)):=b3.trans (b4.mono b3.size);exact iX.lk (T1:=fun _=>False) ⟨ft1,pv,ev,ps,hL⟩ (ax.aI hb13) (fun _ hj=>hj.elim) (fun _ _ hj=>hj) (fun j hj=>hj.imp id (hts j)) (fun j hj=>by
    rcases hj with hj|hj
    ·have:=(hXs j hj).1;simp;omega
    ·have:=hs.lt j hj;simp;omega) (fun j hj=>.inl hj) (Below.up hL.base.below ab hb13)
  refine⟨T',TS,_,⟨hL2,hs.next b4,hbx,fun j h1 h2=>?_,fun j hj=>.inr hj,fun e=>?_,fun j hj=>?_,Stat.FM,fun p hp=>by cases hp⟩,?_⟩
  ·have:=(hXs j (.inr h1)).1;have:=hts j h2;omega
  ·rcases e with e|e
   ·have:=(hXs _ e).1;omega
   ·have:=hs.lt _ e;omega
  ·rcases hj with e|e
   ·exact(hXs j e).2
   ·have:=hts j e;have:=hL.base.below.size;omega
  ·have hTn:∀j,T' j->ft j\/w.heap.size<=j:=H1.out.2.1;have hbw:Below w1.heap.size w1 (w3.alloc (.cells #[.pointer (some ⟨d,0,none⟩),.pointer (some ⟨lg,0,none⟩),.pointer (some ⟨sb,0,none⟩)] 179)):=b3.trans (b4.mono b3.size);refine hR ft _ X _ w _ h0.2.2.2.2 (H1.out.2.2.1.trans (ax.aI hbw:ax ft w1 _) (fun j hj=>.inl hj)) h0.2.2.2.1 (fun j hj=>?_) (fun j hj=>?_) (fun j hj=>.inl (.inl hj)) hL2.lt hL2.below
   ·rcases hj with e|e|⟨p,hp,_⟩
    ·exact hTn j e
    ·have:=hts j e;exact .inr (by omega)
    ·cases hp
   ·rcases hj with (e|e)|e
    ·exact .inl e
    ·rcases hTn j e with e2|e2
     ·exact .inl (h0.2.2.2.1 j e2)
     ·exact .inr e2
    ·have:=hts j e;exact .inr (by omega))
 have HSZ:=ad (show w.heap.size<=w3.heap.size by have:=H1.out.2.2.1.size;have:=b3.size;omega);clear HSW hs hts b3 hbx b4 H1 H;go_wp2
 go_ret2
 exact⟨_,lg,sb,rfl,HF.out,HSZ.out⟩
end
section
variable {R:(Nat->Prop)->(Nat->Prop)->World->Prop} {a w w0 w':World} {r lg d sb:Nat} {room:Int} {s s':Lg.S} {fs fs':List Dk.ai} {st st':Stat} {TL TS X:Nat->Prop} {J:List (Nat×Obj)}
theorem nW (f m:Int) (h:RR R J a r lg d sb room s fs st w) (hR:aC a R) (hn:s.es.length<=1000000) :
 Calls prog 89 #[.pointer (some ⟨lg,0,none⟩),.int .i64 f,.int .i64 m] w fun e w'=>∃va qs vc,e=.returned (.slice va qs.length vc)/\Hid (ag qs=dT f m s.es)/\mw (.slice va qs.length vc)/\Hid (RR (cn R (.slice va qs.length vc) qs) J a r lg d sb room s fs st w')/\Below w.heap.size w w':=by
 obtain⟨TL,TS,X,h,hw⟩:=h;obtain⟨ft,pv,ev,ps,hL⟩:=h.log;refine(qY f m hL (by rw[hL.len];exact hn)).mono ?_;rintro e w1 ⟨v,rfl,hO,hb⟩;obtain⟨qs,hqs⟩:∃qs,(ps.drop (Lg.gK f ps.length-1).toNat).take (Lg.iA f m ps.length).toNat=qs:=⟨_,rfl⟩;rw[hqs]at hO;obtain⟨va,vc,rfl⟩:=aJ (aj hO.out);have hsub:∀p∈qs,p∈ps:=fun p hp=>by rw[<-hqs]at hp;exact List.mem_of_mem_drop (List.mem_of_mem_take hp)
 refine⟨va,qs,vc,rfl,ad ?_,tE hO.out,ad ⟨TL,TS,X,h.next hb,hR _ _ X X w w1 hw (ax.aI hb) h.TX (fun j hj=>.inl hj) (fun j hj=>.inl hj) (fun j hj=>hj) (fun j hj=>Nat.lt_of_lt_of_le (h.log.lt j hj) hb.size) (Below.up h.log.below ab hb),⟨⟨aj hO.out,fun p hp=>?_⟩,fun b hbb _ hx=>?_,fun p hp=>(hL.gu p (hsub p hp)).2.2⟩⟩,hb⟩
 ·rw[<-hqs,kI,dT,<-hL.len,<-hL.plain];simp[ag,List.map_drop]
 ·have:=hL.pB.2 p (hsub p hp);exact⟨Cells.next this.1 hb,this.2⟩
 ·have:=(hO.out.lt b hbb).1;have:=hL.lt b hx;omega
theorem AG {lv:Value} {qs:List bu} {p:bu} (h:RR (cn R lv qs) J a r lg d sb room s fs st w) (hR:aC a R) (hp:p∈qs) (happ:st.app<=400000) :
 Calls prog 111 #[.pointer (some ⟨sb,0,none⟩),fy p] w fun e w'=>e=.returned (.tuple #[lV (st.apply p.1).1.1,.int .i64 ((st.apply p.1).1.2:Nat)])/\RR (cn R lv qs) J a r lg d sb room s fs (st.apply p.1).2 w':=by
 obtain⟨TL,TS,X,h,hw⟩:=h;obtain⟨⟨pos,ep,⟨S,ex,se,sq,es⟩⟩,v⟩:=p;have hev:=hw.2.cr.2 _ hp;have hS2:(⟨S.toArray⟩:ByteArray).data.toList=S:=by simp
 have hc:=AZ sb st TS pos ep ⟨S.toArray⟩ ex se sq v es w h.jH h.log.env h.ok (by rw[Lib.size_eq,hS2];exact hev.2.1) (fun w' ht=>jq (p:=(⟨pos,ep,⟨S,ex,se,sq,es⟩⟩,v)) hev.1 (fun b hb hne hx=>hw.2.out _ hp b hb hne (h.cz b hx)) ht) hev.2.2.2 hev.2.2.1 happ;rw[hS2]at hc;refine hc.mono ?_;rintro e w' ⟨ft',rfl,q1,q2,q3⟩;exact⟨rfl,h.Ke (fi hR lv qs) hw (by
  obtain⟨x,t,fx,fq,q1⟩:=q1;exact⟨x,t,fx,fq,q1⟩) q2 q3 (h.ok.apply _).1⟩
def tF (V:Value) (K:List (Nat×Obj)):Prop:=(V.ownBlock=none/\K=[])\/∃g o,V.ownBlock=some g/\K=[(g,o)]
theorem RR.appended {B n' sz:Nat} {e:TypeId} {V v':Value} {K L:List (Nat×Obj)} {xs':List Value} (h:RR R (J++K++L) a r lg d sb room s fs st w) (hR:aC a R) (hO:tF V K) (hJb:∀p∈J,p.1<B) (hVB:∀g,V.ownBlock=some g->B<=g)
 (hown:w'.ownsRow B e sz v' n' xs') (hg:w.grownBy w' V.ownBlock) (hv:v'.ownBlock=V.ownBlock\/v'.ownBlock=some w.heap.size):∃K',tF v' K'/\RR R (J++K') a r lg d sb room s fs st w':=by
 have ht:ax (JB (J++K++L)) w w':=ax.gB hg (fun b hb=>by
  rcases hO with⟨h0,_⟩|⟨g,o,h1,rfl⟩
  ·rw[h0]at hb;cases hb
  ·rw[h1]at hb;cases hb;exact⟨(_,o),by simp,rfl⟩)
 have hJ:∀p∈J,(JB (J++K++L) p.1\/w.heap.size<=p.1)/\w'.heap[p.1]?=some p.2:=fun p hp=>by
  have hw:=h.bj p (by simp[hp]);refine⟨.inl ⟨p,by simp[hp],rfl⟩,?_⟩;rw[hg.block p.1 (aA.1 hw).1 (fun e=>?_)]
  ·exact hw
  ·have:=hVB p.1 e.symm;have:=hJb p hp;omega
 cases hb:v'.ownBlock with
 |none=>exact⟨[],.inl ⟨hb,rfl⟩,by rw[List.append_nil];exact h.oL hR ht hJ (fun _ _ _ hh=>hh)⟩
 |some g' =>
  have hlt:=(hown.lt g' hb).2;refine⟨[(g',w'.heap[g'])],.inr ⟨g',_,hb,rfl⟩,h.oL hR ht (fun p hp=>?_) (fun _ _ _ hh=>hh)⟩;rcases aK.1 hp with hp|hp
  ·exact hJ p hp
  ·rw[aN.1 hp];refine⟨?_,Array.getElem?_eq_getElem hlt⟩;rcases hv with hv|hv
   ·rw[hb]at hv;rcases hO with⟨h0,_⟩|⟨g,o,h1,rfl⟩
    ·rw[h0]at hv;cases hv
    ·rw[h1]at hv;cases hv;exact .inl ⟨(_,o),by simp,rfl⟩
   ·rw[hb]at hv;cases hv;exact .inr ab
def dQ (l:List (bu×cI)):List Value:=l.flatMap fun p=>[.int .i64 p.1.1.pos,.int .i64 p.1.1.epoch,.string ⟨p.1.1.b.stream.toArray⟩,.int .i64 p.1.1.b.expect,.int .i64 p.1.1.b.br,.int .i64 p.1.1.b.seq,p.1.2,.int .i64 p.2.code,.int .i64 p.2.pos,.int .i64 p.2.first,.int .i64 p.2.version]
theorem Ln:fh prog 146 149 11:=by
 have h:(prog.info? 149).map (fun i=>(i.zero,i.size,i.bytes))=some (some (.agg #[.int .i64 0,.int .i64 0,.string ⟨#[]⟩,.int .i64 0,.int .i64 0,.int .i64 0,.slice none 0 0,.int .i64 0,.int .i64 0,.int .i64 0,.int .i64 0]),11,112):=by kernel_rfl
 obtain⟨i0,hi,hz0,hz1,hz2⟩:=info_parts h;exact⟨underlying146,⟨i0,_,112,hi,hz0,hz1,hz2,rfl,by omega⟩,by omega⟩
theorem Stat.ug:∀(l:List Evt.Entry) (st:Stat) (e:Evt.Entry),st.aS (l++[e])=((st.aS l).1++[(e,((st.aS l).2.apply e).1.1)],((st.aS l).2.apply e).2)
 |[],st,e=>rfl
 |x::l,st,e=>by
  show((x,(st.apply x).1.1)::((st.apply x).2.aS (l++[e])).1,((st.apply x).2.aS (l++[e])).2)=_;rw[Stat.ug l _ e];rfl
theorem xp {q:bu} {p ep ex se sq:Int} {S:ByteArray} {sv:Value} (h:fy q=.agg #[.int .i64 p,.int .i64 ep,.string S,.int .i64 ex,.int .i64 se,.int .i64 sq,sv]) (o:cI) :
 dQ [(q,o)]=[.int .i64 p,.int .i64 ep,.string S,.int .i64 ex,.int .i64 se,.int .i64 sq,sv,.int .i64 o.code,.int .i64 o.pos,.int .i64 o.first,.int .i64 o.version]:=by
 rw[nZ]at h;simp only[Value.agg.injEq]at h;have h2:=congrArg Array.toList h;simp only[List.cons.injEq,and_true]at h2;obtain⟨e1,e2,e3,e4,e5,e6,e7⟩:=h2;show [Value.int .i64 q.1.pos,.int .i64 q.1.epoch,.string ⟨q.1.b.stream.toArray⟩,.int .i64 q.1.b.expect,.int .i64 q.1.b.br,.int .i64 q.1.b.seq,q.2,.int .i64 o.code,.int .i64 o.pos,.int .i64 o.first,.int .i64 o.version]=_;rw[e1,e2,e3,e4,e5,e6,e7]
theorem vN (l:List (bu×cI)) (p:bu×cI):dQ (l++[p])=dQ l++dQ [p]:=by simp[dQ]
def cj (st:Stat) (upto:Int) (L:List Evt.Entry):List Evt.Entry:=if upto<=st.app then [] else dT (st.app+1) (upto-st.app) L
set_option maxHeartbeats 8000000 in
set_option maxRecDepth 100000 in
theorem ud (n:Int) (h:RR R J a r lg d sb room s fs st w) (hR:aC a R) (hn:s.es.length<=300000) (hJ:∀p∈J,p.1<w.heap.size) (happ:st.app<=100000) (hnb:sV n) (hap2:∀k,k<=s.es.length->(st.aS ((cj st n s.es).take k)).2.app<=400000) :
 Calls prog 63 #[.pointer (some ⟨r,0,none⟩),.int .i64 n] w fun e w'=>∃va vc,∃(dn:List (bu×cI)) (K:List (Nat×Obj)),e=.returned (.slice va dn.length vc)/\Hid (dn.map (fun p=>(p.1.1,p.2))=(st.aS (cj st n s.es)).1)/\Hid (∀p∈dn,∃(sa:Option Addr) (sl sc:Nat),p.1.2=.slice sa sl sc)/\Hid (w'.ownsRow w.heap.size 149 11 (.slice va dn.length vc) dn.length (dQ dn))/\tF (.slice va dn.length vc) K/\RR R (J++K) a r lg d sb room s fs (st.aS (cj st n s.es)).2 w':=by
 have hC:=h.ok.a;have HCM:=ad (fun W (hb:Below w.heap.size w W)=>gW (h.next hR hb));by_cases hle:n<=st.app
 ·have HL:=ad (show cj st n s.es=[]by unfold cj;rw[if_pos hle]);have H:=ad h;clear h;go_enter func63,ntmps63;go_wp2_with fail;refine(HCM.out w (ae _ _)).mono ?_;rintro e w1 ⟨rfl,rfl⟩;go_wp2;go_ret;exact⟨none,0,[],[],rfl,ad (by rw[HL.out];rfl),ad (fun p hp=>by cases hp),ad (World.ownsRow_nil _ _ _ _),.inl ⟨rfl,rfl⟩,by rw[HL.out,List.append_nil];exact H.out⟩
 ·have HL:=ad (show cj st n s.es=dT (st.app+1) (n-st.app) s.es by unfold cj;rw[if_neg hle]);have H:=ad h;have hw1:IntKind.i64.wrap (st.app+1)=st.app+1:=by rw[IntKind.wrap_i64];omega
  have hw2:IntKind.i64.wrap (n-st.app)=n-st.app:=by
   have:=hnb.2;rw[IntKind.wrap_i64];omega
  have hbx:=h.box.cells.2.1;have HKS:=ad (show ∀Z,Below w.heap.size w Z->Z.cell? ⟨r,1,none⟩=some (.pointer (some ⟨lg,0,none⟩))from fun Z hb=>cell_kept hb ab hbx);have HRG:=ad (fun W (hb:Below w.heap.size w W)=>nW (st.app+1) (n-st.app) (h.next hR hb) hR (by omega));have hnh:¬n<=st.app:=hle;clear h hbx hle;go_enter func63,ntmps63;go_wp2_with fail;refine(HCM.out w (ae _ _)).mono ?_;rintro e w1 ⟨rfl,rfl⟩;go_upto_region 4 with fail;go_cut [25,26,27] (fun lv nv iv wx=>∃va qs vc,lv=.slice va (qs.length:Nat) vc/\nv=.int .i64 (qs.length:Nat)/\iv=.int .i64 0/\Hid (ag qs=dT (st.app+1) (n-st.app) s.es)/\Hid (RR (cn R (.slice va qs.length vc) qs) J a r lg d sb room s fs st wx)/\Hid (Below w.heap.size w wx))
  case first =>
   go_region_held3 (fun Z=>Z.cell? ⟨r,1,none⟩=some (.pointer (some ⟨lg,0,none⟩)))
    ((refine HKS.out _ ?_; first
      | with_reducible exact ae _ w
      | with_reducible exact (ae _ w).drew
      | with_reducible exact HB5.out))
    (first
     |(go_at_call 42;refine(HCM.out _ (ae _ w).drew).mono ?_;rintro e w5 ⟨rfl,rfl⟩)
     |(go_at_call 89;refine(HRG.out _ (ae _ w).drew).mono ?_;rintro e w5 ⟨va,qs,vc,rfl,hpl,hcap,hrr,b5⟩;have HB5:=ad (show Below w.heap.size w w5 from(ae _ w).drew.trans b5);clear b5 hcap))
   all_goals go_wp2
   all_goals go_meet
   all_goals exact⟨va,qs,vc,rfl,rfl,rfl,hpl,hrr,HB5⟩
  case rest =>
   obtain⟨va,qs,vc,rfl,rfl,rfl,HPL,HRR,HBW⟩:=hcut;have hql:qs.length<=s.es.length:=by
    have h1:(ag qs).length<=s.es.length:=by
     rw[HPL.out,dT,List.length_take,List.length_drop];omega
    simpa[ag]using h1
   clear HCM HRG HKS H;go_wp2
   go_loopw [5,27] (fun vv iv wr=>∃(i:Nat) (xa:Option Addr) (xc:Nat) (dn:List (bu×cI)) (K:List (Nat×Obj)),vv=.slice xa i xc/\iv=.int .i64 i/\i<=qs.length/\dn.length=i/\w.heap.size<=wr.heap.size/\Hid (dn.map (fun p=>(p.1.1,p.2))=(st.aS ((ag qs).take i)).1)/\Hid (∀p∈dn,∃(sa:Option Addr) (sl sc:Nat),p.1.2=.slice sa sl sc)/\Hid (wr.ownsRow w.heap.size 149 11 (.slice xa i xc) i (dQ dn))/\Hid (tF (.slice xa i xc) K)/\Hid (RR (cn R (.slice va qs.length vc) qs) (J++K) a r lg d sb room s fs (st.aS ((ag qs).take i)).2 wr)) (fun _ iv _=>qs.length-(intOf iv).toNat)
   case atStart=>exact⟨0,none,0,[],[],rfl,rfl,by omega,rfl,HBW.out.size,ad rfl,ad (fun p hp=>by cases hp),ad (World.ownsRow_nil _ _ _ _),ad (.inl ⟨rfl,rfl⟩),by rw[List.append_nil];exact HRR⟩
   case round =>
    obtain⟨i,xa,xc,dn,K,rfl,rfl,hi,hdn,hwr,HD,HSL,HOW,HOJ,HRI⟩:=hrel;by_cases hp:i<qs.length
    ·have hRr:=fi hR (.slice va qs.length vc) qs;obtain⟨b,o,c,p,ep,S,ex,se,sq,sa,sl,sc,es,hv,q0,q1,q2,q3,q4,q5,q6,_,_,_,_,hpe,hp2⟩:=jI HRI.out.ey i hp;cases hv;obtain⟨si,hsi⟩:∃si,(st.aS ((ag qs).take i)).2=si:=⟨_,rfl⟩;obtain⟨q,hq⟩:∃q,qs[i]=q:=⟨_,rfl⟩;have hqm:q∈qs:=by rw[<-hq];exact List.getElem_mem _
     have HQ2:=ad (show q.2=.slice sa sl sc by rw[<-hq];exact hp2.out);have HV:=ad (show fy q=.agg #[.int .i64 p,.int .i64 ep,.string S,.int .i64 ex,.int .i64 se,.int .i64 sq,.slice sa sl sc]by
      rw[<-hq,nZ,hpe.out,hp2.out])
     have hsa:si.app<=400000:=by
      have:=hap2 i (by omega);rw[HL.out,<-HPL.out,hsi]at this;exact this
     obtain⟨⟨⟨⟨oc,op,of,ov⟩,cd⟩,s2⟩,hap⟩:∃P,si.apply q.1=P:=⟨_,rfl⟩;have HPLA:=ad (show st.aS ((ag qs).take (i+1))=((st.aS ((ag qs).take i)).1++[(q.1,⟨oc,op,of,ov⟩)],s2)by
      have hpi:i<(ag qs).length:=by simpa[ag]using hp
      rw[List.take_succ_eq_append_getElem hpi,Stat.ug,hsi];have:(ag qs)[i]=q.1:=by simp only[ag,List.getElem_map];rw[hq]
      rw[this,hap])
     rw[hsi]at HRI;have hr2:=HRI.out.box.cells.2.2;obtain⟨W6,hW6⟩:∃W6,wr.alloc (.cells #[.int .i64 p,.int .i64 ep,.string S,.int .i64 ex,.int .i64 se,.int .i64 sq,.slice sa sl sc] 95)=W6:=⟨_,rfl⟩;have b6:Below wr.heap.size wr W6:=by rw[<-hW6];exact(ae _ wr).alloc ab _
     have he6:bG W6 wr.heap.size p ep S ex se sq (.slice sa sl sc):=by rw[<-hW6];exact heap_alloc_new wr _
     have hs6:W6.heap.size=wr.heap.size+1:=by rw[<-hW6];simp
     have hr6:=cell_kept b6 ab hr2;have hz6:=heap_alloc_new W6 (.cells #[.int .i64 0,.int .i64 0,.int .i64 0,.int .i64 0] 89);have hRA:=HRI.out.enter (R':=cn R (.slice (some ⟨b,o,none⟩) qs.length vc) qs) (J2:=[(wr.heap.size,iJ p ep S ex se sq (.slice sa sl sc))]) hRr (b6.drew) (fun p hp=>by
      rw[aN.1 hp];exact⟨ab,he6⟩) (fun _ _ _ hh=>hh)
     have b6z:Below wr.heap.size wr (W6.alloc (.cells #[.int .i64 0,.int .i64 0,.int .i64 0,.int .i64 0] 89)).drew:=(b6.alloc b6.size _).drew;have hRB:=HRI.out.enter (R':=cn R (.slice (some ⟨b,o,none⟩) qs.length vc) qs) (J2:=[(wr.heap.size,iJ p ep S ex se sq (.slice sa sl sc)),(W6.heap.size,.cells #[.int .i64 0,.int .i64 0,.int .i64 0,.int .i64 0] 89 (0,0))]) hRr b6z (fun p hp=>by
      simp only[List.mem_cons,List.not_mem_nil,or_false]at hp;rcases hp with rfl|rfl
      ·exact⟨ab,he6.next ((ae _ W6).alloc ab _).drew⟩
      ·exact⟨by omega,hz6⟩) (fun _ _ _ hh=>hh)
     have hA1:=AG hRA hR hqm hsa;have hA2:=AG hRB hR hqm hsa;rw[hap,HV.out]at hA1 hA2;have hA1:Calls prog 111 #[.pointer (some ⟨sb,0,none⟩),.agg #[.int .i64 p,.int .i64 ep,.string S,.int .i64 ex,.int .i64 se,.int .i64 sq,.slice sa sl sc]] W6.drew (fun e w'=>e=.returned (.tuple #[.agg #[.int .i64 oc,.int .i64 op,.int .i64 of,.int .i64 ov],.int .i64 (cd:Nat)])/\RR (cn R (.slice (some ⟨b,o,none⟩) qs.length vc) qs) (J++K++[(wr.heap.size,iJ p ep S ex se sq (.slice sa sl sc))]) a r lg d sb room s fs s2 w'):=hA1;have hA2:Calls prog 111 #[.pointer (some ⟨sb,0,none⟩),.agg #[.int .i64 p,.int .i64 ep,.string S,.int .i64 ex,.int .i64 se,.int .i64 sq,.slice sa sl sc]] (W6.alloc (.cells #[.int .i64 0,.int .i64 0,.int .i64 0,.int .i64 0] 89)).drew (fun e w'=>e=.returned (.tuple #[.agg #[.int .i64 oc,.int .i64 op,.int .i64 of,.int .i64 ov],.int .i64 (cd:Nat)])/\RR (cn R (.slice (some ⟨b,o,none⟩) qs.length vc) qs) (J++K++[(wr.heap.size,iJ p ep S ex se sq (.slice sa sl sc)),(W6.heap.size,.cells #[.int .i64 0,.int .i64 0,.int .i64 0,.int .i64 0] 89 (0,0))]) a r lg d sb room s fs s2 w'):=hA2;have HA1:=ad hA1;have HA2:=ad hA2;have hrne:r<wr.heap.size:=(aA.1 HRI.out.box).1;have HKS:=ad (show ∀Z,Below W6.heap.size W6 Z->Z.cell? ⟨r,2,none⟩=some (.pointer (some ⟨sb,0,none⟩))/\Z.cell? ⟨wr.heap.size,0,none⟩=some (.int .i64 p)/\Z.cell? ⟨wr.heap.size,1,none⟩=some (.int .i64 ep)/\Z.cell? ⟨wr.heap.size,2,none⟩=some (.string S)/\Z.cell? ⟨wr.heap.size,3,none⟩=some (.int .i64 ex)/\Z.cell? ⟨wr.heap.size,4,none⟩=some (.int .i64 se)/\Z.cell? ⟨wr.heap.size,5,none⟩=some (.int .i64 sq)/\Z.cell? ⟨wr.heap.size,6,none⟩=some (.slice sa sl sc)from fun Z hb=>⟨cell_kept hb ab hr6,(he6.next hb).cells⟩);have HW6:=ad hW6;have HQ:=ad (aB hq (aB hs6 (aB hrne b6)));clear hA1 hA2 hRA hRB b6z hz6 hr6 he6 b6 hr2 hap hsi hpe hp2 hq hs6;go_upto_region 7 with fail;try rw[HW6.out]
     go_cut [8] (fun pv wx=>∃b8,pv=.pointer (some ⟨b8,0,none⟩)/\Hid (RR (cn R (.slice (some ⟨b,o,none⟩) qs.length vc) qs) (J++K++[(wr.heap.size,iJ p ep S ex se sq (.slice sa sl sc)),(b8,.cells #[.int .i64 oc,.int .i64 op,.int .i64 of,.int .i64 ov] 89 (0,0))]) a r lg d sb room s fs s2 wx))
     case first =>
      go_region_held3 (fun Z=>Z.cell? ⟨r,2,none⟩=some (.pointer (some ⟨sb,0,none⟩))/\Z.cell? ⟨wr.heap.size,0,none⟩=some (.int .i64 p)/\Z.cell? ⟨wr.heap.size,1,none⟩=some (.int .i64 ep)/\Z.cell? ⟨wr.heap.size,2,none⟩=some (.string S)/\Z.cell? ⟨wr.heap.size,3,none⟩=some (.int .i64 ex)/\Z.cell? ⟨wr.heap.size,4,none⟩=some (.int .i64 se)/\Z.cell? ⟨wr.heap.size,5,none⟩=some (.int .i64 sq)/\Z.cell? ⟨wr.heap.size,6,none⟩=some (.slice sa sl sc))
       ((first
         | (refine HKS.out _ ?_; first
           |with_reducible exact ae _ W6
           |with_reducible exact(ae _ W6).drew
           |with_reducible exact((ae _ W6).alloc ab _).drew
           |with_reducible exact(ae _ W6).drew.alloc ab _)
         | (refine HS6.out _ ?_; first
           |with_reducible exact World.grownBy_alloc _ _ _
           |with_reducible exact dG _ _ _ _ _ _
           |with_reducible exact⟨rfl,rfl,rfl,ab,fun _ _ _=>rfl⟩)))
       (first
        |(go_at_call 111;refine HA1.out.mono ?_;rintro e w5 ⟨rfl,hx⟩;have HX:=ad hx;have HS6:=ad (show ∀Z,w5.grownBy Z (some w5.heap.size)->Z.cell? ⟨r,2,none⟩=some (.pointer (some ⟨sb,0,none⟩))/\Z.cell? ⟨wr.heap.size,0,none⟩=some (.int .i64 p)/\Z.cell? ⟨wr.heap.size,1,none⟩=some (.int .i64 ep)/\Z.cell? ⟨wr.heap.size,2,none⟩=some (.string S)/\Z.cell? ⟨wr.heap.size,3,none⟩=some (.int .i64 ex)/\Z.cell? ⟨wr.heap.size,4,none⟩=some (.int .i64 se)/\Z.cell? ⟨wr.heap.size,5,none⟩=some (.int .i64 sq)/\Z.cell? ⟨wr.heap.size,6,none⟩=some (.slice sa sl sc)from fun Z hg=>by
         have h1:=(hg.block r (aA.1 hx.box).1 (by have:=(aA.1 hx.box).1;simp;omega)).trans hx.box;have hj:=hx.bj (wr.heap.size,iJ p ep S ex se sq (.slice sa sl sc)) (by simp);have h2:=(hg.block wr.heap.size (aA.1 hj).1 (by have:=(aA.1 hj).1;simp;omega)).trans hj;exact⟨(show l6 Z r d lg sb from h1).cells.2.2,bG.cells h2⟩);clear hx)
        |(go_at_call 111;refine HA2.out.mono ?_;rintro e w5 ⟨rfl,hx⟩;have HX2:=ad hx;have hzq:=hx.bj (W6.heap.size,.cells #[.int .i64 0,.int .i64 0,.int .i64 0,.int .i64 0] 89 (0,0)) (by simp);have hzq:cX w5 (W6.heap.size) ⟨0,0,0,0⟩:=hzq;have g0:=hzq.cells.1;have g1:=hzq.cells.2.1;have g2:=hzq.cells.2.2.1;have g3:=hzq.cells.2.2.2;have r0:=ay hzq 0;have r1:=ay hzq 1;have r2:=ay hzq 2;have r3:=ay hzq 3;have HZQ:=ad hzq;have HS6:=ad (show ∀Z,w5.grownBy Z (some (W6.heap.size))->Z.cell? ⟨r,2,none⟩=some (.pointer (some ⟨sb,0,none⟩))/\Z.cell? ⟨wr.heap.size,0,none⟩=some (.int .i64 p)/\Z.cell? ⟨wr.heap.size,1,none⟩=some (.int .i64 ep)/\Z.cell? ⟨wr.heap.size,2,none⟩=some (.string S)/\Z.cell? ⟨wr.heap.size,3,none⟩=some (.int .i64 ex)/\Z.cell? ⟨wr.heap.size,4,none⟩=some (.int .i64 se)/\Z.cell? ⟨wr.heap.size,5,none⟩=some (.int .i64 sq)/\Z.cell? ⟨wr.heap.size,6,none⟩=some (.slice sa sl sc)from fun Z hg=>by
         have h1:=(hg.block r (aA.1 hx.box).1 (by have:=HQ.out.2.2.1;have:=HQ.out.2.1;simp;omega)).trans hx.box;have hj:=hx.bj (wr.heap.size,iJ p ep S ex se sq (.slice sa sl sc)) (by simp);have h2:=(hg.block wr.heap.size (aA.1 hj).1 (by have:=HQ.out.2.1;simp;omega)).trans hj;exact⟨(show l6 Z r d lg sb from h1).cells.2.2,bG.cells h2⟩);clear hx hzq))
      all_goals go_wp2
      all_goals go_meet
      all_goals first
       |exact⟨_,rfl,ad (by
        have h9:=HX.out.enter (R':=cn R (.slice (some ⟨b,o,none⟩) qs.length vc) qs) (J2:=[(w5.heap.size,.cells #[.int .i64 oc,.int .i64 op,.int .i64 of,.int .i64 ov] 89 (0,0))]) hRr ((ae _ w5).alloc ab (.cells #[.int .i64 oc,.int .i64 op,.int .i64 of,.int .i64 ov] 89)) (fun p hp=>by
         rw[aN.1 hp];exact⟨ab,heap_alloc_new w5 _⟩) (fun _ _ _ hh=>hh)
        rw[show J++K++[(wr.heap.size,iJ p ep S ex se sq (.slice sa sl sc))]++[(w5.heap.size,.cells #[.int .i64 oc,.int .i64 op,.int .i64 of,.int .i64 ov] 89 (0,0))]=J++K++[(wr.heap.size,iJ p ep S ex se sq (.slice sa sl sc)),(w5.heap.size,.cells #[.int .i64 oc,.int .i64 op,.int .i64 of,.int .i64 ov] 89 (0,0))]by simp]at h9;exact h9)⟩
       |exact⟨_,rfl,ad (by
        have hg:=dG w5 W6.heap.size (.int .i64 oc) (.int .i64 op) (.int .i64 of) (.int .i64 ov);have hne:∀p∈J++K,p.1≠W6.heap.size:=fun p hp e=>by
         have h1:=(aA.1 (HRI.out.bj p hp)).1;have h2:=HQ.out.2.1;omega
        refine HX2.out.oL hRr (ax.cq hg ⟨(W6.heap.size,.cells #[.int .i64 0,.int .i64 0,.int .i64 0,.int .i64 0] 89 (0,0)),by simp,rfl⟩) (fun p hp=>?_) (fun _ _ _ hh=>hh);rcases aK.1 hp with hp|hp
        ·have h1:=HX2.out.bj p (aH _ hp);exact⟨.inl ⟨p,aH _ hp,rfl⟩,(hg.block p.1 (aA.1 h1).1 (by have:=hne p hp;simpa using this)).trans h1⟩
        ·simp only[List.mem_cons,List.not_mem_nil,or_false]at hp;rcases hp with rfl|rfl
         ·have h1:=HX2.out.bj (wr.heap.size,iJ p ep S ex se sq (.slice sa sl sc)) (by simp);exact⟨.inl ⟨(wr.heap.size,iJ p ep S ex se sq (.slice sa sl sc)),by simp,rfl⟩,(hg.block wr.heap.size (aA.1 h1).1 (by have:=HQ.out.2.1;simp;omega)).trans h1⟩
         ·exact⟨.inl ⟨(W6.heap.size,.cells #[.int .i64 0,.int .i64 0,.int .i64 0,.int .i64 0] 89 (0,0)),by simp,rfl⟩,iH HZQ.out _ _ _ _⟩)⟩
     case rest =>
      obtain⟨b8,rfl,HX⟩:=hcut;obtain⟨y0,y1,y2,y3,y4,y5,y6⟩:=bG.cells (HX.out.bj (wr.heap.size,iJ p ep S ex se sq (.slice sa sl sc)) (by simp));have ho8:cX wc b8 ⟨oc,op,of,ov⟩:=HX.out.bj (b8,.cells #[.int .i64 oc,.int .i64 op,.int .i64 of,.int .i64 ov] 89 (0,0)) (by simp);obtain⟨g0,g1,g2,g3⟩:=ho8.cells;have hbD:Below wc.heap.size wc (wc.alloc (.cells #[.int .i64 p,.int .i64 ep,.string S,.int .i64 ex,.int .i64 se,.int .i64 sq,.slice sa sl sc,.int .i64 oc,.int .i64 op,.int .i64 of,.int .i64 ov] 149)):=(ae _ wc).alloc ab _;have hownc:wc.ownsRow w.heap.size 149 11 (.slice xa i xc) i (dQ dn):=fv HOW.out (fun g hg _=>by
       rcases HOJ.out with⟨h0,_⟩|⟨g1,o1,h1,hK⟩
       ·rw[h0]at hg;cases hg
       ·rw[h1]at hg;cases hg;rw[HX.out.bj (_,o1) (by rw[hK];simp),HRI.out.bj (_,o1) (by rw[hK];simp)])
      have hownD:=bX hownc hbD;have hxD:Cells (wc.alloc (.cells #[.int .i64 p,.int .i64 ep,.string S,.int .i64 ex,.int .i64 se,.int .i64 sq,.slice sa sl sc,.int .i64 oc,.int .i64 op,.int .i64 of,.int .i64 ov] 149)) (.slice (some ⟨wc.heap.size,0,none⟩) 1 1) 11 1 (dQ [(q,⟨oc,op,of,ov⟩)]):=by
       rw[xp HV.out];refine⟨rfl,.inr ⟨wc.heap.size,0,1,rfl,fun j u hj=>?_⟩⟩;rw[aw (heap_alloc_new wc _)]
       match j with
       |0|1|2|3|4|5|6|7|8|9|10=>simpa using hj
       |j+11=>simp at hj
      have honeD:∀u∈dQ [(q,(⟨oc,op,of,ov⟩:cI))],u.oneCell'=true:=by
       rw[xp HV.out];simp[Value.oneCell']
      have hbase:w.heap.size<=(wc.alloc (.cells #[.int .i64 p,.int .i64 ep,.string S,.int .i64 ex,.int .i64 se,.int .i64 sq,.slice sa sl sc,.int .i64 oc,.int .i64 op,.int .i64 of,.int .i64 ov] 149)).heap.size:=by
       have h2:wr.heap.size<wc.heap.size:=(aA.1 (HX.out.bj (wr.heap.size,iJ p ep S ex se sq (.slice sa sl sc)) (by simp))).1;rw[World.size_alloc];omega
      have HBS:=ad hbase;have HOD:=ad (aB hownD (aB hxD (aB honeD hbase)));have HXD:=ad (HX.out.next hRr hbD);clear hownc hownD hxD honeD hbase hbD ho8 HA1 HA2 HKS HX;go_wp2_with (at_builtin;refine sW rfl _ _ rfl Ln w.heap.size (.slice xa i xc) i (dQ dn) rfl HOD.out.1 _ 1 (dQ [(q,⟨oc,op,of,ov⟩)]) rfl HOD.out.2.1 HOD.out.2.2.1 (by omega) HOD.out.2.2.2 ?_);intro v' w10 hown hg hbl;obtain⟨ya,yc,rfl⟩:=aJ (aj hown);obtain⟨K',hO',hR'⟩:=HXD.out.appended hRr HOJ.out hJ (fun g hgg=>(HOW.out.lt g hgg).1) hown hg (by rw[World.size_alloc];exact hbl);have HFI:=ad (aB hown (aB hO' (aB hR' (show w.heap.size<=w10.heap.size from Nat.le_trans HBS.out hg.size))));clear hown hg hbl hO' hR' HXD HOD;go_wp2;refine⟨⟨i+1,ya,yc,dn++[(q,⟨oc,op,of,ov⟩)],K',rfl,by go_num,by omega,by simp[hdn],HFI.out.2.2.2,ad ?_,ad (fun p hp=>by
       rcases aK.1 hp with hp|hp
       ·exact HSL.out p hp
       ·rw[aN.1 hp];exact⟨_,_,_,HQ2.out⟩),ad ?_,ad HFI.out.2.1,ad ?_⟩,by simp[intOf];omega⟩
      ·rw[HPLA.out,List.map_append,HD.out];rfl
      ·rw[vN];exact HFI.out.1
      ·rw[HPLA.out];exact HFI.out.2.2.1
    ·obtain rfl:i=qs.length:=by omega
     have hpl:(ag qs).take qs.length=cj st n s.es:=by
      rw[HL.out,<-HPL.out,List.take_of_length_le (by simp[ag])]
     rw[hpl]at HD HRI;have HFIN:=ad HRI.out.jA;have HDN:=ad hdn;have HOW2:=ad (show wr.ownsRow w.heap.size 149 11 (.slice xa dn.length xc) dn.length (dQ dn)by rw[hdn];exact HOW.out);have HOJ2:=ad (show tF (.slice xa dn.length xc) K by rw[hdn];exact HOJ.out);clear hpl hdn HRI HOW HOJ;go_wp2;go_ret;exact⟨xa,xc,dn,K,by rw[HDN.out];rfl,HD,HSL,HOW2,HOJ2.out,HFIN.out⟩
end
end Go.Proofs.YtmgmknmaepjnoaaGreatDoor
