/-
  A node at its block, and what is kept with it; what it says, what was said.
-/
import Derived.Test.YtmgmknmaepjnoaaGreatDoorViwB
import Derived.Test.YtmgmknmaepjnoaaGreatDoorMeP3
namespace Go.Proofs.YtmgmknmaepjnoaaGreatDoor
open Go.RowKit Go.Shelf Proofs.Tryz
section
variable {R:(Nat->Prop)->(Nat->Prop)->World->Prop} {a w w':World} {r lg d sb:Nat} {room:Int} {s:Lg.S} {fs:List Dk.ai} {st:Stat} {J:List (Nat×Obj)}
theorem RR.sub {J':List (Nat×Obj)} (h:RR R J a r lg d sb room s fs st w) (hR:aC a R) (hs:∀p∈J',p∈J):RR R J' a r lg d sb room s fs st w :=
 h.IW hR (ax.wide (f1:=fun _=>False) (ax.aI (ae _ w)) (fun _ e=>e.elim)) (fun _ ⟨p,hp,e⟩=>⟨p,hs p hp,e⟩) (fun p hp=>h.bj p (hs p hp))
end
structure KZ where
 no:Int
 cl:Int
 id:Int
 sm:ByteArray
 fr:Int
def EN (w:World) (q:Option KZ) (mb:Nat):Prop:=match q with
 |none=>w.ownsMap prog 3 bJ mb 0 (DataW.map [])
 |some q=>∃b,w.ownsMap prog 3 bJ mb 1 ((DataW.map []).put (.int .i64 q.no) (.held (.pointer (some ⟨b,0,none⟩))))/\w.heap[b]?=some (.cells #[.int .i64 q.cl,.int .i64 q.id,.string q.sm,.int .i64 q.fr] 155 (0,0))
structure Nd where
 id:Int
 vU:Int
 d:Nat
 r:Nat
 v:Vw
 ez:Int
 q:Option KZ
 asked:Int
 saved:Int
 outs:List (Int×Value)
structure KT where
 A:q_gk
 mb:Nat
 oa:Option Addr
 oc:Nat
def dJ (N:Nd) (P:KT):Obj:=.cells #[.int .i64 N.id,.int .i64 N.vU,.pointer (some ⟨N.d,0,none⟩),.pointer (some ⟨N.r,0,none⟩),.int .i64 N.v.ep,.slice P.A.ca N.v.ch.length P.A.cc,.slice P.A.sa N.v.si.length P.A.sc,.slice P.A.ba N.v.bo.length P.A.bc,.int .i64 N.ez,.map (some P.mb),.int .i64 N.asked,.int .i64 N.saved,.slice P.oa N.outs.length P.oc] 109 (0,0)
def cU (l:List (Int×Value)):List Value:=l.flatMap fun p=>[.int .i64 p.1,p.2]
theorem lW (l:List (Int×Value)) (p:Int×Value):cU (l++[p])=cU l++[.int .i64 p.1,p.2]:=by simp[cU]
def Lz (N:Nd) (P:KT) (K:List (Nat×Obj)):Prop:=∀W:World,(∀p∈K,W.heap[p.1]?=some p.2)->fE W N.v P.A/\EN W N.q P.mb
def AL (oa:Option Addr) (oc:Nat) (l:List (Int×Value)) (K:List (Nat×Obj)):Prop :=
 tF (.slice oa l.length oc) K/\∀W:World,(∀p∈K,W.heap[p.1]?=some p.2)->∀B,(∀p∈K,B<=p.1)->W.ownsRow B 62 2 (.slice oa l.length oc) l.length (cU l)
def Sep (nb:Nat) (K J:List (Nat×Obj)):Prop:=(∀p∈K,p.1≠nb)/\∀p∈J,p.1≠nb/\∀q∈K,p.1≠q.1
def IQ (K Ko:List (Nat×Obj)):Prop:=∀p∈K,∀q∈Ko,p.1≠q.1
def ah (R:(Nat->Prop)->(Nat->Prop)->World->Prop) (J:List (Nat×Obj)) (a:World) (nb lg sb:Nat) (room:Int) (s:Lg.S) (fs:List Dk.ai) (st:Stat) (N:Nd) (w:World):Prop :=
 ∃P K Ko,Lz N P K/\AL P.oa P.oc N.outs Ko/\(Sep nb (K++Ko) J/\IQ K Ko)/\RR R ((nb,dJ N P)::(K++Ko)++J) a N.r lg N.d sb room s fs st w
theorem cM {w:World} {nb:Nat} {N:Nd} {P:KT} (h:w.heap[nb]?=some (dJ N P)):w.cell? ⟨nb,0,none⟩=some (.int .i64 N.id)/\w.cell? ⟨nb,1,none⟩=some (.int .i64 N.vU)/\w.cell? ⟨nb,2,none⟩=some (.pointer (some ⟨N.d,0,none⟩))/\w.cell? ⟨nb,3,none⟩=some (.pointer (some ⟨N.r,0,none⟩))/\w.cell? ⟨nb,4,none⟩=some (.int .i64 N.v.ep) /\
 w.cell? ⟨nb,5,none⟩=some (.slice P.A.ca N.v.ch.length P.A.cc)/\w.cell? ⟨nb,6,none⟩=some (.slice P.A.sa N.v.si.length P.A.sc)/\w.cell? ⟨nb,7,none⟩=some (.slice P.A.ba N.v.bo.length P.A.bc)/\w.cell? ⟨nb,8,none⟩=some (.int .i64 N.ez)/\w.cell? ⟨nb,9,none⟩=some (.map (some P.mb))/\w.cell? ⟨nb,10,none⟩=some (.int .i64 N.asked)/\w.cell? ⟨nb,11,none⟩=some (.int .i64 N.saved)/\w.cell? ⟨nb,12,none⟩=some (.slice P.oa N.outs.length P.oc):=by
 refine⟨?_,?_,?_,?_,?_,?_,?_,?_,?_,?_,?_,?_,?_⟩ <;> (rw[aw h];rfl)
section
variable {R:(Nat->Prop)->(Nat->Prop)->World->Prop} {a w w':World} {nb lg sb:Nat} {room:Int} {s:Lg.S} {fs:List Dk.ai} {st:Stat} {J:List (Nat×Obj)} {N:Nd}
theorem ah.next (h:ah R J a nb lg sb room s fs st N w) (hR:aC a R) (hb:Below w.heap.size w w'):ah R J a nb lg sb room s fs st N w':=by
 obtain⟨P,K,Ko,h1,h2,hd,h3⟩:=h;exact⟨P,K,Ko,h1,h2,hd,h3.next hR hb⟩
theorem RR.C9 {T:Nat->Prop} {r d:Nat} {o o':Obj} {Kx Kx':List (Nat×Obj)} (q3:RR R ((nb,o)::Kx++J) a r lg d sb room s fs st w) (nd:Sep nb Kx J) (hR:aC a R) (ht:ax T w w') (hT:∀j,T j->j=nb\/∃p∈Kx,p.1=j) (hnb:w'.heap[nb]?=some o')
 (hK:∀p∈Kx',((∃q∈Kx,q.1=p.1)\/w.heap.size<=p.1)/\w'.heap[p.1]?=some p.2):Sep nb Kx' J/\RR R ((nb,o')::Kx'++J) a r lg d sb room s fs st w':=by
 have hlt:∀p∈(nb,o)::Kx++J,p.1<w.heap.size:=fun p hp=>(aA.1 (q3.bj p hp)).1;have hnbl:=hlt (nb,o) (by simp);have hJ:∀p∈J,¬T p.1:=fun p hp hTp=>by
  rcases hT _ hTp with e|⟨q,hq,e⟩
  ·exact(nd.2 p hp).1 e
  ·exact(nd.2 p hp).2 q hq e.symm
 refine⟨⟨fun p hp e=>?_,fun p hp=>⟨(nd.2 p hp).1,fun q hq e=>?_⟩⟩,q3.oL hR (ht.wide fun j hj=>?_) (fun p hp=>?_) (fun _ _ _ hh=>hh)⟩
 ·rcases (hK p hp).1 with⟨q,hq,e2⟩|e2
  ·exact nd.1 q hq (e2.trans e)
  ·omega
 ·rcases (hK q hq).1 with⟨z,hz,e2⟩|e2
  ·exact(nd.2 p hp).2 z hz (e.trans e2.symm)
  ·have:=hlt p (by simp[hp]);omega
 ·rcases hT j hj with rfl|⟨p,hp,rfl⟩
  ·exact⟨(j,o),by simp,rfl⟩
  ·exact⟨p,by simp[hp],rfl⟩
 ·rcases aK.1 hp with hp|hp
  ·rcases List.mem_cons.1 hp with rfl|hp
   ·exact⟨.inl ⟨(nb,o),by simp,rfl⟩,hnb⟩
   ·refine⟨?_,(hK p hp).2⟩;rcases (hK p hp).1 with⟨q,hq,e⟩|e
    ·exact .inl ⟨q,by simp[hq],e⟩
    ·exact .inr e
  ·have hw:=q3.bj p (by simp[hp]);exact⟨.inl ⟨p,by simp[hp],rfl⟩,(ht.block p.1 (aA.1 hw).1 (hJ p hp)).trans hw⟩
theorem ah.heap (h:ah R J a nb lg sb room s fs st N w):∃P,w.heap[nb]?=some (dJ N P)/\fE w N.v P.A/\EN w N.q P.mb:=by
 obtain⟨P,K,Ko,h1,h2,hd,h3⟩:=h;have h4:=h1 w fun p hp=>h3.bj p (by simp[hp]);exact⟨P,h3.bj (nb,dJ N P) (by simp),h4.1,h4.2⟩
theorem ah.env (h:ah R J a nb lg sb room s fs st N w):Env w:=by obtain⟨P,K,Ko,h1,h2,hd,h3⟩:=h;exact h3.env
theorem ah.below (h:ah R J a nb lg sb room s fs st N w):Below a.heap.size a w:=by obtain⟨P,K,Ko,h1,h2,hd,h3⟩:=h;exact h3.below
theorem ah.ok (h:ah R J a nb lg sb room s fs st N w):st.Ok:=by obtain⟨P,K,Ko,h1,h2,hd,h3⟩:=h;exact h3.ok
theorem ah.rep (h:ah R J a nb lg sb room s fs st N w):∃J':List (Nat×Obj),RR R J' a N.r lg N.d sb room s fs st w /\
 ∀(R':(Nat->Prop)->(Nat->Prop)->World->Prop) (s':Lg.S) (fs':List Dk.ai) (st':Stat) (W:World),RR R' J' a N.r lg N.d sb room s' fs' st' W->ah R' J a nb lg sb room s' fs' st' N W:=by
 obtain⟨P,K,Ko,h1,h2,hd,h3⟩:=h;exact⟨_,h3,fun R' s' fs' st' W h4=>⟨P,K,Ko,h1,h2,hd,h4⟩⟩
end
theorem eJ {P:Program} {ops:Array Oper} {rest:List Oper} {o:Oper} {a:Act} {w:World} {Q:Exit->Act->World->Prop} (hgd:o.guard=none) (s x:Operand) {t e:TypeId} {sz:Nat}
 (ho:o.op=.call {callee:=.builtin .append,args:=#[s,x],argTypes:=#[t,t]}) (E:fh P t e sz) (v:Value) (n:Nat) (xs:List Value) (hs:a.eval s=v) (hown:w.ownsRow 0 e sz v n xs) (B:Nat) (news:List Value) (fr:Nat×Nat) (hx:a.eval x=.slice (some ⟨B,0,none⟩) 1 1) (ne:TypeId) (hB:w.heap[B]?=some (.cells news.toArray ne fr)) (hl:news.length=sz)
 (h1:∀u∈news,u.oneCell'=true) (hn:n<=1000000000)
 (h:∀g cap w',w'.ownsRow 0 e sz (.slice (some ⟨g,0,none⟩) (n+1) cap) (n+1) (xs++news)->w.grownBy w' v.ownBlock->(v.ownBlock=some g\/g=w.heap.size)->g<w'.heap.size->wpList P ops Q rest (a.put o.dst (.slice (some ⟨g,0,none⟩) (n+1) cap)) w') :
 wpList P ops Q (o::rest) a w:=by
 refine wpList_step fun K hK=>?_;exact nt hgd s x ho E v n xs hs hown B news fr hx ne hB hl h1 hn (fun g cap w' a b c d=>hK _ _ (h g cap w' a b c d))
theorem Hn:fh prog 28 62 2:=by
 have h:(prog.info? 62).map (fun i=>(i.zero,i.size,i.bytes))=some (some (.agg #[.int .i64 0,.nilIface]),2,24):=by kernel_rfl
 obtain⟨i0,hi,hz0,hz1,hz2⟩:=info_parts h;exact⟨underlying28,⟨i0,_,24,hi,hz0,hz1,hz2,rfl,by omega⟩,by omega⟩
section
variable {R:(Nat->Prop)->(Nat->Prop)->World->Prop} {a w w':World} {nb lg sb:Nat} {room:Int} {s:Lg.S} {fs:List Dk.ai} {st:Stat} {J:List (Nat×Obj)} {N:Nd}
set_option maxHeartbeats 8000000 in
set_option maxRecDepth 100000 in
theorem mx (dst:Int) (T:TypeId) (V:Value) (h:ah R J a nb lg sb room s fs st N w) (hR:aC a R) (hn:N.outs.length<=1000) :
 Calls prog 57 #[.pointer (some ⟨nb,0,none⟩),.int .i64 dst,.iface T V] w fun e w'=>e=.returned (.tuple #[])/\ah R J a nb lg sb room s fs st {N with outs:=N.outs++[(dst,.iface T V)]} w':=by
 obtain⟨P,K,Ko,h1,h2,hd,h3⟩:=h;have hh:w.heap[nb]?=some (dJ N P):=h3.bj (nb,dJ N P) (by simp);have hc:=(cM hh).2.2.2.2.2.2.2.2.2.2.2.2;obtain⟨W,hW⟩:∃W,w.alloc (.cells #[.int .i64 dst,.iface T V] 62)=W:=⟨_,rfl⟩;have bW:Below w.heap.size w W:=by rw[<-hW];exact an (ae _ w) _
 have hz:W.heap[w.heap.size]?=some (.cells #[.int .i64 dst,.iface T V] 62 (0,0)):=by rw[<-hW];exact heap_alloc_new w _
 have HOW:=ad (h2.2 w (fun p hp=>h3.bj p (by simp[hp])) 0 (fun _ _=>Nat.zero_le _));have HOWW:=ad (bX HOW.out bW);have HH:=ad hh;have HC:=ad (aB h1 (aB h2 (aB hd h3)));have HZ:=ad hz;have HBW:=ad bW;have HW:=ad hW;clear h1 h2 hd h3 hh bW hz hW;go_enter func57,ntmps57;go_wp2_with (at_builtin;refine eJ rfl _ _ rfl Hn (.slice P.oa N.outs.length P.oc) N.outs.length (cU N.outs) rfl (by rw[HW.out];exact HOWW.out) w.heap.size [.int .i64 dst,.iface T V] (0,0) rfl 62 (by rw[HW.out];exact HZ.out) rfl (by simp[Value.oneCell']) (by omega) ?_);intro g cap w2 hown hg hwh hlt;rw[HW.out]at hg;have hs:=hg.size;have hWs:W.heap.size=w.heap.size+1:=by rw[<-HW.out];simp
 have hnb:nb<w.heap.size:=(aA.1 HH.out).1;obtain⟨q1,q2,qd,q3⟩:=HC.out;have hKo:∀b,(Value.slice P.oa N.outs.length P.oc).ownBlock=some b->∃o,Ko=[(b,o)]:=fun b hb=>by
  rcases q2.1 with⟨h0,_⟩|⟨g',o',h1,h2⟩
  ·rw[h0]at hb;cases hb
  ·rw[h1]at hb;cases hb;exact⟨o',h2⟩
 have hne:∀b,(Value.slice P.oa N.outs.length P.oc).ownBlock=some b->b≠nb/\(∀p∈K,p.1≠b):=fun b hb=>by
  obtain⟨o',rfl⟩:=hKo b hb;exact⟨qd.1.1 (b,o') (by simp),fun p hp=>qd.2 p hp (b,o') (by simp)⟩
 have hnbW:W.heap[nb]?=some (dJ N P):=au HBW.out ab HH.out;have hnb2:w2.heap[nb]?=some (dJ N P):=(hg.block nb (by omega) (fun e=>(hne nb e.symm).1 rfl)).trans hnbW;have hgnb:g≠nb:=by
  rcases hwh with e|e
  ·exact(hne g e).1
  ·omega
 obtain⟨d0,d1,d2,d3,d4,d5,d6,d7,d8,d9,d10,d11,d12⟩:=cM hnb2;have f12:=ay hnb2 12;have HST:=ad (show(w2.setCell ⟨nb,12,none⟩ (.slice (some ⟨g,0,none⟩) (N.outs.length+1) cap)).heap[nb]?=some (dJ {N with outs:=N.outs++[(dst,.iface T V)]} {P with oa:=some ⟨g,0,none⟩,oc:=cap})by
  have:=av (i:=12) hnb2 (.slice (some ⟨g,0,none⟩) (N.outs.length+1) cap);rw[this];simp[dJ])
 have hT:ax (fun j=>j=nb\/∃p∈K++Ko,p.1=j) w (w2.setCell ⟨nb,12,none⟩ (.slice (some ⟨g,0,none⟩) (N.outs.length+1) cap)) :=
  ax.trans (ax.trans (f2:=fun j=>j=nb\/∃p∈K++Ko,p.1=j) (ax.aI HBW.out) (ax.gB hg (fun b hb=>by
   obtain⟨o',e⟩:=hKo b hb;exact .inr ⟨(b,o'),by simp[e],rfl⟩)) (fun j q=>.inl q)) (ax.cq (az w2 nb 12 _) (.inl rfl)) (fun j q=>.inl q)
 have hgc:(w2.setCell ⟨nb,12,none⟩ (.slice (some ⟨g,0,none⟩) (N.outs.length+1) cap)).heap[g]?=some (w2.heap[g]'hlt):=(Below.heap_setCell w2 ⟨nb,12,none⟩ _ g hgnb).trans (Array.getElem?_eq_getElem hlt);have hstep:=q3.C9 (o':=dJ {N with outs:=N.outs++[(dst,.iface T V)]} {P with oa:=some ⟨g,0,none⟩,oc:=cap}) (Kx':=K++[(g,w2.heap[g]'hlt)]) qd.1 hR hT (fun j hj=>hj) HST.out (fun p hp=>by
  rcases aK.1 hp with hp|hp
  ·have hw:=q3.bj p (by simp[hp]);have hp1:p.1≠nb:=qd.1.1 p (by simp[hp]);refine⟨.inl ⟨p,by simp[hp],rfl⟩,?_⟩;rw[Below.heap_setCell w2 ⟨nb,12,none⟩ _ p.1 hp1,hg.block p.1 (by have:=(aA.1 hw).1;omega) (fun e=>(hne p.1 e.symm).2 p hp rfl)];exact au HBW.out ab hw
  ·rw[aN.1 hp];refine⟨?_,hgc⟩;rcases hwh with e|e
   ·obtain⟨o',e2⟩:=hKo g e;exact .inl ⟨(g,o'),by simp[e2],rfl⟩
   ·exact .inr (by show w.heap.size<=g;omega))
 have hsepo:IQ K [(g,w2.heap[g]'hlt)]:=fun p hp q hq e=>by
  rw[aN.1 hq]at e;rcases hwh with e2|e2
  ·exact(hne g e2).2 p hp e
  ·have:=(aA.1 (q3.bj p (by simp[hp]))).1;simp only at e;omega
 have HX:=ad (show ah R J a nb lg sb room s fs st {N with outs:=N.outs++[(dst,.iface T V)]} (w2.setCell ⟨nb,12,none⟩ (.slice (some ⟨g,0,none⟩) (N.outs.length+1) cap))from
  ⟨{P with oa:=some ⟨g,0,none⟩,oc:=cap},K,[(g,w2.heap[g]'hlt)],q1,⟨.inr ⟨g,_,rfl,rfl⟩,fun Z hZ B hB=>by
   have hZ:=hZ (g,w2.heap[g]'hlt) (by simp);have hB:=hB (g,w2.heap[g]'hlt) (by simp);simp only[List.length_append,List.length_cons,List.length_nil];rw[lW];refine⟨hown.1,.inr ?_⟩;rcases hown.2 with⟨e,_⟩|⟨g2,cap2,cur,e,_,hcur,e3,e4,e5,e6⟩
   ·cases e
   ·simp only[Value.slice.injEq,Option.some.injEq,Addr.mk.injEq,and_true,true_and]at e;obtain⟨e1,e2⟩:=e;subst e1;subst e2;refine⟨_,_,cur,rfl,hB,?_,e3,e4,e5,e6⟩;rw[hZ,<-hcur,Array.getElem?_eq_getElem hlt]⟩,⟨hstep.1,hsepo⟩,hstep.2⟩)
 clear hown hg hwh hlt hs hWs hnb q1 q2 qd q3 hKo hne hnbW hnb2 hgnb hT hgc hstep hsepo HST HC HH HOW HOWW HZ HBW HW;go_wp2;go_end0;exact⟨rfl,HX.out⟩
end
namespace Lg
def je:List UInt8:=[115,110,97,112]
def K9 (b:ByteArray):Dk.ai:=⟨je,b,b.size⟩
theorem A6:af.numberOf je=0:=by
 unfold af.numberOf je;simp[Lib.parseUint10]
theorem yT:je≠af.bQ:=by decide
theorem yV:je≠al.file:=by decide
theorem yU:je≠al.mark:=by decide
def eR:List UInt8:=[114,101,97,100,121]
def fM (b:ByteArray):Dk.ai:=⟨eR,b,b.size⟩
theorem zj:af.numberOf eR=0:=by
 unfold af.numberOf eR;simp[Lib.parseUint10]
theorem pT:eR≠al.mark:=by decide
theorem xW:eR≠je:=by decide
def gF (k:List UInt8):Prop:=k=al.mark\/k=je\/k=eR
theorem gF.facts {k:List UInt8} (h:gF k):k≠al.file/\k≠af.bQ/\af.numberOf k=0:=by
 rcases h with rfl|rfl|rfl
 ·exact⟨al.zR,al.zQ,BC⟩
 ·exact⟨yV,yT,A6⟩
 ·exact⟨by decide,by decide,zj⟩
theorem gF.pR {k:List UInt8} (h:gF k) {next:Int} {ar:List Int} (hr:al.right next ar=true):∀n∈ar,k≠af.nameOf n:=fun n hn e=>by
 have h1:=(al.dC hr).2.2.2 n hn;have h2:=(al.dC hr).2.1;have:=h.facts.2.2;rw[e,af.jL n (by omega) (by omega)]at this;omega
structure Ex (ex:List Dk.ai) (es:List Int) (sn rd:Option ByteArray):Prop where
 o:mX ex
 m:Dk.look ex al.mark=if es=[] then none else some (al.eO es)
 s:Dk.look ex je=sn.map K9
 r:Dk.look ex eR=rd.map fM
 n:∀k,¬gF k->Dk.look ex k=none
theorem Ex.nil:Ex [] [] none none:=⟨uk,rfl,rfl,rfl,fun _ _=>rfl⟩
theorem Ex.put {ex:List Dk.ai} {es:List Int} {sn rd:Option ByteArray} (h:Ex ex es sn rd) (y:Dk.ai) (hy:gF y.name) (hs:y.synced=y.bytes.size):mX (Dk.put y ex)/\∀k,¬gF k->Dk.look (Dk.put y ex) k=none:=by
 have hn:∀k,¬gF k->Dk.look (Dk.put y ex) k=none:=fun k hk=>by
  rw[Dk.aG y (fun e=>hk (by rw[e];exact hy))];exact h.n k hk
 have hso:=Dk.sorted_put y _ h.o.sorted;refine⟨⟨hso,hn _ fun e=>e.facts.1 rfl,hn _ fun e=>e.facts.2.1 rfl,fun x hx=>?_,fun x hx=>?_,?_⟩,hn⟩
 ·rcases Dk.rT y _ _ hx with rfl|hx
  ·exact hy.facts.2.2
  ·exact h.o.number x hx
 ·rcases Dk.rT y _ _ hx with rfl|hx
  ·exact hs
  ·exact h.o.sync x hx
 ·have:=(lA [al.mark,je,eR] (Dk.put y ex) hso fun k hk=>by
   refine Classical.byContradiction fun e=>hk (hn k fun b=>e ?_);rcases b with rfl|rfl|rfl <;> simp).2
  simp only[List.length_cons,List.length_nil]at this;omega
theorem Ex.mark {ex:List Dk.ai} {es es2:List Int} {sn rd:Option ByteArray} (h:Ex ex es sn rd) (h2:es2≠[]):Ex (Dk.put (al.eO es2) ex) es2 sn rd:=by
 obtain⟨h1,h3⟩:=h.put (al.eO es2) (.inl rfl) rfl;refine⟨h1,?_,?_,by rw[Dk.aG (al.eO es2) (show eR≠(al.eO es2).name from pT)];exact h.r,h3⟩
 ·rw[if_neg h2];exact Dk.a8 (al.eO es2) ex
 ·rw[Dk.aG (al.eO es2) (show je≠(al.eO es2).name from yU)];exact h.s
theorem Ex.ready {ex:List Dk.ai} {es:List Int} {sn rd:Option ByteArray} (h:Ex ex es sn rd) (b:ByteArray):Ex (Dk.put (fM b) ex) es sn (some b):=by
 obtain⟨h1,h3⟩:=h.put (fM b) (.inr (.inr rfl)) rfl;refine⟨h1,?_,?_,Dk.a8 (fM b) ex,h3⟩
 ·rw[Dk.aG (fM b) (show al.mark≠(fM b).name from fun e=>pT e.symm)];exact h.m
 ·rw[Dk.aG (fM b) (show je≠(fM b).name from fun e=>xW e.symm)];exact h.s
section
variable {ex fs:List Dk.ai} {next:Int} {ar:List Int} {L:List Evt.Entry} {es:List Int} {sn rd:Option ByteArray}
theorem Holds.wP (h:Holds ex fs next ar L) (y:Dk.ai) (hy:gF y.name) (ho:mX (Dk.put y ex)):Holds (Dk.put y ex) (Dk.put y fs) next ar L:=by
 obtain⟨h1,h2,h3⟩:=hy.facts;refine⟨Dk.sorted_put _ _ h.sorted,h.right,?_,fun i n hi=>?_,fun k hk hks=>?_,ho,h.lo,h.low,h.high,h.l9⟩
 ·rw[Dk.aG y h1.symm];exact h.pW
 ·rw[Dk.aG y (hy.pR h.right n (List.mem_of_getElem? hi)).symm];exact h.pR i n hi
 ·by_cases e:k=y.name
  ·subst e;rw[Dk.a8 y,Dk.a8 y]
  ·rw[Dk.aG y e,Dk.aG y e];exact h.oth k hk hks
theorem Holds.DS (h:Holds ex fs next ar L) {k:List UInt8} (hk:gF k):Dk.look fs k=Dk.look ex k:=h.oth k hk.facts.1 (hk.pR h.right)
theorem Holds.CL (h:Holds ex fs next ar L) (hx:Ex ex es sn rd) (hm:al.gx 0 es):al.cx fs=(al.iu 0 es,es.length,true):=by
 have hl:=h.DS (.inl rfl:gF al.mark);rw[hx.m]at hl;by_cases e:es=[]
 ·subst e;rw[if_pos rfl]at hl;exact al.BX hl
 ·rw[if_neg e]at hl;exact al.Gn hm hl
theorem Holds.Hs (room e:Int) (h:Holds ex fs next ar L) (hx:Ex ex es sn rd) (hfull:¬room-(Dk.total fs:Int)<((al.ey e).size:Int)) (hlen:fs.length<40) :
 ∃y,Dk.append room al.mark (al.ey e) fs=(y,0)/\Dk.sync al.mark y=(Dk.put (al.eO (es++[e])) fs,0):=by
 have hmk:=h.DS (.inl rfl:gF al.mark);rw[hx.m]at hmk;by_cases he:es=[]
 ·subst he;rw[if_pos rfl]at hmk;refine⟨Dk.put ⟨al.mark,al.ey e,0⟩ fs,?_,?_⟩
  ·unfold Dk.append;rw[if_neg (by rw[al.uu];simp),if_neg (by omega),if_neg (by omega),hmk];rfl
  ·have hl:=Dk.a8 ⟨al.mark,al.ey e,0⟩ fs;have hl:Dk.look (Dk.put ⟨al.mark,al.ey e,0⟩ fs) al.mark=some ⟨al.mark,al.ey e,0⟩:=hl;unfold Dk.sync;rw[hl];simp only[Prod.mk.injEq,and_true];have hx:(⟨al.mark,al.ey e,(al.ey e).size⟩:Dk.ai)=al.eO ([]++[e]):=by
    have:al.ey e=⟨(al.gj ([]++[e])).toArray⟩:=by rw[<-qT];apply ByteArray.ext;simp[al.gj]
    unfold al.eO;rw[<-this]
   rw[hx];exact Ct h.sorted rfl
 ·rw[if_neg he]at hmk;refine⟨Dk.put ⟨al.mark,(al.eO es).bytes++al.ey e,(al.eO es).synced⟩ fs,?_,?_⟩
  ·unfold Dk.append;rw[if_neg (by rw[al.uu];simp),hmk,if_neg (by simp),if_neg (by omega)];rfl
  ·have hl:=Dk.a8 ⟨al.mark,(al.eO es).bytes++al.ey e,(al.eO es).synced⟩ fs;have hl:Dk.look (Dk.put ⟨al.mark,(al.eO es).bytes++al.ey e,(al.eO es).synced⟩ fs) al.mark=some ⟨al.mark,(al.eO es).bytes++al.ey e,(al.eO es).synced⟩:=hl;unfold Dk.sync;rw[hl];simp only[Prod.mk.injEq,and_true];have hx:(⟨al.mark,(al.eO es).bytes++al.ey e,((al.eO es).bytes++al.ey e).size⟩:Dk.ai)=al.eO (es++[e]):=by
    unfold al.eO;rw[<-qT]
   rw[hx];exact Ct h.sorted rfl
theorem Holds.Km (room e:Int) (h:Holds ex fs next ar L) (hx:Ex ex es sn rd) (hm:al.gx 0 es) (hn:es.length<=20) (hlt:al.iu 0 es<e) (hle:e<=274877906944) (hr:(Dk.total fs:Int)+20<=room) :
 ∃f2 ex2,al.jj room e fs=(f2,0)/\Holds ex2 f2 next ar L/\Ex ex2 (es++[e]) sn rd/\al.gx 0 (es++[e]):=by
 have h0:=(al.tu es 0 (Int.le_refl _) hm).1;have hep:=h.CL hx hm;have hlen:=h.len;have hr30:=(al.dC h.right).2.2.1;have hsz:(al.ey e).size<=14:=by
  have:=al.wW (es:=[e]) ⟨by omega,hle⟩;have h2:=qT [] e;have:(al.gj [e]).length=(al.ey e).size:=by
   rw[List.nil_append]at h2;have h3:=congrArg ByteArray.size h2;rw[Lib.size_eq,Lib.size_eq]at h3;rw[Lib.size_eq];simpa[al.gj]using h3.symm
  simp only[List.length_cons,List.length_nil]at *;omega
 have hs:=al.tZ es 0 e hm hlt hle;unfold al.jj;rw[if_neg (by omega),hep];simp only;rw[if_neg (by omega),if_neg (by omega)];have hkp:al.lC room e fs=Dk.append room al.mark (al.ey e) fs:=by
  unfold al.lC;rw[hep,if_pos ⟨rfl,hn⟩]
 obtain⟨y,q1,q2⟩:=h.Hs room e hx (by omega) (by omega);rw[hkp,q1,if_pos rfl];have hx2:=hx.mark (es2:=es++[e]) (by simp);exact⟨_,_,q2,h.wP _ (.inl rfl) hx2.o,hx2,hs⟩
end
theorem Ex.total {ex:List Dk.ai} {es:List Int} {rd:ByteArray} (h:Ex ex es none (some rd)) (hm:al.gx 0 es):Dk.total ex<=14*es.length+rd.size:=by
 have h1:=(lA [al.mark,je,eR] ex h.o.sorted fun k hk=>by
  refine Classical.byContradiction fun e=>hk (h.n k fun b=>e ?_);rcases b with rfl|rfl|rfl <;> simp).1
 have h2:fp ex al.mark<=14*es.length:=by
  unfold fp;rw[h.m];by_cases e:es=[]
  ·rw[if_pos e];exact Nat.zero_le _
  ·rw[if_neg e];have:=al.wW hm;simp only[al.eO];rw[Lib.size_eq];exact this
 have h3:fp ex je=0:=by unfold fp;rw[h.s];rfl
 have h4:fp ex eR=rd.size:=by unfold fp;rw[h.r];rfl
 simp only[List.map_cons,List.map_nil,List.sum_cons,List.sum_nil,h3,h4]at h1;omega
structure eK (rd:ByteArray) (E:Int) (k:Nat) (fs:List Dk.ai) (next:Int) (ar:List Int) (L:List Evt.Entry):Prop where
 ex:∃ex es,Holds ex fs next ar L/\Ex ex es none (some rd)/\al.gx 0 es/\es.length<=k/\al.iu 0 es=E
 rd:rd.size<=40
 k:k<=10
 e:dd L<=E
 x:next<=1+(L.length:Int)
section
variable {rd:ByteArray} {E next room:Int} {k:Nat} {fs:List Dk.ai} {ar:List Int} {L:List Evt.Entry}
theorem eK.uQ (h:eK rd E k fs next ar L):(al.cx fs).1=E:=by
 obtain⟨ex,es,h1,h2,h3,h4,h5⟩:=h.ex;rw[h1.CL h2 h3,h5]
theorem eK.l9 (h:eK rd E k fs next ar L):Evt.follows L 0 0=true:=by
 obtain⟨ex,es,h1,h2,h3,h4,h5⟩:=h.ex;exact h1.l9
theorem eK.low (h:eK rd E k fs next ar L):E<=274877906944/\0<=E:=by
 obtain⟨ex,es,h1,h2,h3,h4,h5⟩:=h.ex;rw[<-h5];have:=al.tu es 0 (Int.le_refl _) h3;exact⟨this.2,this.1⟩
theorem eK.bk (h:eK rd E k fs next ar L) (m:Nat) (hm:L.length+m<=400000):BK m (aL next ar L):=by
 obtain⟨ex,es,h1,h2,h3,h4,h5⟩:=h.ex;exact JK h1 m hm
theorem eK.Fw (h:eK rd E k fs next ar L):Dk.read eR fs=(rd,0):=by
 obtain⟨ex,es,h1,h2,h3,h4,h5⟩:=h.ex;have hl:=h1.DS (.inr (.inr rfl):gF eR);rw[h2.r]at hl;unfold Dk.read;rw[hl];rfl
theorem eK.raise {e:Int} (h:eK rd E k fs next ar L) (hk:k<=8) (he:E<e) (hle:e<=274877906944) (hl:L.length<=60) (hr:2000000<=room):∃f2,al.jj room e fs=(f2,0)/\eK rd e (k+1) f2 next ar L:=by
 obtain⟨ex,es,h1,h2,h3,h4,h5⟩:=h.ex;have ht:=h2.total h3;have hrd:=h.rd;have hk1:=h1.known.1;have hb:=pL L;have hr30:=(al.dC h1.right).2.2.1;have hms:=h1.zS;obtain⟨f2,ex2,q1,q2,q3,q4⟩:=h1.Km room e h2 h3 (by omega) (by omega) hle (by omega);have hn:=h.e;exact⟨f2,q1,⟨ex2,es++[e],q2,q3,q4,by simp;omega,al.uD es 0 e⟩,h.rd,by omega,by omega,h.x⟩
theorem eK.prop {b:Evt.Batch} (h:eK rd E k fs next ar L) (h1:1<=E) (hf:Evt.fits b=0) (hl:L.length<=50) (hr:2000000<=room) :
 ∃f2 n2 nums2,ma room b (aL next ar L) fs=((f2,aL n2 nums2 (L++[⟨(L.length:Int)+1,E,b⟩])),0)/\eK rd E k f2 n2 nums2 (L++[⟨(L.length:Int)+1,E,b⟩]):=by
 obtain⟨ex,es,g1,g2,g3,g4,g5⟩:=h.ex;have ht:=g2.total g3;have hrd:=h.rd;have hkk:=h.k;have hb:=pL (L++[(⟨(L.length:Int)+1,E,b⟩:Evt.Entry)]);have hlen:(L++[(⟨(L.length:Int)+1,E,b⟩:Evt.Entry)]).length=L.length+1:=by simp
 have hx:=h.x;obtain⟨f2,n2,nums2,q1,q2,q3⟩:=Hi (room:=room) (b:=b) g1 h.uQ h.low.1 hf h1 h.e (by omega) (by omega) (by omega);refine⟨f2,n2,nums2,q1,⟨ex,es,q2,g2,g3,g4,g5⟩,h.rd,h.k,?_,by omega⟩;rw[ml (e:=⟨(L.length:Int)+1,E,b⟩) (by simp)];exact Int.le_refl _
theorem eK.accept {x:Evt.Entry} {app:Int} (h:eK rd E k fs next ar L) (hf:Evt.follows (L++[x]) 0 0=true) (hx:x.epoch<=E) (hl:L.length<=50) (hr:2000000<=room) :
 ∃f2 n2 nums2,ku room (L.length:Int) (cR L (L.length:Int)).1 app [x] (aL next ar L) fs=((f2,aL n2 nums2 (L++[x])),0)/\eK rd E k f2 n2 nums2 (L++[x]):=by
 obtain⟨ex,es,g1,g2,g3,g4,g5⟩:=h.ex;have ht:=g2.total g3;have hrd:=h.rd;have hkk:=h.k;have hnx:=h.x;have htk:(L++[x]).take L.length=L:=by simp
 have hdr:((L++[x]).drop L.length).take 1=[x]:=by simp
 have hep:(cR (L++[x]) (L.length:Int)).1=(cR L (L.length:Int)).1:=by
  rw[rW (by simp),rW ab];simp
 obtain⟨f2,n2,nums2,j2,c,q1,q2,q3,q4,q5,q6⟩:=GI (L:=L++[x]) (j:=L.length) (k:=L.length) (m:=1) (room:=room) (app:=app) hf (by simp) (by simp) (by rw[htk];exact g1) (by simp;omega) (by omega) (by omega);obtain⟨rfl,q7⟩:=q6 ab;have hj:j2=L.length+1:=by simp at q7 q3;omega
 subst hj;have htk2:(L++[x]).take (L.length+1)=L++[x]:=by rw[List.take_of_length_le (by simp)]
 rw[htk2]at q1 q2;rw[htk,hdr,hep]at q1;refine⟨f2,n2,nums2,q1,⟨ex,es,q2,g2,g3,g4,g5⟩,h.rd,h.k,?_,by simp;omega⟩;rw[ml (e:=x) (by simp)];exact hx
end
end Lg
theorem Ez {a b:ByteArray} (h:a.data.toList=b.data.toList):a=b:=by
 apply ByteArray.ext;exact Array.toList_inj.1 h
def eG:ByteArray:=⟨(Frm.bH (Num.put (Num.held 1))).toArray⟩
theorem Jg:Num.held 1=1:=by decide
theorem Fx:Num.put (Num.held 1)=[1]:=by rw[Jg,Num.km 1 (by omega)];rfl
theorem s9:eG.data.toList=Frm.bH [1]:=by unfold eG;rw[Fx]
theorem oV:eG.size=9:=by rw[Lib.size_eq,s9,Frm.gy];rfl
theorem Jh:Frm.put (Num.put (Num.held 1))=(eG.data.toList,0):=by
 rw[Fx,s9];exact Frm.jk ⟨by simp,by simp⟩
set_option maxHeartbeats 4000000 in
theorem vw (d:Nat) (room:Int) (fs:List Dk.ai) (ft:Nat->Prop) (w:World) (h:bw w d room fs ft) (hr:Dk.read Lg.eR fs=(eG,0)) :
 Calls prog 53 #[.pointer (some ⟨d,0,none⟩)] w fun e w'=>e=.returned (.int .i64 1)/\Below w.heap.size w w':=by
 have HR:=gO d room fs ft ⟨#[114,101,97,100,121]⟩ w h (by decide);rw[show Dk.read (⟨#[114,101,97,100,121]⟩:ByteArray).data.toList fs=(eG,0)from hr]at HR;have HR:=ad HR;clear h hr;have HFT:=ad (lY eG w (by rw[oV];omega));have HF:=ad (show Frm.take eG.data.toList=([1],[],0)by
  have:=Frm.nI [1] [] (by simp) (by simp);rw[List.append_nil]at this;rw[s9];exact this)
 go_enter func53,ntmps53;go_wp2_with fail;refine HR.out.mono ?_;rintro e w1 ⟨rfl,rfl⟩;go_wp2_with fail;refine HFT.out.mono ?_;rintro e w1 ⟨p,r,c,rfl,hf,b1⟩;have hfx:=hf.out;rw[HF.out]at hfx;simp only[Prod.mk.injEq]at hfx;obtain⟨hp,hr,rfl⟩:=hfx;have HNT:=ad (fS p w1 (by rw[Lib.size_eq,<-hp];simp));have HN:=ad (show Num.take p.data.toList=(1,[],0)by
  have:=Num.gI 1 (by omega) [];rw[List.append_nil,Num.km 1 (by omega)]at this;rw[<-hp];exact this)
 have r0:r.toList.isEmpty=true:=by rw[Lib.toList_data,<-hr];rfl
 have HB1:=ad b1;clear b1 hf hp hr HFT HF HR;go_wp2_with fail;refine HNT.out.mono ?_;rintro e w2 ⟨n,q,c,rfl,hn,b2⟩;have hnx:=hn.out;rw[HN.out]at hnx;simp only[Prod.mk.injEq]at hnx;obtain⟨rfl,hq,rfl⟩:=hnx;have q0:q.toList.isEmpty=true:=by rw[Lib.toList_data,<-hq];rfl
 have HB2:=ad (Below.up HB1.out ab b2);clear b2 hn hq HNT HN;go_wp2;go_ret;exact⟨rfl,HB2.out⟩
set_option maxHeartbeats 4000000 in
theorem yj (a:World) (d:Nat) (room:Int) (fs:List Dk.ai) (ft:Nat->Prop) (w:World) (hA:fF a w ft) (h:bw w d room fs ft) :
 Calls prog 49 #[.pointer (some ⟨d,0,none⟩),.int .i64 1] w fun e w'=>e=.returned (.int .i64 ((al.fT room Lg.eR eG fs).2:Nat))/\DStep d room (al.fT room Lg.eR eG fs).1 ft w w':=by
 have HA0:=ad (aB hA h);obtain⟨F1,hF1⟩:∃F1,(Dk.delete af.bQ fs).1=F1:=⟨_,rfl⟩;obtain⟨⟨F2,c2⟩,hF2⟩:∃P,Dk.append room af.bQ eG F1=P:=⟨_,rfl⟩;have HC:=ad (show al.fT room Lg.eR eG fs=if c2=0 then Dk.rename af.bQ Lg.eR (Dk.sync af.bQ F2).1 else ((Dk.delete af.bQ F2).1,c2)by rw[al.fT,hF1,hF2]);obtain⟨X,hX,hXl,hXs⟩:=bf (Num.put (Num.held 1));have HNP:=ad (fun Z=>by have:=dF 1 Z;rw[hX]at this;exact this);have HFP:=ad (fun Z=>iB X Z (by rw[hXs];have:=Num.ct _ (Num.cB 1);omega));have HFX:=ad (show Frm.put X.data.toList=(eG.data.toList,0)by rw[hXl];exact Jh);clear hA h hX hXl hXs;go_enter func49,ntmps49;go_wp2_with fail;refine(HNP.out w).mono ?_;rintro e wa ⟨rfl,ba⟩;go_wp2_with fail;refine(HFP.out wa).mono ?_;rintro e wb ⟨r,c,rfl,hr,_,bb⟩;have hrc:=hr.out;rw[HFX.out]at hrc;simp only[Prod.mk.injEq]at hrc;obtain rfl:r=eG:=Ez hrc.1.symm;obtain rfl:=hrc.2;have hb:=ba.trans (bb.mono ba.size);have HA:=ad (HA0.out.1.next hb);have HDL:=ad (dO d room fs ft ⟨#[116,101,109,112]⟩ wb (HA0.out.2.next hb) (by decide));have HB:=ad hb;clear ba bb hr hrc hb HNP HFP HFX;go_wp2_with fail;refine HDL.out.mono ?_;rintro e w1 ⟨rfl,ft1,hd1,hf1,ht1⟩;rw[show(Dk.delete (⟨#[116,101,109,112]⟩:ByteArray).data.toList fs).1=F1 from hF1]at hd1;have HA1:=ad (HA.out.cJ ht1 hf1);have HT1:=ad (aB ht1 hf1);have HAP:=ad (iD d room F1 ft1 ⟨#[116,101,109,112]⟩ eG w1 HA1.out.fW hd1 (by decide) (by rw[oV];omega));clear HDL hd1 hf1 ht1;go_wp2_with fail;refine HAP.out.mono ?_;rintro e w2 ⟨rfl,ft2,hd2,hf2,ht2⟩;rw[show Dk.append room (⟨#[116,101,109,112]⟩:ByteArray).data.toList eG F1=(F2,c2)from hF2]at hd2 ⊢;have HA2:=ad (HA1.out.cJ ht2 hf2);have HT2:=ad (aB ht2 hf2);clear hF1 hF2 HAP;simp only at hd2 ⊢;by_cases h0:c2=0
 ·subst h0;have HC:=ad (HC.out.trans (if_pos rfl));have HS:=ad (gN d room F2 ft2 ⟨#[116,101,109,112]⟩ w2 hd2 (by decide));clear hd2 hf2 ht2;go_wp2_with fail;refine HS.out.mono ?_;rintro e w3 ⟨rfl,ft3,hd3,hf3,ht3⟩;have HA3:=ad (HA2.out.cJ ht3 hf3);have HT3:=ad (aB ht3 hf3);have HR:=ad (iC d room _ ft3 ⟨#[116,101,109,112]⟩ ⟨#[114,101,97,100,121]⟩ w3 HA3.out.fW hd3 (by decide) (by decide));clear hd3 hf3 ht3 HS;go_wp2_with fail;refine HR.out.mono ?_;rintro e w4 ⟨rfl,hds⟩;have HD:=ad (DStep.trans (ax.aI HB.out) (fun j hj=>.inl hj) (DStep.trans HT1.out.1 HT1.out.2 (DStep.trans HT2.out.1 HT2.out.2 (DStep.trans HT3.out.1 HT3.out.2 hds))));clear hds HR;go_wp2;go_ret;exact⟨by rw[HC.out];rfl,by rw[HC.out];exact HD.out⟩
 ·have HC:=ad (HC.out.trans (if_neg h0));have hc0:((c2:Int) != 0)=true:=by rw[bne_iff_ne];omega
  have HS:=ad (dO d room F2 ft2 ⟨#[116,101,109,112]⟩ w2 hd2 (by decide));clear hd2 hf2 ht2 h0;go_wp2_with fail;refine HS.out.mono ?_;rintro e w3 ⟨rfl,hds⟩;have HD:=ad (DStep.trans (ax.aI HB.out) (fun j hj=>.inl hj) (DStep.trans HT1.out.1 HT1.out.2 (DStep.trans HT2.out.1 HT2.out.2 hds)));clear hds HS;go_wp2;go_ret;exact⟨by rw[HC.out];rfl,by rw[HC.out];exact HD.out⟩
end Go.Proofs.YtmgmknmaepjnoaaGreatDoor
