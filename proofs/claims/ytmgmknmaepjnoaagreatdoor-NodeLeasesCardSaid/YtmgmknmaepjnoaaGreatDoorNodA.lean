/-
  A node at its block, and what is kept with it; what it says, what was said.
-/
import Derived.Test.YtmgmknmaepjnoaaGreatDoorViwB
import Derived.Test.YtmgmknmaepjnoaaGreatDoorMeP3
namespace Go.Proofs.YtmgmknmaepjnoaaGreatDoor
open Go.RowKit Go.Shelf Proofs.Tryz
section
variable {R:(Nat→Prop)→(Nat→Prop)→World→Prop} {a w w':World} {r lg d sb:Nat} {room:Int} {s:Lg.S} {fs:List Dk.ah} {st:Stat} {J:List (Nat×Obj)}
theorem RR.sub {J':List (Nat×Obj)} (h:RR R J a r lg d sb room s fs st w) (hR:aB a R) (hs:∀p∈J',p∈J):RR R J' a r lg d sb room s fs st w :=
 h.G' hR (ar.wide (f1:=fun _=>False) (ar.aG (ae _ w)) (fun _ e=>e.elim)) (fun _ ⟨p,hp,e⟩=>⟨p,hs p hp,e⟩) (fun p hp=>h.bf p (hs p hp))
end
structure JC where
 no:Int
 cl:Int
 id:Int
 sm:ByteArray
 fr:Int
def DL (w:World) (q:Option JC) (mb:Nat):Prop:=match q with
 |none=>w.ownsMap prog 3 bF mb 0 (DataW.map [])
 |some q=>∃b,w.ownsMap prog 3 bF mb 1 ((DataW.map []).put (.int .i64 q.no) (.held (.pointer (some ⟨b,0,none⟩))))∧w.heap[b]?=some (.cells #[.int .i64 q.cl,.int .i64 q.id,.string q.sm,.int .i64 q.fr] 155 (0,0))
structure Nd where
 id:Int
 uY:Int
 d:Nat
 r:Nat
 v:Vw
 eF:Int
 q:Option JC
 asked:Int
 saved:Int
 outs:List (Int×Value)
structure Jv where
 A:iy
 mb:Nat
 oa:Option Addr
 oc:Nat
def dA (N:Nd) (P:Jv):Obj:=.cells #[.int .i64 N.id,.int .i64 N.uY,.pointer (some ⟨N.d,0,none⟩),.pointer (some ⟨N.r,0,none⟩),.int .i64 N.v.ep,.slice P.A.ca N.v.ch.length P.A.cc,.slice P.A.sa N.v.si.length P.A.sc,.slice P.A.ba N.v.bo.length P.A.bc,.int .i64 N.eF,.map (some P.mb),.int .i64 N.asked,.int .i64 N.saved,.slice P.oa N.outs.length P.oc] 109 (0,0)
def cQ (l:List (Int×Value)):List Value:=l.flatMap fun p=>[.int .i64 p.1,p.2]
theorem lF (l:List (Int×Value)) (p:Int×Value):cQ (l++[p])=cQ l++[.int .i64 p.1,p.2]:=by simp[cQ]
def Kb (N:Nd) (P:Jv) (K:List (Nat×Obj)):Prop:=∀W:World,(∀p∈K,W.heap[p.1]?=some p.2)→gD W N.v P.A∧DL W N.q P.mb
def zL (oa:Option Addr) (oc:Nat) (l:List (Int×Value)) (K:List (Nat×Obj)):Prop :=
 sP (.slice oa l.length oc) K∧∀W:World,(∀p∈K,W.heap[p.1]?=some p.2)→∀B,(∀p∈K,B≤p.1)→W.ownsRow B 62 2 (.slice oa l.length oc) l.length (cQ l)
def Sep (nb:Nat) (K J:List (Nat×Obj)):Prop:=(∀p∈K,p.1≠nb)∧∀p∈J,p.1≠nb∧∀q∈K,p.1≠q.1
def G4 (K Ko:List (Nat×Obj)):Prop:=∀p∈K,∀q∈Ko,p.1≠q.1
def ak (R:(Nat→Prop)→(Nat→Prop)→World→Prop) (J:List (Nat×Obj)) (a:World) (nb lg sb:Nat) (room:Int) (s:Lg.S) (fs:List Dk.ah) (st:Stat) (N:Nd) (w:World):Prop :=
 ∃P K Ko,Kb N P K∧zL P.oa P.oc N.outs Ko∧(Sep nb (K++Ko) J∧G4 K Ko)∧RR R ((nb,dA N P)::(K++Ko)++J) a N.r lg N.d sb room s fs st w
theorem dj {w:World} {nb:Nat} {N:Nd} {P:Jv} (h:w.heap[nb]?=some (dA N P)):w.cell? ⟨nb,0,none⟩=some (.int .i64 N.id)∧w.cell? ⟨nb,1,none⟩=some (.int .i64 N.uY)∧w.cell? ⟨nb,2,none⟩=some (.pointer (some ⟨N.d,0,none⟩))∧w.cell? ⟨nb,3,none⟩=some (.pointer (some ⟨N.r,0,none⟩))∧w.cell? ⟨nb,4,none⟩=some (.int .i64 N.v.ep) ∧
 w.cell? ⟨nb,5,none⟩=some (.slice P.A.ca N.v.ch.length P.A.cc)∧w.cell? ⟨nb,6,none⟩=some (.slice P.A.sa N.v.si.length P.A.sc)∧w.cell? ⟨nb,7,none⟩=some (.slice P.A.ba N.v.bo.length P.A.bc)∧w.cell? ⟨nb,8,none⟩=some (.int .i64 N.eF)∧w.cell? ⟨nb,9,none⟩=some (.map (some P.mb))∧w.cell? ⟨nb,10,none⟩=some (.int .i64 N.asked)∧w.cell? ⟨nb,11,none⟩=some (.int .i64 N.saved)∧w.cell? ⟨nb,12,none⟩=some (.slice P.oa N.outs.length P.oc):=by
 refine⟨?_,?_,?_,?_,?_,?_,?_,?_,?_,?_,?_,?_,?_⟩ <;> (rw[aw h];rfl)
section
variable {R:(Nat→Prop)→(Nat→Prop)→World→Prop} {a w w':World} {nb lg sb:Nat} {room:Int} {s:Lg.S} {fs:List Dk.ah} {st:Stat} {J:List (Nat×Obj)} {N:Nd}
theorem ak.next (h:ak R J a nb lg sb room s fs st N w) (hR:aB a R) (hb:Below w.heap.size w w'):ak R J a nb lg sb room s fs st N w':=by
 obtain⟨P,K,Ko,h1,h2,hd,h3⟩:=h
 exact⟨P,K,Ko,h1,h2,hd,h3.next hR hb⟩
theorem RR.Cc {T:Nat→Prop} {r d:Nat} {o o':Obj} {Kx Kx':List (Nat×Obj)} (q3:RR R ((nb,o)::Kx++J) a r lg d sb room s fs st w) (nd:Sep nb Kx J) (hR:aB a R) (ht:ar T w w') (hT:∀j,T j→j=nb∨∃p∈Kx,p.1=j) (hnb:w'.heap[nb]?=some o')
 (hK:∀p∈Kx',((∃q∈Kx,q.1=p.1)∨w.heap.size≤p.1)∧w'.heap[p.1]?=some p.2):Sep nb Kx' J∧RR R ((nb,o')::Kx'++J) a r lg d sb room s fs st w':=by
 have hlt:∀p∈(nb,o)::Kx++J,p.1<w.heap.size:=fun p hp=>(aA.1 (q3.bf p hp)).1
 have hnbl:=hlt (nb,o) (by simp)
 have hJ:∀p∈J,¬T p.1:=fun p hp hTp=>by
  rcases hT _ hTp with e|⟨q,hq,e⟩
  ·exact(nd.2 p hp).1 e
  ·exact(nd.2 p hp).2 q hq e.symm
 refine⟨⟨fun p hp e=>?_,fun p hp=>⟨(nd.2 p hp).1,fun q hq e=>?_⟩⟩,q3.ot hR (ht.wide fun j hj=>?_) (fun p hp=>?_) (fun _ _ _ hh=>hh)⟩
 ·rcases (hK p hp).1 with⟨q,hq,e2⟩|e2
  ·exact nd.1 q hq (e2.trans e)
  ·omega
 ·rcases (hK q hq).1 with⟨z,hz,e2⟩|e2
  ·exact(nd.2 p hp).2 z hz (e.trans e2.symm)
  ·have:=hlt p (by simp[hp]);omega
 ·rcases hT j hj with rfl|⟨p,hp,rfl⟩
  ·exact⟨(j,o),by simp,rfl⟩
  ·exact⟨p,by simp[hp],rfl⟩
 ·rcases aO.1 hp with hp|hp
  ·rcases List.mem_cons.1 hp with rfl|hp
   ·exact⟨.inl ⟨(nb,o),by simp,rfl⟩,hnb⟩
   ·refine⟨?_,(hK p hp).2⟩
    rcases (hK p hp).1 with⟨q,hq,e⟩|e
    ·exact .inl ⟨q,by simp[hq],e⟩
    ·exact .inr e
  ·have hw:=q3.bf p (by simp[hp])
   exact⟨.inl ⟨p,by simp[hp],rfl⟩,(ht.block p.1 (aA.1 hw).1 (hJ p hp)).trans hw⟩
theorem ak.heap (h:ak R J a nb lg sb room s fs st N w):∃P,w.heap[nb]?=some (dA N P)∧gD w N.v P.A∧DL w N.q P.mb:=by
 obtain⟨P,K,Ko,h1,h2,hd,h3⟩:=h
 have h4:=h1 w fun p hp=>h3.bf p (by simp[hp])
 exact⟨P,h3.bf (nb,dA N P) (by simp),h4.1,h4.2⟩
theorem ak.env (h:ak R J a nb lg sb room s fs st N w):Env w:=by obtain⟨P,K,Ko,h1,h2,hd,h3⟩:=h;exact h3.env
theorem ak.below (h:ak R J a nb lg sb room s fs st N w):Below a.heap.size a w:=by obtain⟨P,K,Ko,h1,h2,hd,h3⟩:=h;exact h3.below
theorem ak.ok (h:ak R J a nb lg sb room s fs st N w):st.Ok:=by obtain⟨P,K,Ko,h1,h2,hd,h3⟩:=h;exact h3.ok
theorem ak.rep (h:ak R J a nb lg sb room s fs st N w):∃J':List (Nat×Obj),RR R J' a N.r lg N.d sb room s fs st w ∧
 ∀(R':(Nat→Prop)→(Nat→Prop)→World→Prop) (s':Lg.S) (fs':List Dk.ah) (st':Stat) (W:World),RR R' J' a N.r lg N.d sb room s' fs' st' W→ak R' J a nb lg sb room s' fs' st' N W:=by
 obtain⟨P,K,Ko,h1,h2,hd,h3⟩:=h
 exact⟨_,h3,fun R' s' fs' st' W h4=>⟨P,K,Ko,h1,h2,hd,h4⟩⟩
end
theorem eu {P:Program} {ops:Array Oper} {rest:List Oper} {o:Oper} {a:Act} {w:World} {Q:Exit→Act→World→Prop} (hgd:o.guard=none) (s x:Operand) {t e:TypeId} {sz:Nat}
 (ho:o.op=.call {callee:=.builtin .append,args:=#[s,x],argTypes:=#[t,t]}) (E:eU P t e sz) (v:Value) (n:Nat) (xs:List Value) (hs:a.eval s=v) (hown:w.ownsRow 0 e sz v n xs) (B:Nat) (news:List Value) (fr:Nat×Nat) (hx:a.eval x=.slice (some ⟨B,0,none⟩) 1 1) (ne:TypeId) (hB:w.heap[B]?=some (.cells news.toArray ne fr)) (hl:news.length=sz)
 (h1:∀u∈news,u.oneCell'=true) (hn:n≤1000000000)
 (h:∀g cap w',w'.ownsRow 0 e sz (.slice (some ⟨g,0,none⟩) (n+1) cap) (n+1) (xs++news)→w.grownBy w' v.ownBlock→(v.ownBlock=some g∨g=w.heap.size)→g<w'.heap.size→wpList P ops Q rest (a.put o.dst (.slice (some ⟨g,0,none⟩) (n+1) cap)) w') :
 wpList P ops Q (o::rest) a w:=by
 refine wpList_step fun K hK=>?_
 exact mQ hgd s x ho E v n xs hs hown B news fr hx ne hB hl h1 hn (fun g cap w' a b c d=>hK _ _ (h g cap w' a b c d))
theorem Gf:eU prog 28 62 2:=by
 have h:(prog.info? 62).map (fun i=>(i.zero,i.size,i.bytes))=some (some (.agg #[.int .i64 0,.nilIface]),2,24):=by kernel_rfl
 obtain⟨i0,hi,hz0,hz1,hz2⟩:=info_parts h
 exact⟨underlying28,⟨i0,_,24,hi,hz0,hz1,hz2,rfl,by omega⟩,by omega⟩
section
variable {R:(Nat→Prop)→(Nat→Prop)→World→Prop} {a w w':World} {nb lg sb:Nat} {room:Int} {s:Lg.S} {fs:List Dk.ah} {st:Stat} {J:List (Nat×Obj)} {N:Nd}
set_option maxHeartbeats 8000000 in
set_option maxRecDepth 100000 in
theorem l7 (dst:Int) (T:TypeId) (V:Value) (h:ak R J a nb lg sb room s fs st N w) (hR:aB a R) (hn:N.outs.length≤1000) :
 Calls prog 57 #[.pointer (some ⟨nb,0,none⟩),.int .i64 dst,.iface T V] w fun e w'=>e=.returned (.tuple #[])∧ak R J a nb lg sb room s fs st {N with outs:=N.outs++[(dst,.iface T V)]} w':=by
 obtain⟨P,K,Ko,h1,h2,hd,h3⟩:=h
 have hh:w.heap[nb]?=some (dA N P):=h3.bf (nb,dA N P) (by simp)
 have hc:=(dj hh).2.2.2.2.2.2.2.2.2.2.2.2
 obtain⟨W,hW⟩:∃W,w.alloc (.cells #[.int .i64 dst,.iface T V] 62)=W:=⟨_,rfl⟩
 have bW:Below w.heap.size w W:=by rw[←hW];exact ay (ae _ w) _
 have hz:W.heap[w.heap.size]?=some (.cells #[.int .i64 dst,.iface T V] 62 (0,0)):=by rw[←hW];exact heap_alloc_new w _
 have HOW:=ad (h2.2 w (fun p hp=>h3.bf p (by simp[hp])) 0 (fun _ _=>Nat.zero_le _))
 have HOWW:=ad (bM HOW.out bW)
 have HH:=ad hh
 have HC:=ad (aC h1 (aC h2 (aC hd h3)))
 have HZ:=ad hz
 have HBW:=ad bW
 have HW:=ad hW
 clear h1 h2 hd h3 hh bW hz hW
 go_enter func57,ntmps57
 go_wp2_with (at_builtin;refine eu rfl _ _ rfl Gf (.slice P.oa N.outs.length P.oc) N.outs.length (cQ N.outs) rfl (by rw[HW.out];exact HOWW.out) w.heap.size [.int .i64 dst,.iface T V] (0,0) rfl 62 (by rw[HW.out];exact HZ.out) rfl (by simp[Value.oneCell']) (by omega) ?_)
 intro g cap w2 hown hg hwh hlt
 rw[HW.out]at hg
 have hs:=hg.size
 have hWs:W.heap.size=w.heap.size+1:=by rw[←HW.out];simp
 have hnb:nb<w.heap.size:=(aA.1 HH.out).1
 obtain⟨q1,q2,qd,q3⟩:=HC.out
 have hKo:∀b,(Value.slice P.oa N.outs.length P.oc).ownBlock=some b→∃o,Ko=[(b,o)]:=fun b hb=>by
  rcases q2.1 with⟨h0,_⟩|⟨g',o',h1,h2⟩
  ·rw[h0]at hb;cases hb
  ·rw[h1]at hb;cases hb;exact⟨o',h2⟩
 have hne:∀b,(Value.slice P.oa N.outs.length P.oc).ownBlock=some b→b≠nb∧(∀p∈K,p.1≠b):=fun b hb=>by
  obtain⟨o',rfl⟩:=hKo b hb
  exact⟨qd.1.1 (b,o') (by simp),fun p hp=>qd.2 p hp (b,o') (by simp)⟩
 have hnbW:W.heap[nb]?=some (dA N P):=ax HBW.out ab HH.out
 have hnb2:w2.heap[nb]?=some (dA N P):=(hg.block nb (by omega) (fun e=>(hne nb e.symm).1 rfl)).trans hnbW
 have hgnb:g≠nb:=by
  rcases hwh with e|e
  ·exact(hne g e).1
  ·omega
 obtain⟨d0,d1,d2,d3,d4,d5,d6,d7,d8,d9,d10,d11,d12⟩:=dj hnb2
 have f12:=az hnb2 12
 have HST:=ad (show(w2.setCell ⟨nb,12,none⟩ (.slice (some ⟨g,0,none⟩) (N.outs.length+1) cap)).heap[nb]?=some (dA {N with outs:=N.outs++[(dst,.iface T V)]} {P with oa:=some ⟨g,0,none⟩,oc:=cap})by
  have:=aq (i:=12) hnb2 (.slice (some ⟨g,0,none⟩) (N.outs.length+1) cap)
  rw[this]
  simp[dA])
 have hT:ar (fun j=>j=nb∨∃p∈K++Ko,p.1=j) w (w2.setCell ⟨nb,12,none⟩ (.slice (some ⟨g,0,none⟩) (N.outs.length+1) cap)) :=
  ar.trans (ar.trans (f2:=fun j=>j=nb∨∃p∈K++Ko,p.1=j) (ar.aG HBW.out) (ar.gl hg (fun b hb=>by
   obtain⟨o',e⟩:=hKo b hb
   exact .inr ⟨(b,o'),by simp[e],rfl⟩)) (fun j q=>.inl q)) (ar.bU (av w2 nb 12 _) (.inl rfl)) (fun j q=>.inl q)
 have hgc:(w2.setCell ⟨nb,12,none⟩ (.slice (some ⟨g,0,none⟩) (N.outs.length+1) cap)).heap[g]?=some (w2.heap[g]'hlt):=(Below.heap_setCell w2 ⟨nb,12,none⟩ _ g hgnb).trans (Array.getElem?_eq_getElem hlt)
 have hstep:=q3.Cc (o':=dA {N with outs:=N.outs++[(dst,.iface T V)]} {P with oa:=some ⟨g,0,none⟩,oc:=cap}) (Kx':=K++[(g,w2.heap[g]'hlt)]) qd.1 hR hT (fun j hj=>hj) HST.out (fun p hp=>by
  rcases aO.1 hp with hp|hp
  ·have hw:=q3.bf p (by simp[hp])
   have hp1:p.1≠nb:=qd.1.1 p (by simp[hp])
   refine⟨.inl ⟨p,by simp[hp],rfl⟩,?_⟩
   rw[Below.heap_setCell w2 ⟨nb,12,none⟩ _ p.1 hp1,hg.block p.1 (by have:=(aA.1 hw).1;omega) (fun e=>(hne p.1 e.symm).2 p hp rfl)]
   exact ax HBW.out ab hw
  ·rw[aQ.1 hp]
   refine⟨?_,hgc⟩
   rcases hwh with e|e
   ·obtain⟨o',e2⟩:=hKo g e
    exact .inl ⟨(g,o'),by simp[e2],rfl⟩
   ·exact .inr (by show w.heap.size≤g;omega))
 have hsepo:G4 K [(g,w2.heap[g]'hlt)]:=fun p hp q hq e=>by
  rw[aQ.1 hq]at e
  rcases hwh with e2|e2
  ·exact(hne g e2).2 p hp e
  ·have:=(aA.1 (q3.bf p (by simp[hp]))).1
   simp only at e
   omega
 have HX:=ad (show ak R J a nb lg sb room s fs st {N with outs:=N.outs++[(dst,.iface T V)]} (w2.setCell ⟨nb,12,none⟩ (.slice (some ⟨g,0,none⟩) (N.outs.length+1) cap))from
  ⟨{P with oa:=some ⟨g,0,none⟩,oc:=cap},K,[(g,w2.heap[g]'hlt)],q1,⟨.inr ⟨g,_,rfl,rfl⟩,fun Z hZ B hB=>by
   have hZ:=hZ (g,w2.heap[g]'hlt) (by simp)
   have hB:=hB (g,w2.heap[g]'hlt) (by simp)
   simp only[List.length_append,List.length_cons,List.length_nil]
   rw[lF]
   refine⟨hown.1,.inr ?_⟩
   rcases hown.2 with⟨e,_⟩|⟨g2,cap2,cur,e,_,hcur,e3,e4,e5,e6⟩
   ·cases e
   ·simp only[Value.slice.injEq,Option.some.injEq,Addr.mk.injEq,and_true,true_and]at e
    obtain⟨e1,e2⟩:=e
    subst e1
    subst e2
    refine⟨_,_,cur,rfl,hB,?_,e3,e4,e5,e6⟩
    rw[hZ,←hcur,Array.getElem?_eq_getElem hlt]⟩,⟨hstep.1,hsepo⟩,hstep.2⟩)
 clear hown hg hwh hlt hs hWs hnb q1 q2 qd q3 hKo hne hnbW hnb2 hgnb hT hgc hstep hsepo HST HC HH HOW HOWW HZ HBW HW
 go_wp2
 go_end0
 exact⟨rfl,HX.out⟩
end
namespace Lg
def iX:List UInt8:=[115,110,97,112]
def JH (b:ByteArray):Dk.ah:=⟨iX,b,b.size⟩
theorem zZ:af.numberOf iX=0:=by
 unfold af.numberOf iX
 simp[Lib.parseUint10]
theorem xW:iX≠af.bJ:=by decide
theorem xY:iX≠aj.file:=by decide
theorem xX:iX≠aj.mark:=by decide
def eJ:List UInt8:=[114,101,97,100,121]
def fE (b:ByteArray):Dk.ah:=⟨eJ,b,b.size⟩
theorem yn:af.numberOf eJ=0:=by
 unfold af.numberOf eJ
 simp[Lib.parseUint10]
theorem px:eJ≠aj.mark:=by decide
theorem wV:eJ≠iX:=by decide
def gr (k:List UInt8):Prop:=k=aj.mark∨k=iX∨k=eJ
theorem gr.facts {k:List UInt8} (h:gr k):k≠aj.file∧k≠af.bJ∧af.numberOf k=0:=by
 rcases h with rfl|rfl|rfl
 ·exact⟨aj.yP,aj.yO,AD⟩
 ·exact⟨xY,xW,zZ⟩
 ·exact⟨by decide,by decide,yn⟩
theorem gr.pt {k:List UInt8} (h:gr k) {next:Int} {al:List Int} (hr:aj.right next al=true):∀n∈al,k≠af.nameOf n:=fun n hn e=>by
 have h1:=(aj.dw hr).2.2.2 n hn
 have h2:=(aj.dw hr).2.1
 have:=h.facts.2.2
 rw[e,af.jt n (by omega) (by omega)]at this
 omega
structure Ex (ex:List Dk.ah) (es:List Int) (sn rd:Option ByteArray):Prop where
 o:mG ex
 m:Dk.look ex aj.mark=if es=[] then none else some (aj.eE es)
 s:Dk.look ex iX=sn.map JH
 r:Dk.look ex eJ=rd.map fE
 n:∀k,¬gr k→Dk.look ex k=none
theorem Ex.nil:Ex [] [] none none:=⟨tA,rfl,rfl,rfl,fun _ _=>rfl⟩
theorem Ex.put {ex:List Dk.ah} {es:List Int} {sn rd:Option ByteArray} (h:Ex ex es sn rd) (y:Dk.ah) (hy:gr y.name) (hs:y.synced=y.bytes.size):mG (Dk.put y ex)∧∀k,¬gr k→Dk.look (Dk.put y ex) k=none:=by
 have hn:∀k,¬gr k→Dk.look (Dk.put y ex) k=none:=fun k hk=>by
  rw[Dk.aF y (fun e=>hk (by rw[e];exact hy))]
  exact h.n k hk
 have hso:=Dk.sorted_put y _ h.o.sorted
 refine⟨⟨hso,hn _ fun e=>e.facts.1 rfl,hn _ fun e=>e.facts.2.1 rfl,fun x hx=>?_,fun x hx=>?_,?_⟩,hn⟩
 ·rcases Dk.rh y _ _ hx with rfl|hx
  ·exact hy.facts.2.2
  ·exact h.o.number x hx
 ·rcases Dk.rh y _ _ hx with rfl|hx
  ·exact hs
  ·exact h.o.sync x hx
 ·have:=(kV [aj.mark,iX,eJ] (Dk.put y ex) hso fun k hk=>by
   refine Classical.byContradiction fun e=>hk (hn k fun b=>e ?_)
   rcases b with rfl|rfl|rfl <;> simp).2
  simp only[List.length_cons,List.length_nil]at this
  omega
theorem Ex.mark {ex:List Dk.ah} {es es2:List Int} {sn rd:Option ByteArray} (h:Ex ex es sn rd) (h2:es2≠[]):Ex (Dk.put (aj.eE es2) ex) es2 sn rd:=by
 obtain⟨h1,h3⟩:=h.put (aj.eE es2) (.inl rfl) rfl
 refine⟨h1,?_,?_,by rw[Dk.aF (aj.eE es2) (show eJ≠(aj.eE es2).name from px)];exact h.r,h3⟩
 ·rw[if_neg h2];exact Dk.aZ (aj.eE es2) ex
 ·rw[Dk.aF (aj.eE es2) (show iX≠(aj.eE es2).name from xX)];exact h.s
theorem Ex.ready {ex:List Dk.ah} {es:List Int} {sn rd:Option ByteArray} (h:Ex ex es sn rd) (b:ByteArray):Ex (Dk.put (fE b) ex) es sn (some b):=by
 obtain⟨h1,h3⟩:=h.put (fE b) (.inr (.inr rfl)) rfl
 refine⟨h1,?_,?_,Dk.aZ (fE b) ex,h3⟩
 ·rw[Dk.aF (fE b) (show aj.mark≠(fE b).name from fun e=>px e.symm)];exact h.m
 ·rw[Dk.aF (fE b) (show iX≠(fE b).name from fun e=>wV e.symm)];exact h.s
section
variable {ex fs:List Dk.ah} {next:Int} {al:List Int} {L:List Evt.Entry} {es:List Int} {sn rd:Option ByteArray}
theorem Holds.vB (h:Holds ex fs next al L) (y:Dk.ah) (hy:gr y.name) (ho:mG (Dk.put y ex)):Holds (Dk.put y ex) (Dk.put y fs) next al L:=by
 obtain⟨h1,h2,h3⟩:=hy.facts
 refine⟨Dk.sorted_put _ _ h.sorted,h.right,?_,fun i n hi=>?_,fun k hk hks=>?_,ho,h.lo,h.low,h.high,h.kH⟩
 ·rw[Dk.aF y h1.symm];exact h.pA
 ·rw[Dk.aF y (hy.pt h.right n (List.mem_of_getElem? hi)).symm];exact h.pt i n hi
 ·by_cases e:k=y.name
  ·subst e
   rw[Dk.aZ y,Dk.aZ y]
  ·rw[Dk.aF y e,Dk.aF y e]
   exact h.oth k hk hks
theorem Holds.CP (h:Holds ex fs next al L) {k:List UInt8} (hk:gr k):Dk.look fs k=Dk.look ex k:=h.oth k hk.facts.1 (hk.pt h.right)
theorem Holds.BJ (h:Holds ex fs next al L) (hx:Ex ex es sn rd) (hm:aj.gh 0 es):aj.cw fs=(aj.ig 0 es,es.length,true):=by
 have hl:=h.CP (.inl rfl:gr aj.mark)
 rw[hx.m]at hl
 by_cases e:es=[]
 ·subst e
  rw[if_pos rfl]at hl
  exact aj.AV hl
 ·rw[if_neg e]at hl
  exact aj.E8 hm hl
theorem Holds.Gk (room e:Int) (h:Holds ex fs next al L) (hx:Ex ex es sn rd) (hfull:¬room-(Dk.total fs:Int)<((aj.dZ e).size:Int)) (hlen:fs.length<40) :
 ∃y,Dk.append room aj.mark (aj.dZ e) fs=(y,0)∧Dk.sync aj.mark y=(Dk.put (aj.eE (es++[e])) fs,0):=by
 have hmk:=h.CP (.inl rfl:gr aj.mark)
 rw[hx.m]at hmk
 by_cases he:es=[]
 ·subst he
  rw[if_pos rfl]at hmk
  refine⟨Dk.put ⟨aj.mark,aj.dZ e,0⟩ fs,?_,?_⟩
  ·unfold Dk.append
   rw[if_neg (by rw[aj.tG];simp),if_neg (by omega),if_neg (by omega),hmk];rfl
  ·have hl:=Dk.aZ ⟨aj.mark,aj.dZ e,0⟩ fs
   have hl:Dk.look (Dk.put ⟨aj.mark,aj.dZ e,0⟩ fs) aj.mark=some ⟨aj.mark,aj.dZ e,0⟩:=hl
   unfold Dk.sync
   rw[hl]
   simp only[Prod.mk.injEq,and_true]
   have hx:(⟨aj.mark,aj.dZ e,(aj.dZ e).size⟩:Dk.ah)=aj.eE ([]++[e]):=by
    have:aj.dZ e=⟨(aj.fT ([]++[e])).toArray⟩:=by rw[←qi];apply ByteArray.ext;simp[aj.fT]
    unfold aj.eE
    rw[←this]
   rw[hx]
   exact Bs h.sorted rfl
 ·rw[if_neg he]at hmk
  refine⟨Dk.put ⟨aj.mark,(aj.eE es).bytes++aj.dZ e,(aj.eE es).synced⟩ fs,?_,?_⟩
  ·unfold Dk.append
   rw[if_neg (by rw[aj.tG];simp),hmk,if_neg (by simp),if_neg (by omega)];rfl
  ·have hl:=Dk.aZ ⟨aj.mark,(aj.eE es).bytes++aj.dZ e,(aj.eE es).synced⟩ fs
   have hl:Dk.look (Dk.put ⟨aj.mark,(aj.eE es).bytes++aj.dZ e,(aj.eE es).synced⟩ fs) aj.mark=some ⟨aj.mark,(aj.eE es).bytes++aj.dZ e,(aj.eE es).synced⟩:=hl
   unfold Dk.sync
   rw[hl]
   simp only[Prod.mk.injEq,and_true]
   have hx:(⟨aj.mark,(aj.eE es).bytes++aj.dZ e,((aj.eE es).bytes++aj.dZ e).size⟩:Dk.ah)=aj.eE (es++[e]):=by
    unfold aj.eE
    rw[←qi]
   rw[hx]
   exact Bs h.sorted rfl
theorem Holds.I3 (room e:Int) (h:Holds ex fs next al L) (hx:Ex ex es sn rd) (hm:aj.gh 0 es) (hn:es.length≤20) (hlt:aj.ig 0 es<e) (hle:e≤274877906944) (hr:(Dk.total fs:Int)+20≤room) :
 ∃f2 ex2,aj.i7 room e fs=(f2,0)∧Holds ex2 f2 next al L∧Ex ex2 (es++[e]) sn rd∧aj.gh 0 (es++[e]):=by
 have h0:=(aj.sI es 0 (Int.le_refl _) hm).1
 have hep:=h.BJ hx hm
 have hlen:=h.len
 have hr30:=(aj.dw h.right).2.2.1
 have hsz:(aj.dZ e).size≤14:=by
  have:=aj.vG (es:=[e]) ⟨by omega,hle⟩
  have h2:=qi [] e
  have:(aj.fT [e]).length=(aj.dZ e).size:=by
   rw[List.nil_append]at h2
   have h3:=congrArg ByteArray.size h2
   rw[Lib.size_eq,Lib.size_eq]at h3
   rw[Lib.size_eq]
   simpa[aj.fT]using h3.symm
  simp only[List.length_cons,List.length_nil]at *
  omega
 have hs:=aj.tq es 0 e hm hlt hle
 unfold aj.i7
 rw[if_neg (by omega),hep]
 simp only
 rw[if_neg (by omega),if_neg (by omega)]
 have hkp:aj.kX room e fs=Dk.append room aj.mark (aj.dZ e) fs:=by
  unfold aj.kX
  rw[hep,if_pos ⟨rfl,hn⟩]
 obtain⟨y,q1,q2⟩:=h.Gk room e hx (by omega) (by omega)
 rw[hkp,q1,if_pos rfl]
 have hx2:=hx.mark (es2:=es++[e]) (by simp)
 exact⟨_,_,q2,h.vB _ (.inl rfl) hx2.o,hx2,hs⟩
end
theorem Ex.total {ex:List Dk.ah} {es:List Int} {rd:ByteArray} (h:Ex ex es none (some rd)) (hm:aj.gh 0 es):Dk.total ex≤14*es.length+rd.size:=by
 have h1:=(kV [aj.mark,iX,eJ] ex h.o.sorted fun k hk=>by
  refine Classical.byContradiction fun e=>hk (h.n k fun b=>e ?_)
  rcases b with rfl|rfl|rfl <;> simp).1
 have h2:eZ ex aj.mark≤14*es.length:=by
  unfold eZ
  rw[h.m]
  by_cases e:es=[]
  ·rw[if_pos e];exact Nat.zero_le _
  ·rw[if_neg e]
   have:=aj.vG hm
   simp only[aj.eE]
   rw[Lib.size_eq]
   exact this
 have h3:eZ ex iX=0:=by unfold eZ;rw[h.s];rfl
 have h4:eZ ex eJ=rd.size:=by unfold eZ;rw[h.r];rfl
 simp only[List.map_cons,List.map_nil,List.sum_cons,List.sum_nil,h3,h4]at h1
 omega
structure ey (rd:ByteArray) (E:Int) (k:Nat) (fs:List Dk.ah) (next:Int) (al:List Int) (L:List Evt.Entry):Prop where
 ex:∃ex es,Holds ex fs next al L∧Ex ex es none (some rd)∧aj.gh 0 es∧es.length≤k∧aj.ig 0 es=E
 rd:rd.size≤40
 k:k≤10
 e:cX L≤E
 x:next≤1+(L.length:Int)
section
variable {rd:ByteArray} {E next room:Int} {k:Nat} {fs:List Dk.ah} {al:List Int} {L:List Evt.Entry}
theorem ey.xv (h:ey rd E k fs next al L):(aj.cw fs).1=E:=by
 obtain⟨ex,es,h1,h2,h3,h4,h5⟩:=h.ex
 rw[h1.BJ h2 h3,h5]
theorem ey.kH (h:ey rd E k fs next al L):Evt.follows L 0 0=true:=by
 obtain⟨ex,es,h1,h2,h3,h4,h5⟩:=h.ex
 exact h1.kH
theorem ey.low (h:ey rd E k fs next al L):E≤274877906944∧0≤E:=by
 obtain⟨ex,es,h1,h2,h3,h4,h5⟩:=h.ex
 rw[←h5]
 have:=aj.sI es 0 (Int.le_refl _) h3
 exact⟨this.2,this.1⟩
theorem ey.bk (h:ey rd E k fs next al L) (m:Nat) (hm:L.length+m≤400000):BK m (aI next al L):=by
 obtain⟨ex,es,h1,h2,h3,h4,h5⟩:=h.ex
 exact Iy h1 m hm
theorem ey.Ek (h:ey rd E k fs next al L):Dk.read eJ fs=(rd,0):=by
 obtain⟨ex,es,h1,h2,h3,h4,h5⟩:=h.ex
 have hl:=h1.CP (.inr (.inr rfl):gr eJ)
 rw[h2.r]at hl
 unfold Dk.read
 rw[hl]
 rfl
theorem ey.raise {e:Int} (h:ey rd E k fs next al L) (hk:k≤8) (he:E<e) (hle:e≤274877906944) (hl:L.length≤60) (hr:2000000≤room):∃f2,aj.i7 room e fs=(f2,0)∧ey rd e (k+1) f2 next al L:=by
 obtain⟨ex,es,h1,h2,h3,h4,h5⟩:=h.ex
 have ht:=h2.total h3
 have hrd:=h.rd
 have hk1:=h1.known.1
 have hb:=pg L
 have hr30:=(aj.dw h1.right).2.2.1
 have hms:=h1.yQ
 obtain⟨f2,ex2,q1,q2,q3,q4⟩:=h1.I3 room e h2 h3 (by omega) (by omega) hle (by omega)
 have hn:=h.e
 exact⟨f2,q1,⟨ex2,es++[e],q2,q3,q4,by simp;omega,aj.tO es 0 e⟩,h.rd,by omega,by omega,h.x⟩
theorem ey.prop {b:Evt.Batch} (h:ey rd E k fs next al L) (h1:1≤E) (hf:Evt.fits b=0) (hl:L.length≤50) (hr:2000000≤room) :
 ∃f2 n2 nums2,lN room b (aI next al L) fs=((f2,aI n2 nums2 (L++[⟨(L.length:Int)+1,E,b⟩])),0)∧ey rd E k f2 n2 nums2 (L++[⟨(L.length:Int)+1,E,b⟩]):=by
 obtain⟨ex,es,g1,g2,g3,g4,g5⟩:=h.ex
 have ht:=g2.total g3
 have hrd:=h.rd
 have hkk:=h.k
 have hb:=pg (L++[(⟨(L.length:Int)+1,E,b⟩:Evt.Entry)])
 have hlen:(L++[(⟨(L.length:Int)+1,E,b⟩:Evt.Entry)]).length=L.length+1:=by simp
 have hx:=h.x
 obtain⟨f2,n2,nums2,q1,q2,q3⟩:=Ga (room:=room) (b:=b) g1 h.xv h.low.1 hf h1 h.e (by omega) (by omega) (by omega)
 refine⟨f2,n2,nums2,q1,⟨ex,es,q2,g2,g3,g4,g5⟩,h.rd,h.k,?_,by omega⟩
 rw[lT (e:=⟨(L.length:Int)+1,E,b⟩) (by simp)]
 exact Int.le_refl _
theorem ey.accept {x:Evt.Entry} {app:Int} (h:ey rd E k fs next al L) (hf:Evt.follows (L++[x]) 0 0=true) (hx:x.epoch≤E) (hl:L.length≤50) (hr:2000000≤room) :
 ∃f2 n2 nums2,jV room (L.length:Int) (cN L (L.length:Int)).1 app [x] (aI next al L) fs=((f2,aI n2 nums2 (L++[x])),0)∧ey rd E k f2 n2 nums2 (L++[x]):=by
 obtain⟨ex,es,g1,g2,g3,g4,g5⟩:=h.ex
 have ht:=g2.total g3
 have hrd:=h.rd
 have hkk:=h.k
 have hnx:=h.x
 have htk:(L++[x]).take L.length=L:=by simp
 have hdr:((L++[x]).drop L.length).take 1=[x]:=by simp
 have hep:(cN (L++[x]) (L.length:Int)).1=(cN L (L.length:Int)).1:=by
  rw[rk (by simp),rk ab];simp
 obtain⟨f2,n2,nums2,j2,c,q1,q2,q3,q4,q5,q6⟩:=Fs (L:=L++[x]) (j:=L.length) (k:=L.length) (m:=1) (room:=room) (app:=app) hf (by simp) (by simp) (by rw[htk];exact g1) (by simp;omega) (by omega) (by omega)
 obtain⟨rfl,q7⟩:=q6 ab
 have hj:j2=L.length+1:=by simp at q7 q3;omega
 subst hj
 have htk2:(L++[x]).take (L.length+1)=L++[x]:=by rw[List.take_of_length_le (by simp)]
 rw[htk2]at q1 q2
 rw[htk,hdr,hep]at q1
 refine⟨f2,n2,nums2,q1,⟨ex,es,q2,g2,g3,g4,g5⟩,h.rd,h.k,?_,by simp;omega⟩
 rw[lT (e:=x) (by simp)]
 exact hx
end
end Lg
theorem Dw {a b:ByteArray} (h:a.data.toList=b.data.toList):a=b:=by
 apply ByteArray.ext
 exact Array.toList_inj.1 h
def et:ByteArray:=⟨(Frm.bE (Num.put (Num.held 1))).toArray⟩
theorem Hv:Num.held 1=1:=by decide
theorem El:Num.put (Num.held 1)=[1]:=by rw[Hv,Num.jQ 1 (by omega)];rfl
theorem sf:et.data.toList=Frm.bE [1]:=by unfold et;rw[El]
theorem oE:et.size=9:=by rw[Lib.size_eq,sf,Frm.gi];rfl
theorem Hw:Frm.put (Num.put (Num.held 1))=(et.data.toList,0):=by
 rw[El,sf]
 exact Frm.i' ⟨by simp,by simp⟩
set_option maxHeartbeats 4000000 in
theorem uD (d:Nat) (room:Int) (fs:List Dk.ah) (ft:Nat→Prop) (w:World) (h:br w d room fs ft) (hr:Dk.read Lg.eJ fs=(et,0)) :
 Calls prog 53 #[.pointer (some ⟨d,0,none⟩)] w fun e w'=>e=.returned (.int .i64 1)∧Below w.heap.size w w':=by
 have HR:=gC d room fs ft ⟨#[114,101,97,100,121]⟩ w h (by decide)
 rw[show Dk.read (⟨#[114,101,97,100,121]⟩:ByteArray).data.toList fs=(et,0)from hr]at HR
 have HR:=ad HR
 clear h hr
 have HFT:=ad (lH et w (by rw[oE];omega))
 have HF:=ad (show Frm.take et.data.toList=([1],[],0)by
  have:=Frm.nk [1] [] (by simp) (by simp)
  rw[List.append_nil]at this
  rw[sf];exact this)
 go_enter func53,ntmps53
 go_wp2_with fail
 refine HR.out.mono ?_
 rintro e w1 ⟨rfl,rfl⟩
 go_wp2_with fail
 refine HFT.out.mono ?_
 rintro e w1 ⟨p,r,c,rfl,hf,b1⟩
 have hfx:=hf.out
 rw[HF.out]at hfx
 simp only[Prod.mk.injEq]at hfx
 obtain⟨hp,hr,rfl⟩:=hfx
 have HNT:=ad (fL p w1 (by rw[Lib.size_eq,←hp];simp))
 have HN:=ad (show Num.take p.data.toList=(1,[],0)by
  have:=Num.gu 1 (by omega) []
  rw[List.append_nil,Num.jQ 1 (by omega)]at this
  rw[←hp];exact this)
 have r0:r.toList.isEmpty=true:=by rw[Lib.toList_data,←hr];rfl
 have HB1:=ad b1
 clear b1 hf hp hr HFT HF HR
 go_wp2_with fail
 refine HNT.out.mono ?_
 rintro e w2 ⟨n,q,c,rfl,hn,b2⟩
 have hnx:=hn.out
 rw[HN.out]at hnx
 simp only[Prod.mk.injEq]at hnx
 obtain⟨rfl,hq,rfl⟩:=hnx
 have q0:q.toList.isEmpty=true:=by rw[Lib.toList_data,←hq];rfl
 have HB2:=ad (Below.up HB1.out ab b2)
 clear b2 hn hq HNT HN
 go_wp2
 go_ret
 exact⟨rfl,HB2.out⟩
set_option maxHeartbeats 4000000 in
theorem xj (a:World) (d:Nat) (room:Int) (fs:List Dk.ah) (ft:Nat→Prop) (w:World) (hA:fp a w ft) (h:br w d room fs ft) :
 Calls prog 49 #[.pointer (some ⟨d,0,none⟩),.int .i64 1] w fun e w'=>e=.returned (.int .i64 ((aj.fM room Lg.eJ et fs).2:Nat))∧DStep d room (aj.fM room Lg.eJ et fs).1 ft w w':=by
 have HA0:=ad (aC hA h)
 obtain⟨F1,hF1⟩:∃F1,(Dk.delete af.bJ fs).1=F1:=⟨_,rfl⟩
 obtain⟨⟨F2,c2⟩,hF2⟩:∃P,Dk.append room af.bJ et F1=P:=⟨_,rfl⟩
 have HC:=ad (show aj.fM room Lg.eJ et fs=if c2=0 then Dk.rename af.bJ Lg.eJ (Dk.sync af.bJ F2).1 else ((Dk.delete af.bJ F2).1,c2)by rw[aj.fM,hF1,hF2])
 obtain⟨X,hX,hXl,hXs⟩:=bh (Num.put (Num.held 1))
 have HNP:=ad (fun Z=>by have:=dL 1 Z;rw[hX]at this;exact this)
 have HFP:=ad (fun Z=>iq X Z (by rw[hXs];have:=Num.cr _ (Num.cB 1);omega))
 have HFX:=ad (show Frm.put X.data.toList=(et.data.toList,0)by rw[hXl];exact Hw)
 clear hA h hX hXl hXs
 go_enter func49,ntmps49
 go_wp2_with fail
 refine(HNP.out w).mono ?_
 rintro e wa ⟨rfl,ba⟩
 go_wp2_with fail
 refine(HFP.out wa).mono ?_
 rintro e wb ⟨r,c,rfl,hr,_,bb⟩
 have hrc:=hr.out
 rw[HFX.out]at hrc
 simp only[Prod.mk.injEq]at hrc
 obtain rfl:r=et:=Dw hrc.1.symm
 obtain rfl:=hrc.2
 have hb:=ba.trans (bb.mono ba.size)
 have HA:=ad (HA0.out.1.next hb)
 have HDL:=ad (dF d room fs ft ⟨#[116,101,109,112]⟩ wb (HA0.out.2.next hb) (by decide))
 have HB:=ad hb
 clear ba bb hr hrc hb HNP HFP HFX
 go_wp2_with fail
 refine HDL.out.mono ?_
 rintro e w1 ⟨rfl,ft1,hd1,hf1,ht1⟩
 rw[show(Dk.delete (⟨#[116,101,109,112]⟩:ByteArray).data.toList fs).1=F1 from hF1]at hd1
 have HA1:=ad (HA.out.cE ht1 hf1)
 have HT1:=ad (aC ht1 hf1)
 have HAP:=ad (iu d room F1 ft1 ⟨#[116,101,109,112]⟩ et w1 HA1.out.fO hd1 (by decide) (by rw[oE];omega))
 clear HDL hd1 hf1 ht1
 go_wp2_with fail
 refine HAP.out.mono ?_
 rintro e w2 ⟨rfl,ft2,hd2,hf2,ht2⟩
 rw[show Dk.append room (⟨#[116,101,109,112]⟩:ByteArray).data.toList et F1=(F2,c2)from hF2]at hd2 ⊢
 have HA2:=ad (HA1.out.cE ht2 hf2)
 have HT2:=ad (aC ht2 hf2)
 clear hF1 hF2 HAP
 simp only at hd2 ⊢
 by_cases h0:c2=0
 ·subst h0
  have HC:=ad (HC.out.trans (if_pos rfl))
  have HS:=ad (gB d room F2 ft2 ⟨#[116,101,109,112]⟩ w2 hd2 (by decide))
  clear hd2 hf2 ht2
  go_wp2_with fail
  refine HS.out.mono ?_
  rintro e w3 ⟨rfl,ft3,hd3,hf3,ht3⟩
  have HA3:=ad (HA2.out.cE ht3 hf3)
  have HT3:=ad (aC ht3 hf3)
  have HR:=ad (ir d room _ ft3 ⟨#[116,101,109,112]⟩ ⟨#[114,101,97,100,121]⟩ w3 HA3.out.fO hd3 (by decide) (by decide))
  clear hd3 hf3 ht3 HS
  go_wp2_with fail
  refine HR.out.mono ?_
  rintro e w4 ⟨rfl,hds⟩
  have HD:=ad (DStep.trans (ar.aG HB.out) (fun j hj=>.inl hj) (DStep.trans HT1.out.1 HT1.out.2 (DStep.trans HT2.out.1 HT2.out.2 (DStep.trans HT3.out.1 HT3.out.2 hds))))
  clear hds HR
  go_wp2
  go_ret
  exact⟨by rw[HC.out];rfl,by rw[HC.out];exact HD.out⟩
 ·have HC:=ad (HC.out.trans (if_neg h0))
  have hc0:((c2:Int) != 0)=true:=by rw[bne_iff_ne];omega
  have HS:=ad (dF d room F2 ft2 ⟨#[116,101,109,112]⟩ w2 hd2 (by decide))
  clear hd2 hf2 ht2 h0
  go_wp2_with fail
  refine HS.out.mono ?_
  rintro e w3 ⟨rfl,hds⟩
  have HD:=ad (DStep.trans (ar.aG HB.out) (fun j hj=>.inl hj) (DStep.trans HT1.out.1 HT1.out.2 (DStep.trans HT2.out.1 HT2.out.2 hds)))
  clear hds HS
  go_wp2
  go_ret
  exact⟨by rw[HC.out];rfl,by rw[HC.out];exact HD.out⟩
end Go.Proofs.YtmgmknmaepjnoaaGreatDoor
