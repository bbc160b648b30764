/-
  Nodes of the law package 21: with the rows that it keeps of what they say; nodes that are made one behind the other.
-/
import Derived.Test.YtmgmknmaepjnoaaGreatDoorTak
import Derived.Test.YtmgmknmaepjnoaaGreatDoorSay
import Derived.Test.YtmgmknmaepjnoaaGreatDoorAsk
namespace Go.Proofs.YtmgmknmaepjnoaaGreatDoor
open Go.RowKit Go.Shelf Go.Sort Proofs.Tryz
def bB (R:(Nat->Prop)->(Nat->Prop)->World->Prop) (a:World) (nb lg sb:Nat) (room:Int) (s:Lg.S) (fs:List Dk.ai) (st:Stat) (N:Nd) (xb:Nat) (nv dv:Value) (kn:List (Nat×Obj)) (H Wr:List (Int×Value)) (F:List Int) (JX:List (Nat×Obj)) (w:World):Prop :=
 ∃P,js xb H Wr F P/\(∀p∈kn++JX,¬JB (bn xb nv dv H Wr F P) p.1)/\ah R (bn xb nv dv H Wr F P++(kn++JX)) a nb lg sb room s fs st N w
section
variable {R:(Nat->Prop)->(Nat->Prop)->World->Prop} {a w w':World} {nb lg sb nb2 lg2 sb2:Nat} {room:Int} {s s2:Lg.S} {fs fs2:List Dk.ai} {st st2:Stat} {N N2:Nd} {O:List (Int×Value)} {xb:Nat} {nv dv v:Value} {kn JX JX':List (Nat×Obj)} {H Wr:List (Int×Value)} {F:List Int} {P:jc}
theorem bB.next (h:bB R a nb lg sb room s fs st N xb nv dv kn H Wr F JX w) (hR:aC a R) (hb:Below w.heap.size w w'):bB R a nb lg sb room s fs st N xb nv dv kn H Wr F JX w':=by
 obtain⟨P,h1,h2,h3⟩:=h;exact⟨P,h1,h2,h3.next hR hb⟩
theorem bB.swap (h:bB (iE a nb2 lg2 sb2 room s2 fs2 st2 N2) a nb lg sb room s fs st N xb nv dv kn H Wr F JX w):bB (iE a nb lg sb room s fs st N) a nb2 lg2 sb2 room s2 fs2 st2 N2 xb nv dv kn H Wr F JX w:=by
 obtain⟨P,h1,h2,h3⟩:=h;exact⟨P,h1,h2,h3.swap⟩
theorem kX (fr:Int) (hT:dH R (bn xb nv dv H Wr F P++(kn++JX)) a nb lg sb room s fs st N O v w) (hK:js xb H Wr F P) (hap:∀p∈kn++JX,¬JB (bn xb nv dv H Wr F P) p.1) (hR:aC a R) (ho:∀p∈O,p.2.oneCell'=true) (hn:H.length+O.length<=100000/\Wr.length+O.length<=100000/\F.length+O.length<=100000) :
 Calls prog 9 #[.pointer (some ⟨xb,0,none⟩),.int .i64 fr,v] w fun e w'=>e=.returned (.tuple #[])/\bB R a nb lg sb room s fs st {N with outs:=[]} xb nv dv kn (H++dy O) (Wr++cV O) (F++(cV O).map fun _=>fr) JX w':=by
 obtain⟨oa,oc,Ko,rfl,hk,hoff,h⟩:=hT;have hj:∀p∈bn xb nv dv H Wr F P++(kn++JX),w.heap[p.1]?=some p.2:=fun p hp=>h.bj p (aD _ hp);refine(Fl fr O hK (fun p hp=>hj p (aH _ hp)) hk (fun p hp=>h.bj p (aH _ hp)) (fun p hp ⟨q,hq,e⟩=>hoff p hp q (aH _ hq) e.symm) ho hn).mono ?_;rintro e w' ⟨rfl,P',k1,k2,k3⟩;refine⟨rfl,P',k1,fun p hp ⟨q,hq,e⟩=>?_,h.cJ hR (k3.wide fun j ⟨p,hp,e⟩=>⟨p,aD _ (aH _ hp),e⟩) (fun p hp=>?_)⟩
 ·rcases (k2 q hq).1 with e2|e2
  ·exact hap p hp (e▸e2)
  ·have:=(aA.1 (hj p (aD _ hp))).1;omega
 ·rcases aK.1 hp with hp|hp
  ·exact⟨(k2 p hp).1.imp (fun ⟨q,hq,e⟩=>⟨q,aD _ (aH _ hq),e⟩) id,(k2 p hp).2⟩
  ·have hw:=hj p (aD _ hp);exact⟨.inl ⟨p,aD _ (aD _ hp),rfl⟩,(k3.block p.1 (aA.1 hw).1 (hap p hp)).trans hw⟩
theorem dH.drop {J:List (Nat×Obj)} (h:dH R J a nb lg sb room s fs st N O v w) (hR:aC a R):ah R J a nb lg sb room s fs st {N with outs:=[]} w/\∃oa oc,v=.slice oa O.length oc:=by
 obtain⟨oa,oc,Ko,rfl,hk,hoff,h⟩:=h;exact⟨h.less hR fun p hp=>aD _ hp,oa,oc,rfl⟩
end
theorem sY {w w2:World} {xb i:Nat} {O:Obj} {K K2 K3:List (Nat×Obj)} {t:TypeId} {sz n n' g cap:Nat} {xs xs':List Value} {v:Value} (hr:dV t sz v n xs K) (hx:w.heap[xb]?=some O) (hK:∀p∈K++(K2++K3),w.heap[p.1]?=some p.2/\p.1≠xb) (hKo:∀p∈K,∀q∈K2++K3,p.1≠q.1)
 (hown:w2.ownsRow 0 t sz (.slice (some ⟨g,0,none⟩) n' cap) n' xs') (hg:w.grownBy w2 v.ownBlock) (hwh:v.ownBlock=some g\/w.heap.size<=g) (hlt:g<w2.heap.size) :
 ∃o,dV t sz (.slice (some ⟨g,0,none⟩) n' cap) n' xs' [(g,o)]/\(∀p∈[(g,o)]++(K2++K3),(w2.setCell ⟨xb,i,none⟩ (.slice (some ⟨g,0,none⟩) n' cap)).heap[p.1]?=some p.2/\p.1≠xb)/\(∀p∈[(g,o)],∀q∈K2++K3,p.1≠q.1)/\(JB K g\/w.heap.size<=g)/\w2.heap[xb]?=some O /\
  ax (fun j=>j=xb\/JB K j) w (w2.setCell ⟨xb,i,none⟩ (.slice (some ⟨g,0,none⟩) n' cap)):=by
 obtain⟨o,q1,q2,q3,q4,q5,q6,q7,q8⟩:=ke (i:=i) (xb:=xb) (Ko:=K2++K3) hr hx hK hKo hown hg hwh hlt;refine⟨o,q1,fun p hp=>?_,fun p hp q hq=>?_,q4,q5,q6⟩
 ·rcases aK.1 hp with hp|hp
  ·rw[aN.1 hp];exact⟨q7,q2⟩
  ·exact⟨q8 p hp,(hK p (aD _ hp)).2⟩
 ·rw[aN.1 hp];exact q3 q hq
def cy (m:Nat):Vw:=if m=1 then ⟨1,[1],[1],[0]⟩ else ⟨1,[1,2],[1,1],[0,0]⟩
theorem LF:eU ⟨1,[1],[1],[0]⟩:=by
 refine⟨by decide,by decide,by decide,by decide,rfl,rfl,fun i n s b h1 h2 h3=>?_⟩
 match i with
 |0=>simp at h1 h2 h3;subst h1 h2 h3;simp
 |i+1=>simp at h1
theorem LD (e:Int) (he:1<=e/\e<=274877906944):eU ⟨e,[1,2],[1,1],[0,0]⟩:=by
 refine⟨he.1,he.2,by simp,by simp,rfl,rfl,fun i n s b h1 h2 h3=>?_⟩
 match i with
 |0=>simp at h1 h2 h3;subst h1 h2 h3;simp;omega
 |1=>simp at h1 h2 h3;subst h1 h2 h3;simp;omega
 |i+2=>simp at h1
def gr (id:Int) (d r:Nat) (V:Vw) (ls:Int):Nd:=⟨id,1,d,r,V,ls,none,0,0,[]⟩
theorem iT (m:Nat):eU (cy m):=by
 unfold cy;split
 ·exact LF
 ·exact LD 1 (by omega)
theorem qh {m i:Nat} (hm:m=1\/m=2) (hi:i<m):0<=place (cy m) ((i:Int)+1)/\since (cy m) ((i:Int)+1)=1/\jO (cy m) ((i:Int)+1)=0/\(0<=place (cy m) ((i:Int)+1)/\(behind (cy m) ((i:Int)+1)=0↔i+1=m))/\(cy m).ep=1:=by
 rcases hm with rfl|rfl
 ·obtain rfl:i=0:=by omega
  decide
 ·match i,hi with
  |0,_=>decide
  |1,_=>decide
theorem kY {E:Int} {k:Nat} {fs:List Dk.ai} {next:Int} {ar:List Int} {L:List Evt.Entry} {N:Nd} (h:Lg.eK eG E k fs next ar L) (hV:eU N.v) (hp:0<=place N.v N.id) (hs:since N.v N.id=1):gq N fs:=⟨hV,hp,hs,h.Fw⟩
theorem rZ {E:Int} {k:Nat} {fs:List Dk.ai} {next:Int} {ar:List Int} {L:List Evt.Entry} {N:Nd} {st:Stat} (h:Lg.eK eG E k fs next ar L) (hV:eU N.v) (hp:0<=place N.v N.id) (hs:since N.v N.id=1) (ha:st.app=L.length) (hl:L.length<=100):Calm N (Lg.aL next ar L) fs st:=by
 cases e:d' N with
 |false=>exact .inl ⟨hV,e⟩
 |true=>exact .inr ⟨kY h hV hp hs,e,ha,hl⟩
def eF (a:World) (m:Nat) (ls:Int):List Nat->List (Nat×Obj)->World->Prop
 |[],J,w=>Below a.heap.size a w/\Env a/\∀p∈J,a.heap.size<=p.1/\w.heap[p.1]?=some p.2
 |[n1],J,w=>∃lg sb d r f,Lg.eK eG 1 1 f 1 [] []/\ah mY J a n1 lg sb 4194304 (Lg.aL 1 [] []) f Stat.new (gr 1 d r (cy m) ls) w
 |[n1,n2],J,w=>∃lg sb d r f lg2 sb2 d2 r2 f2,Lg.eK eG 1 1 f 1 [] []/\Lg.eK eG 1 1 f2 1 [] []/\ah (iE a n2 lg2 sb2 4194304 (Lg.aL 1 [] []) f2 Stat.new (gr 2 d2 r2 (cy m) ls)) J a n1 lg sb 4194304 (Lg.aL 1 [] []) f Stat.new (gr 1 d r (cy m) ls) w
 |_,_,_=>False
section
variable {a w w':World} {m:Nat} {ls:Int} {l:List Nat} {J J':List (Nat×Obj)}
theorem eF.env (h:eF a m ls l J w):Env w:=by
 match l,h with
 |[],h=>exact h.2.1.next (Below.mono h.1 (by exact ab))
 |[_],⟨_,_,_,_,_,_,h⟩=>exact h.env
 |[_,_],⟨_,_,_,_,_,_,_,_,_,_,_,_,h⟩=>exact h.env
theorem eF.below (h:eF a m ls l J w):Below a.heap.size a w:=by
 match l,h with
 |[],h=>exact h.1
 |[_],⟨_,_,_,_,_,_,h⟩=>exact h.below
 |[_,_],⟨_,_,_,_,_,_,_,_,_,_,_,_,h⟩=>exact h.below
theorem eF.bj (h:eF a m ls l J w):∀p∈J,w.heap[p.1]?=some p.2:=by
 match l,h with
 |[],h=>exact fun p hp=>(h.2.2 p hp).2
 |[_],⟨_,_,_,_,_,_,h⟩=>exact h.bj
 |[_,_],⟨_,_,_,_,_,_,_,_,_,_,_,_,h⟩=>exact h.bj
theorem eF.cJ (h:eF a m ls l J w) (ht:ax (JB J) w w') (hJ:∀p∈J',(JB J p.1\/w.heap.size<=p.1)/\w'.heap[p.1]?=some p.2):eF a m ls l J' w':=by
 match l,h with
 |[],h =>
  refine⟨h.1.trans (ht.below (fun j ⟨p,hp,e⟩=>e▸(h.2.2 p hp).1) h.1.size),h.2.1,fun p hp=>⟨?_,(hJ p hp).2⟩⟩;rcases (hJ p hp).1 with⟨q,hq,e⟩|e
  ·exact e▸(h.2.2 q hq).1
  ·exact Nat.le_trans h.1.size e
 |[_],⟨lg,sb,d,r,f,q,h⟩=>exact⟨lg,sb,d,r,f,q,h.cJ (eQ a) ht hJ⟩
 |[_,_],⟨lg,sb,d,r,f,lg2,sb2,d2,r2,f2,q,q2,h⟩=>exact⟨lg,sb,d,r,f,lg2,sb2,d2,r2,f2,q,q2,h.cJ cu ht hJ⟩
theorem eF.make {nb lg sb d r:Nat} {f:List Dk.ai} (h:eF a m ls l J w) (hl:l.length<=1) (hi:Lg.eK eG 1 1 f 1 [] []) (g:ah mY [] w nb lg sb 4194304 (Lg.aL 1 [] []) f Stat.new (gr ((l.length:Int)+1) d r (cy m) ls) w') (hr:w.heap.size<=r) (hnb:w.heap.size<=nb):eF a m ls (l++[nb]) J w':=by
 have hb:=g.below;have hs:(Lg.aL 1 [] []).es=[]:=rfl;rcases l with _|⟨n1,_|⟨n2,l⟩⟩
 ·have e:(([]:List Nat).length:Int)+1=1:=rfl;rw[e]at g;refine⟨lg,sb,d,r,f,hi,ah.lower g h.2.1 hs (Below.up h.1 ab hb) h.1.size hr hnb (fun p hp=>?_)⟩;have hw:=(h.2.2 p hp).2;exact⟨(h.2.2 p hp).1,(aA.1 hw).1,au hb ab hw⟩
 ·have e:(([n1]:List Nat).length:Int)+1=2:=rfl;rw[e]at g;obtain⟨lg1,sb1,d1,r1,f1,q,h⟩:=h;exact⟨lg1,sb1,d1,r1,f1,lg,sb,d,r,f,q,hi,h.join g hs hr⟩
 ·simp at hl
end
def Ag (n:Nat):List Int:=(List.range n).map fun (k:Nat)=>(k:Int)+1
theorem Is (n:Nat):aE (Ag (n+1))=aE (Ag n)++[.int .i64 ((n:Int)+1)]:=by simp[Ag,aE,List.range_succ]
theorem zb (n:Nat) (x:Int):aE (List.replicate (n+1) x)=aE (List.replicate n x)++[.int .i64 x]:=by simp[aE,List.replicate_succ']
def vO (c s b:Value):Obj:=.cells #[.int .i64 1,c,s,b] 47 (0,0)
structure VB (w0:World) (xb mb:Nat) (xO:Obj) (n1 n2 n3:Nat) (A:q_gk) (kc ks kb:List (Nat×Obj)) (w:World):Prop where
 c:dV 3 1 (.slice A.ca n1 A.cc) n1 (aE (Ag n1)) kc
 s:dV 3 1 (.slice A.sa n2 A.sc) n2 (aE (List.replicate n2 1)) ks
 b:dV 3 1 (.slice A.ba n3 A.bc) n3 (aE (List.replicate n3 0)) kb
 at_:∀p∈kc++(ks++kb),w.heap[p.1]?=some p.2/\p.1≠mb
 lo:∀p∈kc++(ks++kb),p.1≠xb/\w0.heap.size<=p.1
 d1:∀p∈kc,∀q∈ks++kb,p.1≠q.1
 d2:∀p∈ks,∀q∈kb,p.1≠q.1
 m:w.heap[mb]?=some (vO (.slice A.ca n1 A.cc) (.slice A.sa n2 A.sc) (.slice A.ba n3 A.bc))
 x:w.heap[xb]?=some xO
 bel:Below w0.heap.size w0 w
 lm:w0.heap.size<=mb/\w0.heap.size<=xb/\xb≠mb
section
variable {w0 w w2:World} {xb mb n1 n2 n3 g cap:Nat} {xO:Obj} {A:q_gk} {kc ks kb:List (Nat×Obj)}
theorem VB.next (h:VB w0 xb mb xO n1 n2 n3 A kc ks kb w) (hb:Below w.heap.size w w2):VB w0 xb mb xO n1 n2 n3 A kc ks kb w2 :=
 ⟨h.c,h.s,h.b,fun p hp=>⟨au hb ab (h.at_ p hp).1,(h.at_ p hp).2⟩,h.lo,h.d1,h.d2,au hb ab h.m,au hb ab h.x,Below.up h.bel ab hb,h.lm⟩
theorem VB.kept (h:VB w0 xb mb xO n1 n2 n3 A kc ks kb w) {K:List (Nat×Obj)} {w':World} (hK:∀p∈K,p∈kc++(ks++kb)) (ht:ax (fun j=>j=mb\/JB K j) w w') (hg:JB K g\/w.heap.size<=g):w'.heap[xb]?=some xO/\Below w0.heap.size w0 w'/\g≠xb/\w0.heap.size<=g:=by
 have hxl:=(aA.1 h.x).1;have hJ:∀j,JB K j->j≠xb/\w0.heap.size<=j:=fun j ⟨p,hp,e⟩=>e▸h.lo p (hK p hp);refine⟨(ht.block xb hxl (fun e=>?_)).trans h.x,h.bel.trans (ht.below (fun j hj=>?_) h.bel.size),?_,?_⟩
 ·rcases e with e|e
  ·exact h.lm.2.2 e
  ·exact(hJ xb e).1 rfl
 ·rcases hj with rfl|e
  ·exact h.lm.1
  ·exact(hJ j e).2
 ·rcases hg with e|e
  ·exact(hJ g e).1
  ·omega
 ·rcases hg with e|e
  ·exact(hJ g e).2
  ·have:=h.bel.size;omega
theorem VB.L8 (h:VB w0 xb mb xO n1 n2 n3 A kc ks kb w) (hown:w2.ownsRow 0 3 1 (.slice (some ⟨g,0,none⟩) (n1+1) cap) (n1+1) (aE (Ag n1)++[.int .i64 ((n1:Int)+1)])) (hg:w.grownBy w2 (Value.slice A.ca n1 A.cc).ownBlock) (hwh:(Value.slice A.ca n1 A.cc).ownBlock=some g\/w.heap.size<=g) (hlt:g<w2.heap.size) :
 w2.heap[mb]?=some (vO (.slice A.ca n1 A.cc) (.slice A.sa n2 A.sc) (.slice A.ba n3 A.bc))/\∃o,VB w0 xb mb xO (n1+1) n2 n3 {A with ca:=some ⟨g,0,none⟩,cc:=cap} [(g,o)] ks kb (w2.setCell ⟨mb,1,none⟩ (.slice (some ⟨g,0,none⟩) (n1+1) cap)):=by
 obtain⟨o,q1,q2,q3,q4,q5,q6⟩:=sY (i:=1) h.c h.m h.at_ h.d1 hown hg hwh hlt;obtain⟨k1,k2,k3,k4⟩:=h.kept (fun p hp=>aH _ hp) q6 q4;refine⟨q5,o,by rw[Is];exact q1,h.s,h.b,q2,fun p hp=>?_,q3,h.d2,by rw[av (i:=1) q5];simp[vO],k1,k2,h.lm⟩;rcases aK.1 hp with hp|hp
 ·rw[aN.1 hp];exact⟨k3,k4⟩
 ·exact h.lo p (aD _ hp)
theorem VB.L7 (h:VB w0 xb mb xO n1 n2 n3 A kc ks kb w) (hown:w2.ownsRow 0 3 1 (.slice (some ⟨g,0,none⟩) (n2+1) cap) (n2+1) (aE (List.replicate n2 1)++[.int .i64 1])) (hg:w.grownBy w2 (Value.slice A.sa n2 A.sc).ownBlock) (hwh:(Value.slice A.sa n2 A.sc).ownBlock=some g\/w.heap.size<=g) (hlt:g<w2.heap.size) :
 w2.heap[mb]?=some (vO (.slice A.ca n1 A.cc) (.slice A.sa n2 A.sc) (.slice A.ba n3 A.bc))/\∃o,VB w0 xb mb xO n1 (n2+1) n3 {A with sa:=some ⟨g,0,none⟩,sc:=cap} kc [(g,o)] kb (w2.setCell ⟨mb,2,none⟩ (.slice (some ⟨g,0,none⟩) (n2+1) cap)):=by
 have hm:∀p,p∈ks++(kc++kb)->p∈kc++(ks++kb):=fun p hp=>by simp only[List.mem_append]at hp ⊢;rcases hp with e|e|e <;> simp[e]
 obtain⟨o,q1,q2,q3,q4,q5,q6⟩:=sY (i:=2) (K2:=kc) (K3:=kb) h.s h.m (fun p hp=>h.at_ p (hm p hp)) (fun p hp q hq=>(aK.1 hq).elim (fun e1 e2=>h.d1 q e1 p (aH _ hp) e2.symm) (fun e1=>h.d2 p hp q e1)) hown hg hwh hlt;obtain⟨k1,k2,k3,k4⟩:=h.kept (fun p hp=>aD _ (aH _ hp)) q6 q4;have hq:∀p,p∈kc++([(g,o)]++kb)->p∈[(g,o)]++(kc++kb):=fun p hp=>by
  rcases aK.1 hp with e|e
  ·exact aD _ (aH _ e)
  ·exact(aK.1 e).elim (aH _) (fun e=>aD _ (aD _ e))
 refine⟨q5,o,h.c,by rw[zb];exact q1,h.b,fun p hp=>q2 p (hq p hp),fun p hp=>?_,fun p hp q hq=>?_,fun p hp q hq=>q3 p hp q (aD _ hq),by rw[av (i:=2) q5];simp[vO],k1,k2,h.lm⟩
 ·rcases aK.1 (hq p hp)with e|e
  ·rw[aN.1 e];exact⟨k3,k4⟩
  ·exact h.lo p (hm p (aD _ e))
 ·rcases aK.1 hq with e|e
  ·exact fun e2=>q3 q e p (aH _ hp) e2.symm
  ·exact h.d1 p hp q (aD _ e)
theorem VB.L6 (h:VB w0 xb mb xO n1 n2 n3 A kc ks kb w) (hown:w2.ownsRow 0 3 1 (.slice (some ⟨g,0,none⟩) (n3+1) cap) (n3+1) (aE (List.replicate n3 0)++[.int .i64 0])) (hg:w.grownBy w2 (Value.slice A.ba n3 A.bc).ownBlock) (hwh:(Value.slice A.ba n3 A.bc).ownBlock=some g\/w.heap.size<=g) (hlt:g<w2.heap.size) :
 w2.heap[mb]?=some (vO (.slice A.ca n1 A.cc) (.slice A.sa n2 A.sc) (.slice A.ba n3 A.bc))/\∃o,VB w0 xb mb xO n1 n2 (n3+1) {A with ba:=some ⟨g,0,none⟩,bc:=cap} kc ks [(g,o)] (w2.setCell ⟨mb,3,none⟩ (.slice (some ⟨g,0,none⟩) (n3+1) cap)):=by
 have hm:∀p,p∈kb++(kc++ks)->p∈kc++(ks++kb):=fun p hp=>by simp only[List.mem_append]at hp ⊢;rcases hp with e|e|e <;> simp[e]
 obtain⟨o,q1,q2,q3,q4,q5,q6⟩:=sY (i:=3) (K2:=kc) (K3:=ks) h.b h.m (fun p hp=>h.at_ p (hm p hp)) (fun p hp q hq=>(aK.1 hq).elim (fun e1 e2=>h.d1 q e1 p (aD _ hp) e2.symm) (fun e1 e2=>h.d2 q e1 p hp e2.symm)) hown hg hwh hlt;obtain⟨k1,k2,k3,k4⟩:=h.kept (fun p hp=>aD _ (aD _ hp)) q6 q4;have hq:∀p,p∈kc++(ks++[(g,o)])->p∈[(g,o)]++(kc++ks):=fun p hp=>by
  rcases aK.1 hp with e|e
  ·exact aD _ (aH _ e)
  ·exact(aK.1 e).elim (fun e=>aD _ (aD _ e)) (aH _)
 refine⟨q5,o,h.c,h.s,by rw[zb];exact q1,fun p hp=>q2 p (hq p hp),fun p hp=>?_,fun p hp q hq=>?_,fun p hp q hq e2=>?_,by rw[av (i:=3) q5];simp[vO],k1,k2,h.lm⟩
 ·rcases aK.1 (hq p hp)with e|e
  ·rw[aN.1 e];exact⟨k3,k4⟩
  ·exact h.lo p (hm p (aD _ e))
 ·rcases aK.1 hq with e|e
  ·exact h.d1 p hp q (aH _ e)
  ·exact fun e2=>q3 q e p (aH _ hp) e2.symm
 ·exact q3 q hq p (aD _ hp) e2.symm
theorem VB.cells (h:VB w0 xb mb xO n1 n2 n3 A kc ks kb w):w.cell? ⟨mb,0,none⟩=some (.int .i64 1)/\w.cell? ⟨mb,1,none⟩=some (.slice A.ca n1 A.cc)/\w.cell? ⟨mb,2,none⟩=some (.slice A.sa n2 A.sc)/\w.cell? ⟨mb,3,none⟩=some (.slice A.ba n3 A.bc):=by
 refine⟨?_,?_,?_,?_⟩ <;> (rw[aw h.m];rfl)
end
end Go.Proofs.YtmgmknmaepjnoaaGreatDoor
