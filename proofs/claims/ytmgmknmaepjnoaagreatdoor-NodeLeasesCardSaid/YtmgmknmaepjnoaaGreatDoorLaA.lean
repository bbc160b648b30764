/-
  Nodes of the law package 21: with the rows that it keeps of what they say; nodes that are made one behind the other.
-/
import Derived.Test.YtmgmknmaepjnoaaGreatDoorTak
import Derived.Test.YtmgmknmaepjnoaaGreatDoorSay
import Derived.Test.YtmgmknmaepjnoaaGreatDoorAsk
namespace Go.Proofs.YtmgmknmaepjnoaaGreatDoor
open Go.RowKit Go.Shelf Go.Sort Proofs.Tryz
def cu (R:(Nat→Prop)→(Nat→Prop)→World→Prop) (a:World) (nb lg sb:Nat) (room:Int) (s:Lg.S) (fs:List Dk.ah) (st:Stat) (N:Nd) (xb:Nat) (nv dv:Value) (kn:List (Nat×Obj)) (H Wr:List (Int×Value)) (F:List Int) (JX:List (Nat×Obj)) (w:World):Prop :=
 ∃P,iV xb H Wr F P∧(∀p∈kn++JX,¬JB (aU xb nv dv H Wr F P) p.1)∧ak R (aU xb nv dv H Wr F P++(kn++JX)) a nb lg sb room s fs st N w
section
variable {R:(Nat→Prop)→(Nat→Prop)→World→Prop} {a w w':World} {nb lg sb nb2 lg2 sb2:Nat} {room:Int} {s s2:Lg.S} {fs fs2:List Dk.ah} {st st2:Stat} {N N2:Nd} {O:List (Int×Value)} {xb:Nat} {nv dv v:Value} {kn JX JX':List (Nat×Obj)} {H Wr:List (Int×Value)} {F:List Int} {P:iU}
theorem cu.next (h:cu R a nb lg sb room s fs st N xb nv dv kn H Wr F JX w) (hR:aB a R) (hb:Below w.heap.size w w'):cu R a nb lg sb room s fs st N xb nv dv kn H Wr F JX w':=by
 obtain⟨P,h1,h2,h3⟩:=h
 exact⟨P,h1,h2,h3.next hR hb⟩
theorem cu.swap (h:cu (gO a nb2 lg2 sb2 room s2 fs2 st2 N2) a nb lg sb room s fs st N xb nv dv kn H Wr F JX w):cu (gO a nb lg sb room s fs st N) a nb2 lg2 sb2 room s2 fs2 st2 N2 xb nv dv kn H Wr F JX w:=by
 obtain⟨P,h1,h2,h3⟩:=h
 exact⟨P,h1,h2,h3.swap⟩
theorem jK (fr:Int) (hT:d' R (aU xb nv dv H Wr F P++(kn++JX)) a nb lg sb room s fs st N O v w) (hK:iV xb H Wr F P) (hap:∀p∈kn++JX,¬JB (aU xb nv dv H Wr F P) p.1) (hR:aB a R) (ho:∀p∈O,p.2.oneCell'=true) (hn:H.length+O.length≤100000∧Wr.length+O.length≤100000∧F.length+O.length≤100000) :
 Calls prog 9 #[.pointer (some ⟨xb,0,none⟩),.int .i64 fr,v] w fun e w'=>e=.returned (.tuple #[])∧cu R a nb lg sb room s fs st {N with outs:=[]} xb nv dv kn (H++dm O) (Wr++cS O) (F++(cS O).map fun _=>fr) JX w':=by
 obtain⟨oa,oc,Ko,rfl,hk,hoff,h⟩:=hT
 have hj:∀p∈aU xb nv dv H Wr F P++(kn++JX),w.heap[p.1]?=some p.2:=fun p hp=>h.bf p (aJ _ hp)
 refine(Ee fr O hK (fun p hp=>hj p (aK _ hp)) hk (fun p hp=>h.bf p (aK _ hp)) (fun p hp ⟨q,hq,e⟩=>hoff p hp q (aK _ hq) e.symm) ho hn).mono ?_
 rintro e w' ⟨rfl,P',k1,k2,k3⟩
 refine⟨rfl,P',k1,fun p hp ⟨q,hq,e⟩=>?_,h.cE hR (k3.wide fun j ⟨p,hp,e⟩=>⟨p,aJ _ (aK _ hp),e⟩) (fun p hp=>?_)⟩
 ·rcases (k2 q hq).1 with e2|e2
  ·exact hap p hp (e▸e2)
  ·have:=(aA.1 (hj p (aJ _ hp))).1;omega
 ·rcases aO.1 hp with hp|hp
  ·exact⟨(k2 p hp).1.imp (fun ⟨q,hq,e⟩=>⟨q,aJ _ (aK _ hq),e⟩) id,(k2 p hp).2⟩
  ·have hw:=hj p (aJ _ hp)
   exact⟨.inl ⟨p,aJ _ (aJ _ hp),rfl⟩,(k3.block p.1 (aA.1 hw).1 (hap p hp)).trans hw⟩
theorem d'.drop {J:List (Nat×Obj)} (h:d' R J a nb lg sb room s fs st N O v w) (hR:aB a R):ak R J a nb lg sb room s fs st {N with outs:=[]} w∧∃oa oc,v=.slice oa O.length oc:=by
 obtain⟨oa,oc,Ko,rfl,hk,hoff,h⟩:=h
 exact⟨h.less hR fun p hp=>aJ _ hp,oa,oc,rfl⟩
end
theorem rZ {w w2:World} {xb i:Nat} {O:Obj} {K K2 K3:List (Nat×Obj)} {t:TypeId} {sz n n' g cap:Nat} {xs xs':List Value} {v:Value} (hr:cW t sz v n xs K) (hx:w.heap[xb]?=some O) (hK:∀p∈K++(K2++K3),w.heap[p.1]?=some p.2∧p.1≠xb) (hKo:∀p∈K,∀q∈K2++K3,p.1≠q.1)
 (hown:w2.ownsRow 0 t sz (.slice (some ⟨g,0,none⟩) n' cap) n' xs') (hg:w.grownBy w2 v.ownBlock) (hwh:v.ownBlock=some g∨w.heap.size≤g) (hlt:g<w2.heap.size) :
 ∃o,cW t sz (.slice (some ⟨g,0,none⟩) n' cap) n' xs' [(g,o)]∧(∀p∈[(g,o)]++(K2++K3),(w2.setCell ⟨xb,i,none⟩ (.slice (some ⟨g,0,none⟩) n' cap)).heap[p.1]?=some p.2∧p.1≠xb)∧(∀p∈[(g,o)],∀q∈K2++K3,p.1≠q.1)∧(JB K g∨w.heap.size≤g)∧w2.heap[xb]?=some O ∧
  ar (fun j=>j=xb∨JB K j) w (w2.setCell ⟨xb,i,none⟩ (.slice (some ⟨g,0,none⟩) n' cap)):=by
 obtain⟨o,q1,q2,q3,q4,q5,q6,q7,q8⟩:=jL (i:=i) (xb:=xb) (Ko:=K2++K3) hr hx hK hKo hown hg hwh hlt
 refine⟨o,q1,fun p hp=>?_,fun p hp q hq=>?_,q4,q5,q6⟩
 ·rcases aO.1 hp with hp|hp
  ·rw[aQ.1 hp];exact⟨q7,q2⟩
  ·exact⟨q8 p hp,(hK p (aJ _ hp)).2⟩
 ·rw[aQ.1 hp];exact q3 q hq
def cj (m:Nat):Vw:=if m=1 then ⟨1,[1],[1],[0]⟩ else ⟨1,[1,2],[1,1],[0,0]⟩
theorem Kd:gp ⟨1,[1],[1],[0]⟩:=by
 refine⟨by decide,by decide,by decide,by decide,rfl,rfl,fun i n s b h1 h2 h3=>?_⟩
 match i with
 |0=>simp at h1 h2 h3;subst h1 h2 h3;simp
 |i+1=>simp at h1
theorem IT (e:Int) (he:1≤e∧e≤274877906944):gp ⟨e,[1,2],[1,1],[0,0]⟩:=by
 refine⟨he.1,he.2,by simp,by simp,rfl,rfl,fun i n s b h1 h2 h3=>?_⟩
 match i with
 |0=>simp at h1 h2 h3;subst h1 h2 h3;simp;omega
 |1=>simp at h1 h2 h3;subst h1 h2 h3;simp;omega
 |i+2=>simp at h1
def fX (id:Int) (d r:Nat) (V:Vw) (ls:Int):Nd:=⟨id,1,d,r,V,ls,none,0,0,[]⟩
theorem iM (m:Nat):gp (cj m):=by
 unfold cj
 split
 ·exact Kd
 ·exact IT 1 (by omega)
theorem mN {m i:Nat} (hm:m=1∨m=2) (hi:i<m):0≤place (cj m) ((i:Int)+1)∧since (cj m) ((i:Int)+1)=1∧jx (cj m) ((i:Int)+1)=0∧(0≤place (cj m) ((i:Int)+1)∧(behind (cj m) ((i:Int)+1)=0↔i+1=m))∧(cj m).ep=1:=by
 rcases hm with rfl|rfl
 ·obtain rfl:i=0:=by omega
  decide
 ·match i,hi with
  |0,_=>decide
  |1,_=>decide
theorem jN {E:Int} {k:Nat} {fs:List Dk.ah} {next:Int} {al:List Int} {L:List Evt.Entry} {N:Nd} (h:Lg.ey et E k fs next al L) (hV:gp N.v) (hp:0≤place N.v N.id) (hs:since N.v N.id=1):fQ N fs:=⟨hV,hp,hs,h.Ek⟩
theorem rn {E:Int} {k:Nat} {fs:List Dk.ah} {next:Int} {al:List Int} {L:List Evt.Entry} {N:Nd} {st:Stat} (h:Lg.ey et E k fs next al L) (hV:gp N.v) (hp:0≤place N.v N.id) (hs:since N.v N.id=1) (ha:st.app=L.length) (hl:L.length≤100):Calm N (Lg.aI next al L) fs st:=by
 cases e:dV N with
 |false=>exact .inl ⟨hV,e⟩
 |true=>exact .inr ⟨jN h hV hp hs,e,ha,hl⟩
def eh (a:World) (m:Nat) (ls:Int):List Nat→List (Nat×Obj)→World→Prop
 |[],J,w=>Below a.heap.size a w∧Env a∧∀p∈J,a.heap.size≤p.1∧w.heap[p.1]?=some p.2
 |[n1],J,w=>∃lg sb d r f,Lg.ey et 1 1 f 1 [] []∧ak mH J a n1 lg sb 4194304 (Lg.aI 1 [] []) f Stat.new (fX 1 d r (cj m) ls) w
 |[n1,n2],J,w=>∃lg sb d r f lg2 sb2 d2 r2 f2,Lg.ey et 1 1 f 1 [] []∧Lg.ey et 1 1 f2 1 [] []∧ak (gO a n2 lg2 sb2 4194304 (Lg.aI 1 [] []) f2 Stat.new (fX 2 d2 r2 (cj m) ls)) J a n1 lg sb 4194304 (Lg.aI 1 [] []) f Stat.new (fX 1 d r (cj m) ls) w
 |_,_,_=>False
section
variable {a w w':World} {m:Nat} {ls:Int} {l:List Nat} {J J':List (Nat×Obj)}
theorem eh.env (h:eh a m ls l J w):Env w:=by
 match l,h with
 |[],h=>exact h.2.1.next (Below.mono h.1 (by exact ab))
 |[_],⟨_,_,_,_,_,_,h⟩=>exact h.env
 |[_,_],⟨_,_,_,_,_,_,_,_,_,_,_,_,h⟩=>exact h.env
theorem eh.below (h:eh a m ls l J w):Below a.heap.size a w:=by
 match l,h with
 |[],h=>exact h.1
 |[_],⟨_,_,_,_,_,_,h⟩=>exact h.below
 |[_,_],⟨_,_,_,_,_,_,_,_,_,_,_,_,h⟩=>exact h.below
theorem eh.bf (h:eh a m ls l J w):∀p∈J,w.heap[p.1]?=some p.2:=by
 match l,h with
 |[],h=>exact fun p hp=>(h.2.2 p hp).2
 |[_],⟨_,_,_,_,_,_,h⟩=>exact h.bf
 |[_,_],⟨_,_,_,_,_,_,_,_,_,_,_,_,h⟩=>exact h.bf
theorem eh.cE (h:eh a m ls l J w) (ht:ar (JB J) w w') (hJ:∀p∈J',(JB J p.1∨w.heap.size≤p.1)∧w'.heap[p.1]?=some p.2):eh a m ls l J' w':=by
 match l,h with
 |[],h =>
  refine⟨h.1.trans (ht.below (fun j ⟨p,hp,e⟩=>e▸(h.2.2 p hp).1) h.1.size),h.2.1,fun p hp=>⟨?_,(hJ p hp).2⟩⟩
  rcases (hJ p hp).1 with⟨q,hq,e⟩|e
  ·exact e▸(h.2.2 q hq).1
  ·exact Nat.le_trans h.1.size e
 |[_],⟨lg,sb,d,r,f,q,h⟩=>exact⟨lg,sb,d,r,f,q,h.cE (eH a) ht hJ⟩
 |[_,_],⟨lg,sb,d,r,f,lg2,sb2,d2,r2,f2,q,q2,h⟩=>exact⟨lg,sb,d,r,f,lg2,sb2,d2,r2,f2,q,q2,h.cE cn ht hJ⟩
theorem eh.make {nb lg sb d r:Nat} {f:List Dk.ah} (h:eh a m ls l J w) (hl:l.length≤1) (hi:Lg.ey et 1 1 f 1 [] []) (g:ak mH [] w nb lg sb 4194304 (Lg.aI 1 [] []) f Stat.new (fX ((l.length:Int)+1) d r (cj m) ls) w') (hr:w.heap.size≤r) (hnb:w.heap.size≤nb):eh a m ls (l++[nb]) J w':=by
 have hb:=g.below
 have hs:(Lg.aI 1 [] []).es=[]:=rfl
 rcases l with _|⟨n1,_|⟨n2,l⟩⟩
 ·have e:(([]:List Nat).length:Int)+1=1:=rfl
  rw[e]at g
  refine⟨lg,sb,d,r,f,hi,ak.lower g h.2.1 hs (Below.up h.1 ab hb) h.1.size hr hnb (fun p hp=>?_)⟩
  have hw:=(h.2.2 p hp).2
  exact⟨(h.2.2 p hp).1,(aA.1 hw).1,ax hb ab hw⟩
 ·have e:(([n1]:List Nat).length:Int)+1=2:=rfl
  rw[e]at g
  obtain⟨lg1,sb1,d1,r1,f1,q,h⟩:=h
  exact⟨lg1,sb1,d1,r1,f1,lg,sb,d,r,f,q,hi,h.join g hs hr⟩
 ·simp at hl
end
def zb (n:Nat):List Int:=(List.range n).map fun (k:Nat)=>(k:Int)+1
theorem GJ (n:Nat):aD (zb (n+1))=aD (zb n)++[.int .i64 ((n:Int)+1)]:=by simp[zb,aD,List.range_succ]
theorem yg (n:Nat) (x:Int):aD (List.replicate (n+1) x)=aD (List.replicate n x)++[.int .i64 x]:=by simp[aD,List.replicate_succ']
def vO (c s b:Value):Obj:=.cells #[.int .i64 1,c,s,b] 47 (0,0)
structure VB (w0:World) (xb mb:Nat) (xO:Obj) (n1 n2 n3:Nat) (A:iy) (kc ks kb:List (Nat×Obj)) (w:World):Prop where
 c:cW 3 1 (.slice A.ca n1 A.cc) n1 (aD (zb n1)) kc
 s:cW 3 1 (.slice A.sa n2 A.sc) n2 (aD (List.replicate n2 1)) ks
 b:cW 3 1 (.slice A.ba n3 A.bc) n3 (aD (List.replicate n3 0)) kb
 at_:∀p∈kc++(ks++kb),w.heap[p.1]?=some p.2∧p.1≠mb
 lo:∀p∈kc++(ks++kb),p.1≠xb∧w0.heap.size≤p.1
 d1:∀p∈kc,∀q∈ks++kb,p.1≠q.1
 d2:∀p∈ks,∀q∈kb,p.1≠q.1
 m:w.heap[mb]?=some (vO (.slice A.ca n1 A.cc) (.slice A.sa n2 A.sc) (.slice A.ba n3 A.bc))
 x:w.heap[xb]?=some xO
 bel:Below w0.heap.size w0 w
 lm:w0.heap.size≤mb∧w0.heap.size≤xb∧xb≠mb
section
variable {w0 w w2:World} {xb mb n1 n2 n3 g cap:Nat} {xO:Obj} {A:iy} {kc ks kb:List (Nat×Obj)}
theorem VB.next (h:VB w0 xb mb xO n1 n2 n3 A kc ks kb w) (hb:Below w.heap.size w w2):VB w0 xb mb xO n1 n2 n3 A kc ks kb w2 :=
 ⟨h.c,h.s,h.b,fun p hp=>⟨ax hb ab (h.at_ p hp).1,(h.at_ p hp).2⟩,h.lo,h.d1,h.d2,ax hb ab h.m,ax hb ab h.x,Below.up h.bel ab hb,h.lm⟩
theorem VB.kept (h:VB w0 xb mb xO n1 n2 n3 A kc ks kb w) {K:List (Nat×Obj)} {w':World} (hK:∀p∈K,p∈kc++(ks++kb)) (ht:ar (fun j=>j=mb∨JB K j) w w') (hg:JB K g∨w.heap.size≤g):w'.heap[xb]?=some xO∧Below w0.heap.size w0 w'∧g≠xb∧w0.heap.size≤g:=by
 have hxl:=(aA.1 h.x).1
 have hJ:∀j,JB K j→j≠xb∧w0.heap.size≤j:=fun j ⟨p,hp,e⟩=>e▸h.lo p (hK p hp)
 refine⟨(ht.block xb hxl (fun e=>?_)).trans h.x,h.bel.trans (ht.below (fun j hj=>?_) h.bel.size),?_,?_⟩
 ·rcases e with e|e
  ·exact h.lm.2.2 e
  ·exact(hJ xb e).1 rfl
 ·rcases hj with rfl|e
  ·exact h.lm.1
  ·exact(hJ j e).2
 ·rcases hg with e|e
  ·exact(hJ g e).1
  ·omega
 ·rcases hg with e|e
  ·exact(hJ g e).2
  ·have:=h.bel.size;omega
theorem VB.KD (h:VB w0 xb mb xO n1 n2 n3 A kc ks kb w) (hown:w2.ownsRow 0 3 1 (.slice (some ⟨g,0,none⟩) (n1+1) cap) (n1+1) (aD (zb n1)++[.int .i64 ((n1:Int)+1)])) (hg:w.grownBy w2 (Value.slice A.ca n1 A.cc).ownBlock) (hwh:(Value.slice A.ca n1 A.cc).ownBlock=some g∨w.heap.size≤g) (hlt:g<w2.heap.size) :
 w2.heap[mb]?=some (vO (.slice A.ca n1 A.cc) (.slice A.sa n2 A.sc) (.slice A.ba n3 A.bc))∧∃o,VB w0 xb mb xO (n1+1) n2 n3 {A with ca:=some ⟨g,0,none⟩,cc:=cap} [(g,o)] ks kb (w2.setCell ⟨mb,1,none⟩ (.slice (some ⟨g,0,none⟩) (n1+1) cap)):=by
 obtain⟨o,q1,q2,q3,q4,q5,q6⟩:=rZ (i:=1) h.c h.m h.at_ h.d1 hown hg hwh hlt
 obtain⟨k1,k2,k3,k4⟩:=h.kept (fun p hp=>aK _ hp) q6 q4
 refine⟨q5,o,by rw[GJ];exact q1,h.s,h.b,q2,fun p hp=>?_,q3,h.d2,by rw[aq (i:=1) q5];simp[vO],k1,k2,h.lm⟩
 rcases aO.1 hp with hp|hp
 ·rw[aQ.1 hp];exact⟨k3,k4⟩
 ·exact h.lo p (aJ _ hp)
theorem VB.KC (h:VB w0 xb mb xO n1 n2 n3 A kc ks kb w) (hown:w2.ownsRow 0 3 1 (.slice (some ⟨g,0,none⟩) (n2+1) cap) (n2+1) (aD (List.replicate n2 1)++[.int .i64 1])) (hg:w.grownBy w2 (Value.slice A.sa n2 A.sc).ownBlock) (hwh:(Value.slice A.sa n2 A.sc).ownBlock=some g∨w.heap.size≤g) (hlt:g<w2.heap.size) :
 w2.heap[mb]?=some (vO (.slice A.ca n1 A.cc) (.slice A.sa n2 A.sc) (.slice A.ba n3 A.bc))∧∃o,VB w0 xb mb xO n1 (n2+1) n3 {A with sa:=some ⟨g,0,none⟩,sc:=cap} kc [(g,o)] kb (w2.setCell ⟨mb,2,none⟩ (.slice (some ⟨g,0,none⟩) (n2+1) cap)):=by
 have hm:∀p,p∈ks++(kc++kb)→p∈kc++(ks++kb):=fun p hp=>by simp only[List.mem_append]at hp ⊢;rcases hp with e|e|e <;> simp[e]
 obtain⟨o,q1,q2,q3,q4,q5,q6⟩:=rZ (i:=2) (K2:=kc) (K3:=kb) h.s h.m (fun p hp=>h.at_ p (hm p hp)) (fun p hp q hq=>(aO.1 hq).elim (fun e1 e2=>h.d1 q e1 p (aK _ hp) e2.symm) (fun e1=>h.d2 p hp q e1)) hown hg hwh hlt
 obtain⟨k1,k2,k3,k4⟩:=h.kept (fun p hp=>aJ _ (aK _ hp)) q6 q4
 have hq:∀p,p∈kc++([(g,o)]++kb)→p∈[(g,o)]++(kc++kb):=fun p hp=>by
  rcases aO.1 hp with e|e
  ·exact aJ _ (aK _ e)
  ·exact(aO.1 e).elim (aK _) (fun e=>aJ _ (aJ _ e))
 refine⟨q5,o,h.c,by rw[yg];exact q1,h.b,fun p hp=>q2 p (hq p hp),fun p hp=>?_,fun p hp q hq=>?_,fun p hp q hq=>q3 p hp q (aJ _ hq),by rw[aq (i:=2) q5];simp[vO],k1,k2,h.lm⟩
 ·rcases aO.1 (hq p hp)with e|e
  ·rw[aQ.1 e];exact⟨k3,k4⟩
  ·exact h.lo p (hm p (aJ _ e))
 ·rcases aO.1 hq with e|e
  ·exact fun e2=>q3 q e p (aK _ hp) e2.symm
  ·exact h.d1 p hp q (aJ _ e)
theorem VB.KB (h:VB w0 xb mb xO n1 n2 n3 A kc ks kb w) (hown:w2.ownsRow 0 3 1 (.slice (some ⟨g,0,none⟩) (n3+1) cap) (n3+1) (aD (List.replicate n3 0)++[.int .i64 0])) (hg:w.grownBy w2 (Value.slice A.ba n3 A.bc).ownBlock) (hwh:(Value.slice A.ba n3 A.bc).ownBlock=some g∨w.heap.size≤g) (hlt:g<w2.heap.size) :
 w2.heap[mb]?=some (vO (.slice A.ca n1 A.cc) (.slice A.sa n2 A.sc) (.slice A.ba n3 A.bc))∧∃o,VB w0 xb mb xO n1 n2 (n3+1) {A with ba:=some ⟨g,0,none⟩,bc:=cap} kc ks [(g,o)] (w2.setCell ⟨mb,3,none⟩ (.slice (some ⟨g,0,none⟩) (n3+1) cap)):=by
 have hm:∀p,p∈kb++(kc++ks)→p∈kc++(ks++kb):=fun p hp=>by simp only[List.mem_append]at hp ⊢;rcases hp with e|e|e <;> simp[e]
 obtain⟨o,q1,q2,q3,q4,q5,q6⟩:=rZ (i:=3) (K2:=kc) (K3:=ks) h.b h.m (fun p hp=>h.at_ p (hm p hp)) (fun p hp q hq=>(aO.1 hq).elim (fun e1 e2=>h.d1 q e1 p (aJ _ hp) e2.symm) (fun e1 e2=>h.d2 q e1 p hp e2.symm)) hown hg hwh hlt
 obtain⟨k1,k2,k3,k4⟩:=h.kept (fun p hp=>aJ _ (aJ _ hp)) q6 q4
 have hq:∀p,p∈kc++(ks++[(g,o)])→p∈[(g,o)]++(kc++ks):=fun p hp=>by
  rcases aO.1 hp with e|e
  ·exact aJ _ (aK _ e)
  ·exact(aO.1 e).elim (fun e=>aJ _ (aJ _ e)) (aK _)
 refine⟨q5,o,h.c,h.s,by rw[yg];exact q1,fun p hp=>q2 p (hq p hp),fun p hp=>?_,fun p hp q hq=>?_,fun p hp q hq e2=>?_,by rw[aq (i:=3) q5];simp[vO],k1,k2,h.lm⟩
 ·rcases aO.1 (hq p hp)with e|e
  ·rw[aQ.1 e];exact⟨k3,k4⟩
  ·exact h.lo p (hm p (aJ _ e))
 ·rcases aO.1 hq with e|e
  ·exact h.d1 p hp q (aK _ e)
  ·exact fun e2=>q3 q e p (aK _ hp) e2.symm
 ·exact q3 q hq p (aJ _ hp) e2.symm
theorem VB.cells (h:VB w0 xb mb xO n1 n2 n3 A kc ks kb w):w.cell? ⟨mb,0,none⟩=some (.int .i64 1)∧w.cell? ⟨mb,1,none⟩=some (.slice A.ca n1 A.cc)∧w.cell? ⟨mb,2,none⟩=some (.slice A.sa n2 A.sc)∧w.cell? ⟨mb,3,none⟩=some (.slice A.ba n3 A.bc):=by
 refine⟨?_,?_,?_,?_⟩ <;> (rw[aw h.m];rfl)
end
end Go.Proofs.YtmgmknmaepjnoaaGreatDoor
