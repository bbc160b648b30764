/-
  What the law package 21 keeps of its nodes: rows of its own; what is told is put by.
-/
import Derived.Test.YtmgmknmaepjnoaaGreatDoorNodF
namespace Go.Proofs.YtmgmknmaepjnoaaGreatDoor
open Go.RowKit Go.Shelf Proofs.Tryz
def dV (t:TypeId) (sz:Nat) (v:Value) (n:Nat) (xs:List Value) (K:List (Nat×Obj)):Prop:=tF v K/\∀W:World,(∀p∈K,W.heap[p.1]?=some p.2)->∀B,(∀p∈K,B<=p.1)->W.ownsRow B t sz v n xs
theorem dV.nil (t:TypeId) (sz:Nat):dV t sz (.slice none 0 0) 0 [] []:=⟨.inl ⟨rfl,rfl⟩,fun W _ B _=>World.ownsRow_nil W B _ _⟩
theorem dV.made {w:World} {t:TypeId} {sz g n cap:Nat} {xs:List Value} (hown:w.ownsRow 0 t sz (.slice (some ⟨g,0,none⟩) n cap) n xs) (hlt:g<w.heap.size):dV t sz (.slice (some ⟨g,0,none⟩) n cap) n xs [(g,w.heap[g]'hlt)]:=by
 refine⟨.inr ⟨g,_,rfl,rfl⟩,fun Z hZ B hB=>?_⟩;have hZ:=hZ (g,w.heap[g]'hlt) (by simp);have hB:=hB (g,w.heap[g]'hlt) (by simp);refine⟨hown.1,.inr ?_⟩;rcases hown.2 with⟨e,_⟩|⟨g2,cap2,cur,e,_,hcur,e3,e4,e5,e6⟩
 ·cases e
 ·simp only[Value.slice.injEq,Option.some.injEq,Addr.mk.injEq,and_true,true_and]at e;obtain⟨e1,e2⟩:=e;subst e1;subst e2;refine⟨_,_,cur,rfl,hB,?_,e3,e4,e5,e6⟩;rw[hZ,<-hcur,Array.getElem?_eq_getElem hlt]
theorem dV.lR {w:World} {t:TypeId} {sz n:Nat} {v:Value} {xs:List Value} {K:List (Nat×Obj)} (h:dV t sz v n xs K) (hw:∀p∈K,w.heap[p.1]?=some p.2):w.ownsRow 0 t sz v n xs:=h.2 w hw 0 (fun _ _=>Nat.zero_le _)
theorem ke {w w2:World} {xb i:Nat} {O:Obj} {K Ko:List (Nat×Obj)} {t:TypeId} {sz n n' g cap:Nat} {xs xs':List Value} {v:Value} (hr:dV t sz v n xs K) (hx:w.heap[xb]?=some O) (hK:∀p∈K++Ko,w.heap[p.1]?=some p.2/\p.1≠xb) (hKo:∀p∈K,∀q∈Ko,p.1≠q.1)
 (hown:w2.ownsRow 0 t sz (.slice (some ⟨g,0,none⟩) n' cap) n' xs') (hg:w.grownBy w2 v.ownBlock) (hwh:v.ownBlock=some g\/w.heap.size<=g) (hlt:g<w2.heap.size) :
 ∃o,dV t sz (.slice (some ⟨g,0,none⟩) n' cap) n' xs' [(g,o)]/\g≠xb/\(∀q∈Ko,g≠q.1)/\(JB K g\/w.heap.size<=g)/\w2.heap[xb]?=some O /\
  ax (fun j=>j=xb\/JB K j) w (w2.setCell ⟨xb,i,none⟩ (.slice (some ⟨g,0,none⟩) n' cap))/\(w2.setCell ⟨xb,i,none⟩ (.slice (some ⟨g,0,none⟩) n' cap)).heap[g]?=some o/\∀q∈Ko,(w2.setCell ⟨xb,i,none⟩ (.slice (some ⟨g,0,none⟩) n' cap)).heap[q.1]?=some q.2:=by
 have hown0:∀b,v.ownBlock=some b->∃o,K=[(b,o)]:=fun b hb=>by
  rcases hr.1 with⟨h0,_⟩|⟨g',o',h1,h2⟩
  ·rw[h0]at hb;cases hb
  ·rw[h1]at hb;cases hb;exact⟨o',h2⟩
 have hxl:=(aA.1 hx).1;have hgx:g≠xb:=by
  rcases hwh with e|e
  ·obtain⟨o,rfl⟩:=hown0 g e;exact(hK (g,o) (by simp)).2
  ·omega
 have hJK:JB K g\/w.heap.size<=g:=by
  rcases hwh with e|e
  ·obtain⟨o,rfl⟩:=hown0 g e;exact .inl ⟨(g,o),by simp,rfl⟩
  ·exact .inr e
 have hne:∀j,¬JB K j->some j≠v.ownBlock:=fun j hj e=>by
  obtain⟨o,rfl⟩:=hown0 j e.symm;exact hj ⟨(j,o),by simp,rfl⟩
 have hxK:¬JB K xb:=fun ⟨p,hp,e⟩=>(hK p (aH _ hp)).2 e;refine⟨w2.heap[g]'hlt,dV.made hown hlt,hgx,fun q hq e=>?_,hJK,(hg.block xb hxl (hne xb hxK)).trans hx,ax.trans (f2:=fun j=>j=xb) (ax.gB hg (fun b hb=>by
  obtain⟨o,rfl⟩:=hown0 b hb;exact .inr ⟨(b,o),by simp,rfl⟩)) (ax.cq (az w2 xb i _) rfl) (fun j hj=>.inl (.inl hj)),(Below.heap_setCell w2 ⟨xb,i,none⟩ _ g hgx).trans (Array.getElem?_eq_getElem hlt),fun q hq=>?_⟩
 ·rcases hJK with⟨p,hp,e2⟩|e2
  ·exact hKo p hp q hq (e2.trans e)
  ·have:=(aA.1 (hK q (aD _ hq)).1).1;omega
 ·obtain⟨h1,h2⟩:=hK q (aD _ hq);exact(Below.heap_setCell w2 ⟨xb,i,none⟩ _ q.1 h2).trans ((hg.block q.1 (aA.1 h1).1 (hne q.1 fun ⟨p,hp,e⟩=>hKo p hp q hq e)).trans h1)
structure jc where
 ha:Option Addr
 hc:Nat
 wa:Option Addr
 wc:Nat
 fa:Option Addr
 fc:Nat
 kh:List (Nat×Obj)
 kw:List (Nat×Obj)
 kf:List (Nat×Obj)
def dt (nv dv:Value) (H Wr:List (Int×Value)) (F:List Int) (P:jc):Obj:=.cells #[nv,dv,.slice P.ha H.length P.hc,.slice P.wa Wr.length P.wc,.slice P.fa F.length P.fc] 34 (0,0)
def bn (xb:Nat) (nv dv:Value) (H Wr:List (Int×Value)) (F:List Int) (P:jc):List (Nat×Obj):=(xb,dt nv dv H Wr F P)::(P.kh++P.kw++P.kf)
structure js (xb:Nat) (H Wr:List (Int×Value)) (F:List Int) (P:jc):Prop where
 h:dV 62 2 (.slice P.ha H.length P.hc) H.length (cU H) P.kh
 w:dV 62 2 (.slice P.wa Wr.length P.wc) Wr.length (cU Wr) P.kw
 f:dV 3 1 (.slice P.fa F.length P.fc) F.length (aE F) P.kf
 x:∀p∈P.kh++P.kw++P.kf,p.1≠xb
 hw:∀p∈P.kh,∀q∈P.kw,p.1≠q.1
 hf:∀p∈P.kh,∀q∈P.kf,p.1≠q.1
 wf:∀p∈P.kw,∀q∈P.kf,p.1≠q.1
def fL (xb:Nat) (nv dv:Value) (H Wr:List (Int×Value)) (F:List Int) (P:jc) (H' Wr':List (Int×Value)) (F':List Int) (w w':World):Prop :=
 ∃P',js xb H' Wr' F' P'/\(∀p∈bn xb nv dv H' Wr' F' P',(JB (bn xb nv dv H Wr F P) p.1\/w.heap.size<=p.1)/\w'.heap[p.1]?=some p.2)/\ax (JB (bn xb nv dv H Wr F P)) w w'
theorem fL.refl {xb:Nat} {nv dv:Value} {H Wr:List (Int×Value)} {F:List Int} {P:jc} {w:World} (h:js xb H Wr F P) (hj:∀p∈bn xb nv dv H Wr F P,w.heap[p.1]?=some p.2):fL xb nv dv H Wr F P H Wr F w w :=
 ⟨P,h,fun p hp=>⟨.inl ⟨p,hp,rfl⟩,hj p hp⟩,ax.refl _ _⟩
theorem fL.behind {xb:Nat} {nv dv:Value} {H Wr H2 Wr2 H3 Wr3:List (Int×Value)} {F F2 F3:List Int} {P P2:jc} {w w2 w3:World} (h2:∀p∈bn xb nv dv H2 Wr2 F2 P2,(JB (bn xb nv dv H Wr F P) p.1\/w.heap.size<=p.1)/\w2.heap[p.1]?=some p.2) (h3:ax (JB (bn xb nv dv H Wr F P)) w w2) (k:fL xb nv dv H2 Wr2 F2 P2 H3 Wr3 F3 w2 w3):fL xb nv dv H Wr F P H3 Wr3 F3 w w3:=by
 obtain⟨P3,k1,k2,k3⟩:=k;have hj:∀j,JB (bn xb nv dv H2 Wr2 F2 P2) j->JB (bn xb nv dv H Wr F P) j\/w.heap.size<=j:=fun j ⟨p,hp,e⟩=>e▸(h2 p hp).1;exact⟨P3,k1,fun p hp=>⟨(k2 p hp).1.elim (hj _) (fun e=>.inr (Nat.le_trans h3.size e)),(k2 p hp).2⟩,h3.trans k3 hj⟩
theorem fL.DO {xb:Nat} {nv dv:Value} {H Wr H3 Wr3:List (Int×Value)} {F F3:List Int} {P:jc} {w w2 w3:World} (hj:∀p∈bn xb nv dv H Wr F P,w.heap[p.1]?=some p.2) (hb:Below w.heap.size w w2) (k:fL xb nv dv H Wr F P H3 Wr3 F3 w2 w3):fL xb nv dv H Wr F P H3 Wr3 F3 w w3 :=
 fL.behind (fun p hp=>⟨.inl ⟨p,hp,rfl⟩,au hb ab (hj p hp)⟩) (ax.aI hb) k
section
variable {xb:Nat} {nv dv:Value} {H Wr:List (Int×Value)} {F:List Int} {P:jc} {w w2:World} {g cap:Nat}
theorem js.heard (h:js xb H Wr F P) (hj:∀p∈bn xb nv dv H Wr F P,w.heap[p.1]?=some p.2) (x:Int×Value) (hown:w2.ownsRow 0 62 2 (.slice (some ⟨g,0,none⟩) (H.length+1) cap) (H.length+1) (cU H++[.int .i64 x.1,x.2])) (hg:w.grownBy w2 (Value.slice P.ha H.length P.hc).ownBlock) (hwh:(Value.slice P.ha H.length P.hc).ownBlock=some g\/w.heap.size<=g) (hlt:g<w2.heap.size) :
 fL xb nv dv H Wr F P (H++[x]) Wr F w (w2.setCell ⟨xb,2,none⟩ (.slice (some ⟨g,0,none⟩) (H.length+1) cap)):=by
 have hj2:∀p∈P.kh++P.kw++P.kf,w.heap[p.1]?=some p.2:=fun p hp=>hj p (List.mem_cons_of_mem _ hp);obtain⟨o,q1,q2,q3,q4,q5,q6,q7,q8⟩:=ke (i:=2) (xb:=xb) (Ko:=P.kw++P.kf) h.h (hj (xb,dt nv dv H Wr F P) (by simp[bn])) (fun p hp=>by rw[<-List.append_assoc]at hp;exact⟨hj2 p hp,h.x p hp⟩) (fun p hp q hq=>(aK.1 hq).elim (h.hw p hp q) (h.hf p hp q)) hown hg hwh hlt;refine⟨{P with ha:=some ⟨g,0,none⟩,hc:=cap,kh:=[(g,o)]},⟨by simpa only[List.length_append,List.length_cons,List.length_nil,lW]using q1,h.w,h.f,fun p hp=>?_,fun p hp q hq=>?_,fun p hp q hq=>?_,h.wf⟩,fun p hp=>?_,q6.wide fun j hjj=>?_⟩
 ·rw[List.append_assoc]at hp;rcases aK.1 hp with hp|hp
  ·rw[aN.1 hp];exact q2
  ·exact h.x p (by rw[List.append_assoc];exact aD _ hp)
 ·rw[aN.1 hp];exact q3 q (aH _ hq)
 ·rw[aN.1 hp];exact q3 q (aD _ hq)
 ·unfold bn at hp;rw[List.append_assoc]at hp;rcases List.mem_cons.1 hp with rfl|hp
  ·exact⟨.inl ⟨(xb,dt nv dv H Wr F P),by simp[bn],rfl⟩,by rw[av (i:=2) q5];simp[dt]⟩
  ·rcases aK.1 hp with hp|hp
   ·rw[aN.1 hp];exact⟨q4.imp (fun ⟨z,hz,e⟩=>⟨z,by simp[bn,hz],e⟩) id,q7⟩
   ·exact⟨.inl ⟨p,by rw[bn,List.append_assoc];exact List.mem_cons_of_mem _ (aD _ hp),rfl⟩,q8 p hp⟩
 ·rcases hjj with rfl|⟨z,hz,e⟩
  ·exact⟨(j,dt nv dv H Wr F P),by simp[bn],rfl⟩
  ·exact⟨z,by simp[bn,hz],e⟩
theorem js.K1 (h:js xb H Wr F P) (hj:∀p∈bn xb nv dv H Wr F P,w.heap[p.1]?=some p.2) (x:Int×Value) (hown:w2.ownsRow 0 62 2 (.slice (some ⟨g,0,none⟩) (Wr.length+1) cap) (Wr.length+1) (cU Wr++[.int .i64 x.1,x.2])) (hg:w.grownBy w2 (Value.slice P.wa Wr.length P.wc).ownBlock) (hwh:(Value.slice P.wa Wr.length P.wc).ownBlock=some g\/w.heap.size<=g) (hlt:g<w2.heap.size) :
 fL xb nv dv H Wr F P H (Wr++[x]) F w (w2.setCell ⟨xb,3,none⟩ (.slice (some ⟨g,0,none⟩) (Wr.length+1) cap)):=by
 have hj2:∀p∈P.kh++P.kw++P.kf,w.heap[p.1]?=some p.2:=fun p hp=>hj p (List.mem_cons_of_mem _ hp);have hm:∀p,p∈P.kw++(P.kh++P.kf)->p∈P.kh++P.kw++P.kf:=fun p hp=>by simp only[List.mem_append]at hp ⊢;rcases hp with e|e|e <;> simp[e]
 obtain⟨o,q1,q2,q3,q4,q5,q6,q7,q8⟩:=ke (i:=3) (xb:=xb) (Ko:=P.kh++P.kf) h.w (hj (xb,dt nv dv H Wr F P) (by simp[bn])) (fun p hp=>⟨hj2 p (hm p hp),h.x p (hm p hp)⟩) (fun p hp q hq=>(aK.1 hq).elim (fun e1 e2=>h.hw q e1 p hp e2.symm) (h.wf p hp q)) hown hg hwh hlt;refine⟨{P with wa:=some ⟨g,0,none⟩,wc:=cap,kw:=[(g,o)]},⟨h.h,by simpa only[List.length_append,List.length_cons,List.length_nil,lW]using q1,h.f,fun p hp=>?_,fun p hp q hq=>?_,h.hf,fun p hp q hq=>?_⟩,fun p hp=>?_,q6.wide fun j hjj=>?_⟩
 ·rcases aK.1 hp with hp|hp
  ·rcases aK.1 hp with hp|hp
   ·exact h.x p (by simp[hp])
   ·rw[aN.1 hp];exact q2
  ·exact h.x p (by simp[hp])
 ·rw[aN.1 hq];exact fun e=>q3 p (aH _ hp) e.symm
 ·rw[aN.1 hp];exact q3 q (aD _ hq)
 ·rcases List.mem_cons.1 hp with rfl|hp
  ·exact⟨.inl ⟨(xb,dt nv dv H Wr F P),by simp[bn],rfl⟩,by rw[av (i:=3) q5];simp[dt]⟩
  ·have hold:p∈P.kh++P.kf->(JB (bn xb nv dv H Wr F P) p.1\/w.heap.size<=p.1)/\(w2.setCell ⟨xb,3,none⟩ (.slice (some ⟨g,0,none⟩) (Wr.length+1) cap)).heap[p.1]?=some p.2:=fun hp=>⟨.inl ⟨p,List.mem_cons_of_mem _ (hm p (aD _ hp)),rfl⟩,q8 p hp⟩;rcases aK.1 hp with hp|hp
   ·rcases aK.1 hp with hp|hp
    ·exact hold (aH _ hp)
    ·rw[aN.1 hp];exact⟨q4.imp (fun ⟨z,hz,e⟩=>⟨z,by simp[bn,hz],e⟩) id,q7⟩
   ·exact hold (aD _ hp)
 ·rcases hjj with rfl|⟨z,hz,e⟩
  ·exact⟨(j,dt nv dv H Wr F P),by simp[bn],rfl⟩
  ·exact⟨z,by simp[bn,hz],e⟩
theorem js.Ll (h:js xb H Wr F P) (hj:∀p∈bn xb nv dv H Wr F P,w.heap[p.1]?=some p.2) (x:Int) (hown:w2.ownsRow 0 3 1 (.slice (some ⟨g,0,none⟩) (F.length+1) cap) (F.length+1) (aE F++[.int .i64 x])) (hg:w.grownBy w2 (Value.slice P.fa F.length P.fc).ownBlock) (hwh:(Value.slice P.fa F.length P.fc).ownBlock=some g\/w.heap.size<=g) (hlt:g<w2.heap.size) :
 fL xb nv dv H Wr F P H Wr (F++[x]) w (w2.setCell ⟨xb,4,none⟩ (.slice (some ⟨g,0,none⟩) (F.length+1) cap)):=by
 have hj2:∀p∈P.kh++P.kw++P.kf,w.heap[p.1]?=some p.2:=fun p hp=>hj p (List.mem_cons_of_mem _ hp);have hm:∀p,p∈P.kf++(P.kh++P.kw)->p∈P.kh++P.kw++P.kf:=fun p hp=>by simp only[List.mem_append]at hp ⊢;rcases hp with e|e|e <;> simp[e]
 obtain⟨o,q1,q2,q3,q4,q5,q6,q7,q8⟩:=ke (i:=4) (xb:=xb) (Ko:=P.kh++P.kw) h.f (hj (xb,dt nv dv H Wr F P) (by simp[bn])) (fun p hp=>⟨hj2 p (hm p hp),h.x p (hm p hp)⟩) (fun p hp q hq=>(aK.1 hq).elim (fun e1 e2=>h.hf q e1 p hp e2.symm) (fun e1 e2=>h.wf q e1 p hp e2.symm)) hown hg hwh hlt;refine⟨{P with fa:=some ⟨g,0,none⟩,fc:=cap,kf:=[(g,o)]},⟨h.h,h.w,by
  have e:aE (F++[x])=aE F++[.int .i64 x]:=by simp[aE]
  simpa only[List.length_append,List.length_cons,List.length_nil,e]using q1,fun p hp=>?_,h.hw,fun p hp q hq=>?_,fun p hp q hq=>?_⟩,fun p hp=>?_,q6.wide fun j hjj=>?_⟩
 ·rcases aK.1 hp with hp|hp
  ·exact h.x p (aH _ hp)
  ·rw[aN.1 hp];exact q2
 ·rw[aN.1 hq];exact fun e=>q3 p (aH _ hp) e.symm
 ·rw[aN.1 hq];exact fun e=>q3 p (aD _ hp) e.symm
 ·rcases List.mem_cons.1 hp with rfl|hp
  ·exact⟨.inl ⟨(xb,dt nv dv H Wr F P),by simp[bn],rfl⟩,by rw[av (i:=4) q5];simp[dt]⟩
  ·rcases aK.1 hp with hp|hp
   ·exact⟨.inl ⟨p,List.mem_cons_of_mem _ (hm p (aD _ hp)),rfl⟩,q8 p hp⟩
   ·rw[aN.1 hp];exact⟨q4.imp (fun ⟨z,hz,e⟩=>⟨z,by simp[bn,hz],e⟩) id,q7⟩
 ·rcases hjj with rfl|⟨z,hz,e⟩
  ·exact⟨(j,dt nv dv H Wr F P),by simp[bn],rfl⟩
  ·exact⟨z,by simp[bn,hz],e⟩
end
def dy (l:List (Int×Value)):List (Int×Value):=l.filter fun p=>decide (1000<p.1)
def cV (l:List (Int×Value)):List (Int×Value):=l.filter fun p=>!decide (1000<p.1)
theorem nV:∀(l:List (Int×Value)) (i:Nat) (hi:i<l.length),(cU l)[i*2]?=some (.int .i64 l[i].1)/\(cU l)[i*2+1]?=some l[i].2
 |p::l,0,_=>⟨rfl,rfl⟩
 |p::l,i+1,hi=>by
  have:=nV l i (by simpa using hi);have e:cU (p::l)=.int .i64 p.1::p.2::cU l:=rfl;rw[e,show(i+1)*2=i*2+2 by omega];exact this
theorem yu {w:World} {v:Value} {l:List (Int×Value)} (h:Cells w v 2 l.length (cU l)) (i:Nat) (hi:i<l.length):∃b o c,v=.slice (some ⟨b,o,none⟩) l.length c/\w.cell? ⟨b,o+i*2,none⟩=some (.int .i64 l[i].1)/\w.cell? ⟨b,o+i*2+1,none⟩=some l[i].2:=by
 rcases h.2 with⟨h0,_⟩|⟨b,o,c,h1,h2⟩
 ·omega
 ·exact⟨b,o,c,h1,h2 _ _ (nV l i hi).1,h2 _ _ (nV l i hi).2⟩
theorem rG {P:Program} {t e:TypeId} {sz:Nat} (E:fh P t e sz) (w:World) (ty:TypeId) (v:Value) (n:Nat) (xs:List Value) (hown:w.ownsRow 0 e sz v n xs) (B:Nat) (news:List Value) (ne:TypeId) (fr:Nat×Nat) (hB:w.heap[B]?=some (.cells news.toArray ne fr)) (hl:news.length=sz) (h1:∀u∈news,u.oneCell'=true) (hn:n<=1000000000) :
 ∃g cap w',(Builtin.append_ #[t,t] ty #[v,.slice (some ⟨B,0,none⟩) 1 1]).run P w=.ok (.slice (some ⟨g,0,none⟩) (n+1) cap) w'/\w'.ownsRow 0 e sz (.slice (some ⟨g,0,none⟩) (n+1) cap) (n+1) (xs++news)/\w.grownBy w' v.ownBlock/\(v.ownBlock=some g\/g=w.heap.size)/\g<w'.heap.size:=by
 obtain⟨i,z,bytes,h2,h3,h4,h5,h6,h7⟩:=E.info;refine run_append_lies w t ty 0 e i z sz bytes E.und h2 h3 h4 h5 h6 E.pos v n xs hown ⟨B,0,none⟩ 1 1 news (by omega) ?_ h1 (by omega) (by unfold maxLen;omega) ?_ (Nat.zero_le _) _ rfl
 ·intro j u hj;rw[show((⟨B,0,none⟩:Addr).add j)=⟨B,j,none⟩by unfold Addr.add;split <;> simp_all,aw hB];simpa using hj
 ·have:(n+1)*bytes<=(n+1)*128:=Nat.mul_le_mul_left _ h7;omega
section
variable {xb:Nat} {nv dv:Value} {H Wr:List (Int×Value)} {F:List Int} {P:jc} {w:World}
set_option maxHeartbeats 32000000 in
set_option maxRecDepth 100000 in
theorem Fl (fr:Int) (l:List (Int×Value)) {la:Option Addr} {lc:Nat} {Kl:List (Nat×Obj)} (hK:js xb H Wr F P) (hJ:∀p∈bn xb nv dv H Wr F P,w.heap[p.1]?=some p.2) (hl:dV 62 2 (.slice la l.length lc) l.length (cU l) Kl) (hlw:∀p∈Kl,w.heap[p.1]?=some p.2) (hle:∀p∈Kl,¬JB (bn xb nv dv H Wr F P) p.1) (ho:∀p∈l,p.2.oneCell'=true) (hn:H.length+l.length<=100000/\Wr.length+l.length<=100000/\F.length+l.length<=100000) :
 Calls prog 9 #[.pointer (some ⟨xb,0,none⟩),.int .i64 fr,.slice la l.length lc] w fun e w'=>e=.returned (.tuple #[])/\fL xb nv dv H Wr F P (H++dy l) (Wr++cV l) (F++(cV l).map fun _=>fr) w w':=by
 have HL:=ad (fun (Z:World) (hT:ax (JB (bn xb nv dv H Wr F P)) w Z)=>(show Cells Z (.slice la l.length lc) 2 l.length (cU l)from aj (hl.lR fun p hp=>(hT.block p.1 (aA.1 (hlw p hp)).1 (hle p hp)).trans (hlw p hp))));have HS0:=ad (fL.refl hK hJ);have HO:=ad ho;have HN:=ad hn;have HF9:=ad (show ∀k,(dy (l.take k)).length<=l.length/\(cV (l.take k)).length<=l.length from fun k=>⟨Nat.le_trans (List.length_filter_le _ _) (by rw[List.length_take];omega),Nat.le_trans (List.length_filter_le _ _) (by rw[List.length_take];omega)⟩);clear hK hJ hl hlw hle ho hn;go_enter func9,ntmps9;go_wp2_with fail
 go_loopw [6] (fun iv wr=>∃i:Nat,iv=.int .i64 i/\i<=l.length/\Hid (fL xb nv dv H Wr F P (H++dy (l.take i)) (Wr++cV (l.take i)) (F++(cV (l.take i)).map fun _=>fr) w wr)) (fun iv _=>l.length-(intOf iv).toNat)
 case atStart=>exact⟨0,rfl,by omega,ad (by simpa[dy,cV]using HS0.out)⟩
 case round =>
  obtain⟨i,rfl,hi,HS⟩:=hrel;obtain⟨wq,rfl⟩:∃wq,wq=wr:=⟨_,rfl⟩;by_cases hp:i<l.length
  ·obtain⟨P2,k1,k2,k3⟩:=HS.out;obtain⟨⟨x1,x2⟩,hx⟩:∃x,l[i]=x:=⟨_,rfl⟩;have hc:=HL.out wq k3;obtain⟨b,o,c,hv,e0,e1⟩:=yu hc i hp;rw[hx]at e0 e1;cases hv;have HX1:=ad (show x2.oneCell'=true by have:=HO.out l[i] (List.getElem_mem hp);rw[hx]at this;exact this);have HTK:=ad (show dy (l.take (i+1))=dy (l.take i)++dy [(x1,x2)]/\cV (l.take (i+1))=cV (l.take i)++cV [(x1,x2)]by
    rw[List.take_succ_eq_append_getElem hp,hx];simp[dy,cV])
   obtain⟨H2,hH2⟩:∃H2,H++dy (l.take i)=H2:=⟨_,rfl⟩;obtain⟨W2,hW2⟩:∃W2,Wr++cV (l.take i)=W2:=⟨_,rfl⟩;obtain⟨F2,hF2⟩:∃F2,F++(cV (l.take i)).map (fun _=>fr)=F2:=⟨_,rfl⟩;have HLN:=ad (show H2.length<=100000/\W2.length<=100000/\F2.length<=100000 by
    rw[<-hH2,<-hW2,<-hF2];simp only[List.length_append,List.length_map];have:=HF9.out i;have:=HN.out;omega)
   rw[hH2,hW2,hF2]at k1 k2;have HI:=ad (aB hi hp);have HWI:=ad (show wrap64 ((i:Int)+1)=(i:Int)+1 from IntWalk.wrap64_in _ (by have:=HN.out;omega));have hxo:=(k2 (xb,dt nv dv H2 W2 F2 P2) (by simp[bn])).2;have HQ:=ad (aB k1 (aB k2 k3));have HEQ:=ad (aB hH2 (aB hW2 hF2));have hcc:∀Z:World,Below wq.heap.size wq Z->Z.cell? ⟨xb,2,none⟩=some (.slice P2.ha H2.length P2.hc)/\Z.cell? ⟨xb,3,none⟩=some (.slice P2.wa W2.length P2.wc)/\Z.cell? ⟨xb,4,none⟩=some (.slice P2.fa F2.length P2.fc)/\Z.cell? ⟨b,o+i*2,none⟩=some (.int .i64 x1)/\Z.cell? ⟨b,o+i*2+1,none⟩=some x2:=fun Z hb=>by
    have hz:=au hb ab hxo;exact⟨aq hz rfl,aq hz rfl,aq hz rfl,cell_kept hb ab e0,cell_kept hb ab e1⟩
   have HCC:=ad hcc;have bD:=(ae wq.heap.size wq).drew;have bA:Below wq.heap.size wq (wq.drew.alloc (.cells #[.int .i64 x1,x2] 62)):=bD.alloc bD.size _;have HBA:=ad bA;have hjA:∀p∈bn xb nv dv H2 W2 F2 P2,(wq.drew.alloc (.cells #[.int .i64 x1,x2] 62)).heap[p.1]?=some p.2:=fun p hp=>au bA ab (k2 p hp).2;have HJA:=ad hjA;have hz:=heap_alloc_new wq.drew (.cells #[.int .i64 x1,x2] 62);have hx5:=au bA ab hxo;obtain⟨_,_,_,m0,m1⟩:=hcc _ bA;obtain⟨s2,s3,s4,r0,r1⟩:=hcc _ bD;have s2a:=(hcc _ bA).1;have s3a:=(hcc _ bA).2.1;have f2:=ay hx5 2;have f3:=ay hx5 3;have f4:=ay hx5 4;by_cases hbig:1000<x1
   ·obtain⟨g,cap,w8,hrun,hown,hgr,hwh,hlt⟩:=rG Hn (wq.drew.alloc (.cells #[.int .i64 x1,x2] 62)) 28 (.slice P2.ha H2.length P2.hc) H2.length (cU H2) (k1.h.lR fun p hp=>hjA p (by simp[bn,hp])) wq.heap.size [.int .i64 x1,x2] 62 (0,0) hz rfl (by
     intro u hu;simp only[List.mem_cons,List.not_mem_nil,or_false]at hu;rcases hu with rfl|rfl
     ·rfl
     ·exact HX1.out) (by have:=HLN.out;omega)
    have HE:=ad (k1.heard hjA (x1,x2) hown hgr (hwh.imp id (fun e=>by rw[e];exact ab)) hlt);have HF:=ad (show fL xb nv dv H Wr F P (H++dy (l.take (i+1))) (Wr++cV (l.take (i+1))) (F++(cV (l.take (i+1))).map fun _=>fr) w (w8.setCell ⟨xb,2,none⟩ (.slice (some ⟨g,0,none⟩) (H2.length+1) cap))by
     have h1:dy [(x1,x2)]=[(x1,x2)]:=by simp[dy,hbig]
     have h2:cV [(x1,x2)]=[]:=by simp[cV,hbig]
     rw[HTK.out.1,HTK.out.2,h1,h2,List.append_nil,<-List.append_assoc,HEQ.out.1,HEQ.out.2.1,HEQ.out.2.2];exact fL.behind HQ.out.2.1 HQ.out.2.2 (fL.DO (fun p hp=>(HQ.out.2.1 p hp).2) HBA.out HE.out))
    have hx8:w8.heap[xb]?=some (dt nv dv H2 W2 F2 P2):=by
     obtain⟨o9,q1,q2,q3,q4,q5,_⟩:=ke (i:=2) (xb:=xb) (Ko:=P2.kw++P2.kf) k1.h (hjA (xb,dt nv dv H2 W2 F2 P2) (by simp[bn])) (fun p hp=>by rw[<-List.append_assoc]at hp;exact⟨hjA p (List.mem_cons_of_mem _ hp),k1.x p hp⟩) (fun p hp q hq=>(aK.1 hq).elim (k1.hw p hp q) (k1.hf p hp q)) hown hgr (hwh.imp id (fun e=>by rw[e];exact ab)) hlt;exact q5
    have hf8:=ay hx8 2;have hc8:w8.cell? ⟨xb,2,none⟩=some (.slice P2.ha H2.length P2.hc):=aq hx8 rfl;have s2b:((wq.alloc (.cells #[.int .i64 x1,x2] 62)).drew).cell? ⟨xb,2,none⟩=some (.slice P2.ha H2.length P2.hc):=s2a;have m0b:((wq.alloc (.cells #[.int .i64 x1,x2] 62)).drew).cell? ⟨b,o+i*2,none⟩=some (.int .i64 x1):=m0;have m1b:((wq.alloc (.cells #[.int .i64 x1,x2] 62)).drew).cell? ⟨b,o+i*2+1,none⟩=some x2:=m1;have hrun2:(Builtin.append_ #[28,28] 28 #[.slice P2.ha H2.length P2.hc,.slice (some ⟨wq.heap.size,0,none⟩) 1 1]).run prog ((wq.alloc (.cells #[.int .i64 x1,x2] 62)).drew)=.ok (.slice (some ⟨g,0,none⟩) (H2.length+1) cap) w8:=hrun;try simp[go_sem]at hrun2
    clear hx8 hown hgr hwh hlt hrun HE k1 k2 k3 hxo hcc hjA hz hx5 HS hc hH2 hW2 hF2 hi bA bD HEQ HTK hx s3 s4 s3a f3 f4
    go_upto_block 1 with fail
    go_cut [] (fun wx=>Hid (fL xb nv dv H Wr F P (H++dy (l.take (i+1))) (Wr++cV (l.take (i+1))) (F++(cV (l.take (i+1))).map fun _=>fr) w wx))
    case rest =>
     clear HF hrun2 hf8 hc8 s2b m0b m1b s2 s2a f2 m0 m1 r0 r1 e0 e1 HCC HJA HBA HQ;go_wp2;try rw[HWI.out]
     exact⟨⟨i+1,rfl,HI.out.2,hcut⟩,fU HI.out.2⟩
    case first =>
     go_upto_region 4 with fail
     go_region
     all_goals go_wp2
     all_goals go_meet
     all_goals exact HF
   ·obtain⟨g,cap,w8,hrun,hown,hgr,hwh,hlt⟩:=rG Hn (wq.drew.alloc (.cells #[.int .i64 x1,x2] 62)) 28 (.slice P2.wa W2.length P2.wc) W2.length (cU W2) (k1.w.lR fun p hp=>hjA p (by simp[bn,hp])) wq.heap.size [.int .i64 x1,x2] 62 (0,0) hz rfl (by
     intro u hu;simp only[List.mem_cons,List.not_mem_nil,or_false]at hu;rcases hu with rfl|rfl
     ·rfl
     ·exact HX1.out) (by have:=HLN.out;omega)
    have HE:=ad (show fL xb nv dv H2 W2 F2 P2 H2 (W2++[(x1,x2)]) F2 wq (w8.setCell ⟨xb,3,none⟩ (.slice (some ⟨g,0,none⟩) (W2.length+1) cap))from fL.DO (fun p hp=>(HQ.out.2.1 p hp).2) HBA.out (k1.K1 hjA (x1,x2) hown hgr (hwh.imp id (fun e=>by rw[e];exact ab)) hlt));have hx8:w8.heap[xb]?=some (dt nv dv H2 W2 F2 P2):=by
     have hm:∀p,p∈P2.kw++(P2.kh++P2.kf)->p∈P2.kh++P2.kw++P2.kf:=fun p hp=>by simp only[List.mem_append]at hp ⊢;rcases hp with e|e|e <;> simp[e]
     obtain⟨o9,q1,q2,q3,q4,q5,_⟩:=ke (i:=3) (xb:=xb) (Ko:=P2.kh++P2.kf) k1.w (hjA (xb,dt nv dv H2 W2 F2 P2) (by simp[bn])) (fun p hp=>⟨hjA p (List.mem_cons_of_mem _ (hm p hp)),k1.x p (hm p hp)⟩) (fun p hp q hq=>(aK.1 hq).elim (fun e1 e2=>k1.hw q e1 p hp e2.symm) (k1.wf p hp q)) hown hgr (hwh.imp id (fun e=>by rw[e];exact ab)) hlt;exact q5
    have hf8:=ay hx8 3;have hc8:w8.cell? ⟨xb,3,none⟩=some (.slice P2.wa W2.length P2.wc):=aq hx8 rfl;have s3b:((wq.alloc (.cells #[.int .i64 x1,x2] 62)).drew).cell? ⟨xb,3,none⟩=some (.slice P2.wa W2.length P2.wc):=s3a;have m0b:((wq.alloc (.cells #[.int .i64 x1,x2] 62)).drew).cell? ⟨b,o+i*2,none⟩=some (.int .i64 x1):=m0;have m1b:((wq.alloc (.cells #[.int .i64 x1,x2] 62)).drew).cell? ⟨b,o+i*2+1,none⟩=some x2:=m1;have hrun2:(Builtin.append_ #[28,28] 28 #[.slice P2.wa W2.length P2.wc,.slice (some ⟨wq.heap.size,0,none⟩) 1 1]).run prog ((wq.alloc (.cells #[.int .i64 x1,x2] 62)).drew)=.ok (.slice (some ⟨g,0,none⟩) (W2.length+1) cap) w8:=hrun;try simp[go_sem]at hrun2
    clear hx8 hown hgr hwh hlt hrun k1 k2 k3 hxo hcc hjA hz hx5 HS hc hH2 hW2 hF2 hi bA bD hx s2 s4 s2a f2 f4
    go_upto_block 1 with fail
    go_cut [] (fun wx=>Hid (fL xb nv dv H Wr F P (H++dy (l.take (i+1))) (Wr++cV (l.take (i+1))) (F++(cV (l.take (i+1))).map fun _=>fr) w wx))
    case rest =>
     clear HE hrun2 hf8 hc8 s3b m0b m1b s3 s3a f3 m0 m1 r0 r1 e0 e1 HCC HJA HBA HQ HEQ HTK;go_wp2;try rw[HWI.out]
     exact⟨⟨i+1,rfl,HI.out.2,hcut⟩,fU HI.out.2⟩
    case first =>
     go_upto_region 5 with fail;go_cut [] (fun wx=>Hid (fL xb nv dv H2 W2 F2 P2 H2 (W2++[(x1,x2)]) F2 wq wx))
     case first =>
      go_region
      all_goals go_wp2
      all_goals go_meet
      all_goals exact HE
     case rest =>
      obtain⟨P3,j1,j2,j3⟩:=hcut.out;obtain⟨wz,hwz⟩:∃wz,wz=wc:=⟨_,rfl⟩;rw[<-hwz]at j2 j3;have hx3:=(j2 (xb,dt nv dv H2 (W2++[(x1,x2)]) F2 P3) (by simp[bn])).2;have z4:wz.cell? ⟨xb,4,none⟩=some (.slice P3.fa F2.length P3.fc):=aq hx3 rfl;have HJ3:=ad (aB j1 (aB j2 j3));have hb3:Below wz.heap.size wz (wz.alloc (.cells #[.int .i64 fr] 3)):=an (ae _ wz) _;have HB3:=ad hb3;have HJ4:=ad (show ∀p∈bn xb nv dv H2 (W2++[(x1,x2)]) F2 P3,(wz.alloc (.cells #[.int .i64 fr] 3)).heap[p.1]?=some p.2 from fun p hp=>au hb3 ab (j2 p hp).2);have HOW:=ad (j1.f.lR (w:=wz.alloc (.cells #[.int .i64 fr] 3)) fun p hp=>HJ4.out p (by simp[bn,hp]));have hzf:=heap_alloc_new wz (.cells #[.int .i64 fr] 3);have HZF:=ad hzf;clear HE hrun2 hf8 hc8 s3b m0b m1b s3 s3a f3 m0 m1 r0 r1 e0 e1 HCC HJA HBA j1 j2 j3 hx3 hb3 hzf hcut;rw[<-hwz];clear hwz;go_wp2_with (at_builtin;refine eJ rfl _ _ rfl rj (.slice P3.fa F2.length P3.fc) F2.length (aE F2) rfl HOW.out wz.heap.size [.int .i64 fr] (0,0) rfl 3 HZF.out rfl (by simp[Value.oneCell']) (by have:=HLN.out;omega) ?_);intro g2 cap2 w9 hown hgr hwh hlt;have HG:=ad (HJ3.out.1.Ll HJ4.out fr hown hgr (hwh.imp id (fun e=>by rw[World.size_alloc];omega)) hlt);have hx9:w9.heap[xb]?=some (dt nv dv H2 (W2++[(x1,x2)]) F2 P3):=by
       have hm:∀p,p∈P3.kf++(P3.kh++P3.kw)->p∈P3.kh++P3.kw++P3.kf:=fun p hp=>by simp only[List.mem_append]at hp ⊢;rcases hp with e|e|e <;> simp[e]
       obtain⟨o9,q1,q2,q3,q4,q5,_⟩:=ke (i:=4) (xb:=xb) (Ko:=P3.kh++P3.kw) HJ3.out.1.f (HJ4.out (xb,dt nv dv H2 (W2++[(x1,x2)]) F2 P3) (by simp[bn])) (fun p hp=>⟨HJ4.out p (List.mem_cons_of_mem _ (hm p hp)),HJ3.out.1.x p (hm p hp)⟩) (fun p hp q hq=>(aK.1 hq).elim (fun e1 e2=>HJ3.out.1.hf q e1 p hp e2.symm) (fun e1 e2=>HJ3.out.1.wf q e1 p hp e2.symm)) hown hgr (hwh.imp id (fun e=>by rw[World.size_alloc];omega)) hlt;exact q5
      have hf9:=ay hx9 4;have hc9:w9.cell? ⟨xb,4,none⟩=some (.slice P3.fa F2.length P3.fc):=aq hx9 rfl;have HF:=ad (show fL xb nv dv H Wr F P (H++dy (l.take (i+1))) (Wr++cV (l.take (i+1))) (F++(cV (l.take (i+1))).map fun _=>fr) w (w9.setCell ⟨xb,4,none⟩ (.slice (some ⟨g2,0,none⟩) (F2.length+1) cap2))by
       have h1:dy [(x1,x2)]=[]:=by simp[dy,hbig]
       have h2:cV [(x1,x2)]=[(x1,x2)]:=by simp[cV,hbig]
       rw[HTK.out.1,HTK.out.2,h1,h2,List.append_nil,List.map_append,<-List.append_assoc,<-List.append_assoc,HEQ.out.1,HEQ.out.2.1,HEQ.out.2.2];exact fL.behind HQ.out.2.1 HQ.out.2.2 (fL.behind HJ3.out.2.1 HJ3.out.2.2 (fL.DO (fun p hp=>(HJ3.out.2.1 p hp).2) HB3.out HG.out)))
      clear hown hgr hwh hlt hx9 HG HJ3 HJ4 HB3 HOW HZF HEQ HTK HQ;go_wp2;go_meet;exact HF
  ·obtain rfl:i=l.length:=by omega
   have HSX:=ad (show fL xb nv dv H Wr F P (H++dy l) (Wr++cV l) (F++(cV l).map fun _=>fr) w wq by have:=HS.out;rw[List.take_length]at this;exact this);clear HS hi hp;go_wp2;go_end0;exact⟨rfl,HSX.out⟩
end
end Go.Proofs.YtmgmknmaepjnoaaGreatDoor
