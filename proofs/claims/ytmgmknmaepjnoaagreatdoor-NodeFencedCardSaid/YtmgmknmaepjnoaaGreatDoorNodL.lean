/-
  A node: a client's batch.
-/
import Derived.Test.YtmgmknmaepjnoaaGreatDoorNodI
namespace Go.Proofs.YtmgmknmaepjnoaaGreatDoor
open Go.RowKit Go.Shelf Go.Sort Proofs.Tryz
set_option maxHeartbeats 4000000 in
theorem Da {c:Nat} {st:Stat} {w:World} (k q:Int) (h:mZ w c st) (hk:(Lit.int .i64 k).wf=true) (hq:(Lit.int .i64 q).wf=true) (hh:∀hi O,st.S k=some (hi,O)->0<=hi/\hi<=1000000000000) :
 Calls prog 58 #[.pointer (some ⟨c,0,none⟩),.int .i64 k,.int .i64 q] w fun e w'=>e=.returned (.tuple #[lV (bR st.S k q).1,.int .i64 (bR st.S k q).2])/\Below w.heap.size w w':=by
 obtain⟨x,t,fx,fq,h1,h2,h3⟩:=h;have c1:w.cell? ⟨c,1,none⟩=some (.pointer (some ⟨t,0,none⟩)):=aq h1 rfl;obtain⟨W,hW⟩:∃W,w.alloc (.cells #[.int .i64 0,.int .i64 0,.int .i64 0,.int .i64 0] 89)=W:=⟨_,rfl⟩;have bW:Below w.heap.size w W:=by rw[<-hW];exact an (ae _ w) _
 have HL:=ad (lZ t st.S _ fq k q W (h3.next bW) hk hq hh);obtain⟨⟨o,n⟩,hon⟩:∃p,bR st.S k q=p:=⟨_,rfl⟩;rw[hon]at HL ⊢;obtain⟨oc,op,of,ov⟩:=o;simp only[lV]at HL ⊢;have hz:W.heap[w.heap.size]?=some (.cells #[.int .i64 0,.int .i64 0,.int .i64 0,.int .i64 0] 89 (0,0)):=by rw[<-hW];exact heap_alloc_new w _
 have k1:=cell_kept bW ab c1;have HW:=ad hW;have HB:=ad bW;have HZ:=ad hz;clear h1 h2 h3 c1 bW hon hz hW;go_enter func58,ntmps58;go_upto_region 1 with fail;rw[HW.out];go_wp2_with fail;refine HL.out.mono ?_;rintro e w1 ⟨rfl,b1⟩;have hz1:=au b1 ab HZ.out;have HB1:=ad (Below.up HB.out ab b1);clear b1 HL k1;have z0:w1.cell? ⟨w.heap.size,0,none⟩=some (.int .i64 0):=aq hz1 rfl;have z1:w1.cell? ⟨w.heap.size,1,none⟩=some (.int .i64 0):=aq hz1 rfl;have z2:w1.cell? ⟨w.heap.size,2,none⟩=some (.int .i64 0):=aq hz1 rfl;have z3:w1.cell? ⟨w.heap.size,3,none⟩=some (.int .i64 0):=aq hz1 rfl;have f0:=ay hz1 0;have f1:=ay hz1 1;have f2:=ay hz1 2;have f3:=ay hz1 3;have HOS:=ad (kJ hz1 (.int .i64 oc) (.int .i64 op) (.int .i64 of) (.int .i64 ov));have HBS:=ad (di (b:=w.heap.size) (di (di (di HB1.out ab ab 0 (.int .i64 oc)) ab ab 1 (.int .i64 op)) ab ab 2 (.int .i64 of)) ab ab 3 (.int .i64 ov));go_wp2;refine bodyPost_ret (aO rfl _ _ w.heap.size _ _ _ _ rfl HOS.out underlying89 rfl eN) rfl ?_;exact⟨rfl,HBS.out⟩
section
variable {R:(Nat->Prop)->(Nat->Prop)->World->Prop} {a w w':World} {nb lg sb:Nat} {room:Int} {s s':Lg.S} {fs fs':List Dk.ai} {st:Stat} {J:List (Nat×Obj)} {N:Nd}
theorem ah.put {b:Nat} {o o':Obj} (h:ah R (J++[(b,o)]) a nb lg sb room s fs st N w) (hR:aC a R) (hJ:∀p∈J,p.1≠b) (ht:ax (fun j=>j=b) w w') (hw:w'.heap[b]?=some o'):ah R (J++[(b,o')]) a nb lg sb room s fs st N w':=by
 obtain⟨P,K,Ko,h1,h2,hd,h3⟩:=h;have hb:=hd.1.2 (b,o) (by simp);refine⟨P,K,Ko,h1,h2,⟨⟨hd.1.1,fun p hp=>?_⟩,hd.2⟩,h3.oL hR (ht.wide fun j hj=>⟨(b,o),by simp,hj.symm⟩) (fun p hp=>?_) (fun _ _ _ hh=>hh)⟩
 ·rcases aK.1 hp with hp|hp
  ·exact hd.1.2 p (aH _ hp)
  ·rw[aN.1 hp];exact hb
 ·have hold:∀p:Nat×Obj,p∈(nb,dJ N P)::(K++Ko)++J->p.1≠b->(JB ((nb,dJ N P)::(K++Ko)++(J++[(b,o)])) p.1\/w.heap.size<=p.1)/\w'.heap[p.1]?=some p.2:=fun p hp hne=>by
   have hp2:p∈(nb,dJ N P)::(K++Ko)++(J++[(b,o)]):=by
    rw[<-List.append_assoc];exact aH _ hp
   have hw0:=h3.bj p hp2;exact⟨.inl ⟨p,hp2,rfl⟩,(ht.block p.1 (aA.1 hw0).1 hne).trans hw0⟩
  rcases aK.1 hp with hp|hp
  ·refine hold p (aH _ hp) ?_;rcases List.mem_cons.1 hp with rfl|hp
   ·exact fun e=>hb.1 e.symm
   ·exact fun e=>hb.2 p hp e.symm
  ·rcases aK.1 hp with hp|hp
   ·exact hold p (aD _ hp) (hJ p hp)
   ·rw[aN.1 hp];exact⟨.inl ⟨(b,o),by simp,rfl⟩,hw⟩
theorem ah.LJ {b:Nat} {u0 u1 u2 u3 u4 u5 u6:Value} (v0 v1 v2 v3 v4 v5 v6:Value) (h:ah R (J++[(b,.cells #[u0,u1,u2,u3,u4,u5,u6] 95 (0,0))]) a nb lg sb room s fs st N w) (hR:aC a R) (hJ:∀p∈J,p.1≠b) :
 ah R (J++[(b,.cells #[v0,v1,v2,v3,v4,v5,v6] 95 (0,0))]) a nb lg sb room s fs st N (((((((w.setCell ⟨b,0,none⟩ v0).setCell ⟨b,1,none⟩ v1).setCell ⟨b,2,none⟩ v2).setCell ⟨b,3,none⟩ v3).setCell ⟨b,4,none⟩ v4).setCell ⟨b,5,none⟩ v5).setCell ⟨b,6,none⟩ v6) :=
 h.put hR hJ (ax.cq (pq w b v0 v1 v2 v3 v4 v5 v6) rfl) (gD (h.bj (b,.cells #[u0,u1,u2,u3,u4,u5,u6] 95 (0,0)) (by simp)) v0 v1 v2 v3 v4 v5 v6)
def lG (R:(Nat->Prop)->(Nat->Prop)->World->Prop) (a:World) (v:Value) (es:List Evt.Event):Prop:=∀(T X:Nat->Prop) (W:World),Below a.heap.size a W->(∀j,X j->a.heap.size<=j)->R T X W->dp W v es/\∀b,v.ownBlock=some b->es≠[]->¬X b
theorem lG.of {R:(Nat->Prop)->(Nat->Prop)->World->Prop} {a:World} {v:Value} {es:List Evt.Event} (h:dp a v es):lG R a v es:=fun T X W hb hX _=>⟨Cells.next h hb,fun b hb he hx=>by have:=kt h hb he;have:=hX b hx;omega⟩
theorem ah.I5 {v:Value} {es:List Evt.Event} (h:ah R J a nb lg sb room s fs st N w) (hc:lG R a v es):dp w v es:=by
 obtain⟨J',h1,_⟩:=h.rep;obtain⟨TL,TS,X,hr1,hw1⟩:=h1;exact(hc _ _ _ hr1.log.below hr1.out hw1).1
theorem yb {S:ByteArray} {ex se sq:Int} {sa:Option Addr} {sl sc:Nat} {es:List Evt.Event} (h:ah R J a nb lg sb room s fs st N w) (hR:aC a R) (hroom:room<=4194304) (hB:Lg.BK 1 s) (hS:S.size<=1000000) (hc:lG R a (.slice sa sl sc) es) (hn:es.length<=1000000) (hx:Small es)
 (hr:ma room ⟨S.data.toList,ex,se,sq,es⟩ s fs=((fs',s'),0)) :
 Calls prog 60 #[.pointer (some ⟨N.r,0,none⟩),.agg #[.string S,.int .i64 ex,.int .i64 se,.int .i64 sq,.slice sa sl sc]] w fun e w'=>e=.returned (.tuple #[.agg #[.int .i64 ((s.es.length:Int)+1),.int .i64 (dz fs),.string S,.int .i64 ex,.int .i64 se,.int .i64 sq,.slice sa sl sc],.int .i64 0])/\ah R J a nb lg sb room s' fs' st N w':=by
 obtain⟨J',h1,h2⟩:=h.rep;obtain⟨TL,TS,X,hr1,hw1⟩:=id h1;refine(vu h1 hR (ae _ w) hroom hB hS (hc _ _ _ hr1.log.below hr1.out hw1).1 hn hx (fun b hb he=>.inr (.inr fun T X W q1 q2 q3=>(hc T X W q1 q2 q3).2 b hb he)) hr).mono ?_;rintro e w' ⟨rfl,hx⟩;exact⟨rfl,h2 R s' fs' st w' hx⟩
theorem Bz (n1 n2:Int) (h:ah R J a nb lg sb room s fs st N w) (hR:aC a R) (hn:s.es.length<=300000) (happ:st.app=s.es.length) :
 Calls prog 59 #[.pointer (some ⟨N.r,0,none⟩),.int .i64 n1,.int .i64 n2] w fun e w'=>e=.returned (.bool false)/\Below w.heap.size w w':=by
 obtain⟨J',h1,_⟩:=h.rep;have:=ze n1 n2 h1 hR hn (by omega);rw[happ]at this;have hz:dT ((s.es.length:Int)+1) s.es.length s.es=[]:=by
  have h0:(Lg.iA ((s.es.length:Int)+1) s.es.length s.es.length).toNat=0:=by unfold Lg.iA Lg.gK;omega
  unfold dT;rw[h0,List.take_zero]
 rw[hz]at this;exact this
def rJ (J:List (Nat×Obj)) (b:Nat):Prop:=∀p∈J,p.1≠b
def za (id err:Int) (o:cI):Value:=.iface 91 (.agg #[.int .i64 id,.int .i64 err,.int .i64 o.code,.int .i64 o.pos,.int .i64 o.first,.int .i64 o.version])
def IN (o:cI) (n:Int):cI:=if n=1 then o else ⟨3,0,0,0⟩
theorem Hv (S:dU) (k q:Int):(bR S k q).2=0\/(bR S k q).2=1\/(bR S k q).2=2:=by
 unfold bR
 repeat (first|split|simp)
theorem CQ {w:World} {b:Nat} {u0 u1 u2 u3 u4 u5 u6:Value} {t:TypeId} (h:w.heap[b]?=some (.cells #[u0,u1,u2,u3,u4,u5,u6] t (0,0))):w.cell? ⟨b,0,none⟩=some u0/\w.cell? ⟨b,1,none⟩=some u1/\w.cell? ⟨b,2,none⟩=some u2/\w.cell? ⟨b,3,none⟩=some u3/\w.cell? ⟨b,4,none⟩=some u4/\w.cell? ⟨b,5,none⟩=some u5/\w.cell? ⟨b,6,none⟩=some u6:=by
 refine⟨?_,?_,?_,?_,?_,?_,?_⟩ <;> (rw[aw h];rfl)
set_option maxHeartbeats 32000000 in
set_option maxRecDepth 100000 in
theorem xE {S:ByteArray} {id ex se sq:Int} {sa:Option Addr} {sl sc:Nat} {es:List Evt.Event} (h:ah R J a nb lg sb room s fs st N w) (hR:aC a R) (hV:gq N fs) (hV':gq N fs') (hH:N.v.ch[0]?=some N.id) (hno:N.outs.length<=900) (hroom:room<=4194304) (hB:Lg.BK 1 s) (hS:S.size<=1000000) (hc:lG R a (.slice sa sl sc) es) (hn:es.length<=1000000) (hx:Small es)
 (hse:1<=se/\se<=274877906944) (hsq:1<=sq/\sq<=274877906944) (hl:s.es.length<=100) (hl':s'.es.length=s.es.length+1) (happ:st.app=s.es.length) (hn4:st.n<=400) (hm4:st.m<=400) (hr:ma room ⟨S.data.toList,ex,se,sq,es⟩ s fs=((fs',s'),0)) :
 Calls prog 34 #[.pointer (some ⟨nb,0,none⟩),.int .i64 (1000+se),.agg #[.int .i64 id,.string S,.int .i64 ex,.int .i64 se,.int .i64 sq,.slice sa sl sc]] w fun e w'=>e=.returned (.tuple #[]) /\
  (((bR st.S se sq).2 ≠ 0 /\ ah R J a nb lg sb room s fs st { N with outs := N.outs ++ [(1000 + se, za id 0 (IN (bR st.S se sq).1 (bR st.S se sq).2))] } w') \/
   ((bR st.S se sq).2 = 0 /\ ∃ b, rJ J b /\ ah R (J ++ [(b, .cells #[.int .i64 ((s.es.length : Int) + 1), .int .i64 (dz fs), .string S, .int .i64 ex, .int .i64 se, .int .i64 sq, .slice sa sl sc] 95 (0, 0))]) a nb lg sb room s' fs' st { N with outs := N.outs ++ eW N s.es.length (cR s'.es (s.es.length : Int)).1 s'.es.length st.app (some ⟨b, 0, none⟩) 1 1 } w')) := by
 obtain⟨W0,hW0⟩:∃W0,w.alloc (.cells #[.int .i64 id,.string S,.int .i64 ex,.int .i64 se,.int .i64 sq,.slice sa sl sc] 42)=W0:=⟨_,rfl⟩;obtain⟨W,hW⟩:∃W,W0.alloc (.cells #[.string S,.int .i64 ex,.int .i64 se,.int .i64 sq,.slice sa sl sc] 38)=W:=⟨_,rfl⟩;have b0:Below w.heap.size w W0:=by rw[<-hW0];exact an (ae _ w) _
 have bW:Below w.heap.size w W:=by rw[<-hW];exact an b0 _
 obtain⟨b0x,hb0x⟩:∃x,w.heap.size=x:=⟨_,rfl⟩;obtain⟨b1x,hb1z⟩:∃x,b0x+1=x:=⟨_,rfl⟩;have hb1x:W0.heap.size=b1x:=by rw[<-hb1z,<-hb0x,<-hW0,World.size_alloc]
 have i0:W.cell? ⟨b0x,0,none⟩=some (.int .i64 id):=by
  refine cell_kept (by rw[<-hW];exact an (ae _ W0) _) ab ?_;rw[<-hW0,<-hb0x,aw (heap_alloc_new w _)];rfl
 have hbo:W.heap[b1x]?=some (.cells #[.string S,.int .i64 ex,.int .i64 se,.int .i64 sq,.slice sa sl sc] 38 (0,0)):=by rw[<-hW,<-hb1x];exact heap_alloc_new W0 _
 have i1:W.cell? ⟨b1x,0,none⟩=some (.string S):=aq hbo rfl;have i2:W.cell? ⟨b1x,1,none⟩=some (.int .i64 ex):=aq hbo rfl;have i3:W.cell? ⟨b1x,2,none⟩=some (.int .i64 se):=aq hbo rfl;have i4:W.cell? ⟨b1x,3,none⟩=some (.int .i64 sq):=aq hbo rfl;have i5:W.cell? ⟨b1x,4,none⟩=some (.slice sa sl sc):=aq hbo rfl;have HRD1:∀d os,Calls prog 32 #[.pointer (some ⟨nb,0,none⟩)] (grow (redrawn W d) os) (fun e w'=>e=.returned (.bool true)/\∃p:Regrown,w'=grow (redrawn W p.d) p.os):=fun d os=>Calls.regrown_of (gC (h.next hR (Below.up bW ab (below_regrown W d os))) hR hV);obtain⟨P,hh,hv,_⟩:=h.heap;have HHD1:∀d os,Calls prog 56 #[dw N.v P.A] (grow (redrawn W d) os) (fun e w'=>e=.returned (.int .i64 N.id)/\∃p:Regrown,w'=grow (redrawn W p.d) p.os):=fun d os=>Calls.regrown_of (yC N.v P.A N.id _ (hv.next (Below.up bW ab (below_regrown W d os))) hV.1 hH);obtain⟨c0,_,_,_,c4,c5,c6,c7,_⟩:=cM (au bW ab hh);have k0:=cell_regrown c0;have k4:=cell_regrown c4;have k5:=cell_regrown c5;have k6:=cell_regrown c6;have k7:=cell_regrown c7;have HI:=ad (aB i0 (aB i1 (aB i2 (aB i3 (aB i4 i5)))));have hw1:wrap64 (1000+se)=1000+se:=IntWalk.wrap64_in _ (by omega);have hse1:(1000+se != 1000+se)=false:=by simp
 have HBW:=ad bW;have HW0:=ad hW0;have HW:=ad hW;have HB01:=ad (aB hb0x hb1z);have HBO:=ad hbo;have H:=ad h;have HLK:=fun (Z:World) (c:Nat) (hic:mZ Z c st)=>Da se sq hic (oz (by omega) (by omega)) (oz (by omega) (by omega)) (fun hi O hO=>by have:=h.ok.s _ _ _ hO;omega);have hq:=Hv st.S se sq;obtain⟨⟨⟨oc,op,of,ov⟩,q⟩,hoq⟩:∃p,bR st.S se sq=p:=⟨_,rfl⟩;rw[hoq]at HLK hq ⊢;simp only[lV]at HLK hq ⊢;have HLK:=ad HLK;have HP:=ad (aB hr (aB hB (aB hc (aB hx (aB hV' (aB hl' (aB happ (aB hse hsq))))))));clear h hh hv hV hV' hH b0 bW hbo c0 c4 c5 c6 c7 hW0 hW hb0x hb1x hb1z hr hB hc hx hl' happ hse hsq hoq;unfold dw at HHD1;go_enter func34,ntmps34;go_upto_region 2 with fail;rw[HW0.out,HW.out,HB01.out.1,HB01.out.2];go_wp2_with fail;refine wp_region_quiet_below (by kernel_rfl) (by kernel_rfl) ?_
 repeat (quiet_step (first|exact HRD1 _ _|exact HHD1 _ _))
 refine wpQuiet_nil ?_;intro _ hw';obtain⟨⟨dq,osq⟩,hw''⟩:=hw';subst hw'';obtain⟨w2,hw2⟩:∃w2,grow (redrawn W dq) osq=w2:=⟨_,rfl⟩;have b2:Below W.heap.size W w2:=by rw[<-hw2];exact below_regrown W dq osq
 rw[hw2];have c3:=(H.out.next hR (Below.up HBW.out ab b2)).c3.2.2;have HST:=ad (sw (H.out.next hR (Below.up HBW.out ab b2)) hn4 hm4);clear hw2 k0 k4 k5 k6 k7 HRD1 HHD1 i0 i1 i2 i3 i4 i5;go_wp2_with fail;refine HST.out.mono ?_;rintro e w3 ⟨c,rfl,hic,b3⟩;have b23:=Below.up b2 ab b3;have i3:=cell_kept b23 ab HI.out.2.2.2.1;have i4:=cell_kept b23 ab HI.out.2.2.2.2.1;have HLK:=ad (HLK.out w3 c hic.out);have HB3:=ad b23;clear hic b2 b3 b23 HST c3;go_wp2_with fail;refine HLK.out.mono ?_;rintro e w4 ⟨rfl,b4⟩;have b14:=Below.up HB3.out ab b4;have i0:=cell_kept b14 ab HI.out.1;have i3:=cell_kept b14 ab HI.out.2.2.2.1;have i4:=cell_kept b14 ab HI.out.2.2.2.2.1;have bA:Below W.heap.size W (w4.alloc (.cells #[.int .i64 oc,.int .i64 op,.int .i64 of,.int .i64 ov] 89)):=an b14 _;have HBA:=ad (Below.up HBW.out ab bA);have HSY:=ad (fun (o:cI)=>mx (1000+se) 91 (.agg #[.int .i64 id,.int .i64 0,.int .i64 o.code,.int .i64 o.pos,.int .i64 o.first,.int .i64 o.version]) (H.out.next hR HBA.out) hR (by omega));have HA:=ad bA;clear b4 b14 bA HLK HB3;rcases hq with rfl|rfl|rfl
 ·obtain⟨w5,hw5⟩:∃w5,w4.alloc (.cells #[.int .i64 oc,.int .i64 op,.int .i64 of,.int .i64 ov] 89)=w5:=⟨_,rfl⟩;rw[hw5]at HBA HA HSY;have j3:=cell_kept HA.out ab HI.out.2.2.2.1;have j4:=cell_kept HA.out ab HI.out.2.2.2.2.1;have q3:=cell_regrown j3;have q4:=cell_regrown j4;have r3:=cell_regrown (H.out.next hR HBA.out).c3.2.2;have HWA:∀d os,Calls prog 59 #[.pointer (some ⟨N.r,0,none⟩),.int .i64 se,.int .i64 sq] (grow (redrawn w5 d) os) (fun e w'=>e=.returned (.bool false)/\∃p:Regrown,w'=grow (redrawn w5 p.d) p.os):=fun d os=>Calls.regrown_of (Bz se sq (H.out.next hR (Below.up HBA.out ab (below_regrown w5 d os))) hR (by omega) HP.out.2.2.2.2.2.2.1);go_wp2_with fail;try rw[hw5]
  clear HSY i0 i3 i4 hw5 j3 j4;refine wp_region_quiet_below (by kernel_rfl) (by kernel_rfl) ?_
  repeat (quiet_step (exact HWA _ _))
  refine wpQuiet_nil ?_;intro _ hw';obtain⟨⟨dr,osr⟩,hw''⟩:=hw';subst hw'';obtain⟨w6,hw6⟩:∃w6,grow (redrawn w5 dr) osr=w6:=⟨_,rfl⟩;have b56:Below w5.heap.size w5 w6:=by rw[<-hw6];exact below_regrown w5 dr osr
  rw[hw6];have b6:=Below.up HA.out ab b56;have b06:=Below.up HBA.out ab b56;have hbo6:=au b6 ab HBO.out;clear hw6 HWA q3 q4 r3 b56;have HNx:=ad (H.out.enter (J2:=[(b1x,.cells #[.string S,.int .i64 ex,.int .i64 se,.int .i64 sq,.slice sa sl sc] 38 (0,0))]) hR b06 (fun p hp=>by rw[aN.1 hp];exact⟨by have:=HB01.out;simp only;omega,hbo6⟩) (fun _ _ _ h=>h));have HN0:=ad (HNx.out.next hR (ae _ w6).drew);have HN2:=ad (HN0.out.alloc hR (cs:=#[.int .i64 0,.int .i64 0,.string ⟨#[]⟩,.int .i64 0,.int .i64 0,.int .i64 0,.slice none 0 0]) (t:=95));have HN1:=ad ((HNx.out.alloc hR (cs:=#[.int .i64 0,.int .i64 0,.string ⟨#[]⟩,.int .i64 0,.int .i64 0,.int .i64 0,.slice none 0 0]) (t:=95)).next hR (ae _ _).drew);have HPQ:=ad (fun (J3:List (Nat×Obj)) (Z:World) (hz:ah R J3 a nb lg sb room s fs st N Z)=>yb (ex:=ex) (se:=se) (sq:=sq) hz hR hroom HP.out.2.1 hS HP.out.2.2.1 hn HP.out.2.2.2.1 HP.out.1);have HSN:=ad (fun (J3:List (Nat×Obj)) (s3:Lg.S) (fs3:List Dk.ai) (Z:World) (hz:ah R J3 a nb lg sb room s3 fs3 st N Z) (hm:(b1x,Obj.cells #[.string S,.int .i64 ex,.int .i64 se,.int .i64 sq,.slice sa sl sc] 38 (0,0))∈J3)=>(show Z.cell? ⟨nb,3,none⟩=some (.pointer (some ⟨N.r,0,none⟩))/\Z.cell? ⟨b1x,0,none⟩=some (.string S)/\Z.cell? ⟨b1x,1,none⟩=some (.int .i64 ex)/\Z.cell? ⟨b1x,2,none⟩=some (.int .i64 se)/\Z.cell? ⟨b1x,3,none⟩=some (.int .i64 sq)/\Z.cell? ⟨b1x,4,none⟩=some (.slice sa sl sc)from
   ⟨hz.c3.2.2,hz.lh hm rfl,hz.lh hm rfl,hz.lh hm rfl,hz.lh hm rfl,hz.lh hm rfl⟩))
  have HNE:=ad (fun p (hp:p∈J++[(b1x,Obj.cells #[.string S,.int .i64 ex,.int .i64 se,.int .i64 sq,.slice sa sl sc] 38 (0,0))])=>(show p.1<w6.heap.size from(aA.1 (HN0.out.bj p hp)).1));have S0:=HSN.out _ _ _ _ HN0.out (by simp);have S1:=HSN.out _ _ _ _ HN1.out (by simp);have S2:=HSN.out _ _ _ _ HN2.out (by simp);clear b6 b06 hbo6;go_wp2_with fail;go_cut [10,11] (fun pv ev wx=>ev=.int .i64 0/\∃b,pv=.pointer (some ⟨b,0,none⟩)/\Hid (ah R (J++[(b1x,Obj.cells #[.string S,.int .i64 ex,.int .i64 se,.int .i64 sq,.slice sa sl sc] 38 (0,0))]++[(b,.cells #[.int .i64 ((s.es.length:Int)+1),.int .i64 (dz fs),.string S,.int .i64 ex,.int .i64 se,.int .i64 sq,.slice sa sl sc] 95 (0,0))]) a nb lg sb room s' fs' st N wx))
  case first =>
   go_region_held3 (fun Z=>Z.cell? ⟨nb,3,none⟩=some (.pointer (some ⟨N.r,0,none⟩))/\Z.cell? ⟨b1x,0,none⟩=some (.string S)/\Z.cell? ⟨b1x,1,none⟩=some (.int .i64 ex)/\Z.cell? ⟨b1x,2,none⟩=some (.int .i64 se)/\Z.cell? ⟨b1x,3,none⟩=some (.int .i64 sq)/\Z.cell? ⟨b1x,4,none⟩=some (.slice sa sl sc))
    (first|with_reducible exact S0|with_reducible exact S1|with_reducible exact S2|with_reducible exact SX|with_reducible exact SA|with_reducible exact SY)
    (first
     |(go_at_call 60;with_reducible refine(HPQ.out _ _ HN0.out).mono ?_;rintro e w7 ⟨rfl,hx⟩;have SX:=HSN.out _ _ _ _ hx (by simp);have ha:=hx.alloc hR (cs:=#[.int .i64 0,.int .i64 0,.string ⟨#[]⟩,.int .i64 0,.int .i64 0,.int .i64 0,.slice none 0 0]) (t:=95);have SA:=HSN.out _ _ _ _ ha (by simp);have hy:=hx.alloc hR (cs:=#[.int .i64 ((s.es.length:Int)+1),.int .i64 (dz fs),.string S,.int .i64 ex,.int .i64 se,.int .i64 sq,.slice sa sl sc]) (t:=95);have SY:=HSN.out _ _ _ _ hy (by simp);have HY:=ad hy;clear hx ha hy)
     |(go_at_call 60;with_reducible refine(HPQ.out _ _ HN1.out).mono ?_;rintro e w7 ⟨rfl,hx⟩;have SX:=HSN.out _ _ _ _ hx (by simp);have hz:=hx.bj (w6.heap.size,.cells #[.int .i64 0,.int .i64 0,.string ⟨#[]⟩,.int .i64 0,.int .i64 0,.int .i64 0,.slice none 0 0] 95 (0,0)) (by simp);have hy:=hx.LJ (.int .i64 ((s.es.length:Int)+1)) (.int .i64 (dz fs)) (.string S) (.int .i64 ex) (.int .i64 se) (.int .i64 sq) (.slice sa sl sc) hR (fun p hp=>Nat.ne_of_lt (HNE.out p hp));have SY:=HSN.out _ _ _ _ hy (by simp);have HY:=ad hy;have zc:=CQ hz;obtain⟨z0,z1,z2,z3,z4,z5,z6⟩:=zc;have f0:=ay hz 0;have f1:=ay hz 1;have f2:=ay hz 2;have f3:=ay hz 3;have f4:=ay hz 4;have f5:=ay hz 5;have f6:=ay hz 6;clear hx hy))
   all_goals go_wp2
   all_goals go_meet
   all_goals exact⟨rfl,_,rfl,HY⟩
  case rest =>
   obtain⟨rfl,b,rfl,HY⟩:=hcut;have hz:=HY.out.bj (b,.cells #[.int .i64 ((s.es.length:Int)+1),.int .i64 (dz fs),.string S,.int .i64 ex,.int .i64 se,.int .i64 sq,.slice sa sl sc] 95 (0,0)) (by simp);obtain⟨z0,z1,z2,z3,z4,z5,z6⟩:=CQ hz;have HY2:=ad (HY.out.alloc hR (cs:=#[.int .i64 ((s.es.length:Int)+1),.int .i64 (dz fs),.string S,.int .i64 ex,.int .i64 se,.int .i64 sq,.slice sa sl sc]) (t:=95));have hwk:=(CW s.es.length (by omega)).1;have HDN:=ad (Au s.es.length (some ⟨wc.heap.size,0,none⟩) 1 1 HY2.out hR HP.out.2.2.2.2.1 (by omega) (by have:=HP.out.2.2.2.2.2.1;omega) (by have:=HP.out.2.2.2.2.2.1;omega));have HJB:=ad (show rJ J wc.heap.size from fun p hp e=>by have:=(aA.1 (HY.out.bj p (by simp[hp]))).1;omega);clear hz HPQ HSN HNE S0 S1 S2 HN0 HN1 HN2 HNx HLK HY;go_wp2_with fail;refine HDN.out.mono ?_;rintro e w9 ⟨rfl,hx⟩;have HX:=ad (hx.less hR (J':=J++[(wc.heap.size,.cells #[.int .i64 ((s.es.length:Int)+1),.int .i64 (dz fs),.string S,.int .i64 ex,.int .i64 se,.int .i64 sq,.slice sa sl sc] 95 (0,0))]) (fun p hp=>by
    rcases aK.1 hp with hp|hp
    ·exact aH _ (aH _ (aH _ hp))
    ·exact aD _ hp))
   clear hx HDN HY2;go_wp2;go_end0;exact⟨rfl,_,HJB.out,HX.out⟩
 ·have i0A:=cell_kept HA.out ab HI.out.1;clear i0 i3 i4;go_wp2_with fail;refine(HSY.out ⟨oc,op,of,ov⟩).mono ?_;rintro e w5 ⟨rfl,hx⟩;have HX:=ad hx;clear hx HSY;go_wp2;refine bodyPost_ret (results_none rfl _ _ _) rfl ?_;exact⟨rfl,.inl ⟨by omega,HX.out⟩⟩
 ·have i0A:=cell_kept HA.out ab HI.out.1;clear i0 i3 i4;go_wp2_with fail;refine(HSY.out ⟨3,0,0,0⟩).mono ?_;rintro e w5 ⟨rfl,hx⟩;have HX:=ad hx;clear hx HSY;go_wp2;refine bodyPost_ret (results_none rfl _ _ _) rfl ?_;exact⟨rfl,.inl ⟨by omega,HX.out⟩⟩
theorem zN {lv:Value} {qs:List bu} {prev pe:Int} (h:ah (cn R lv qs) J a nb lg sb room s fs st N w) (hR:aC a R) (hroom:room<=4194304) (hB:Lg.BK qs.length s) (hcap:mw lv) (hqn:qs.length<=1000) (hp1 : -1000000000000<=prev) (hp2:prev<=1000000000000)
 (hr:ku room prev pe st.app (ag qs) s fs=((fs',s'),0)) :
 Calls prog 120 #[.pointer (some ⟨N.r,0,none⟩),.int .i64 prev,.int .i64 pe,lv] w fun e w'=>e=.returned (.int .i64 0)/\ah R J a nb lg sb room s' fs' st N w':=by
 obtain⟨J',h1,h2⟩:=h.rep;refine(xV h1 hR hroom hB hcap hqn hp1 hp2 hr).mono ?_;rintro e w' ⟨rfl,hx⟩;exact⟨rfl,h2 R s' fs' st w' hx⟩
set_option maxHeartbeats 32000000 in
set_option maxRecDepth 100000 in
theorem Hw {x nd pv pe sy cm:Int} {va:Option Addr} {n vc:Nat} {qs:List bu} (h:ah (cn R (.slice va n vc) qs) J a nb lg sb room s fs st N w) (hR:aC a R) (hV:gq N fs) (hV':gq N fs') (hb0:jO N.v N.id=0) (hb1:N.vU=1) (hbe:behind N.v N.id=0) (hno:N.outs.length<=900) (hroom:room<=4194304) (hB:Lg.BK qs.length s) (hcap:mw (.slice va n vc)) (hqn:qs.length<=1000) (hp1 : -1000000000000<=pv) (hp2:pv<=1000000000000) (hn:n<=1000)
 (hl:s'.es.length<=100) (hlt:s.es.length<s'.es.length) (happ:st.app<=100000) (hcm:sV cm) (hap2:∀k,k<=s'.es.length->(st.aS ((cj st cm s'.es).take k)).2.app<=400000)
 (hr:ku room pv pe st.app (ag qs) s fs=((fs',s'),0)) :
 Calls prog 74 #[.pointer (some ⟨nb,0,none⟩),.agg #[.int .i64 x,.int .i64 nd,.int .i64 pv,.int .i64 pe,.int .i64 sy,.int .i64 cm,.slice va n vc]] w fun e w'=>e=.returned (.tuple #[])/\ah R J a nb lg sb room s' fs' (st.aS (cj st cm s'.es)).2 N w':=by
 have hRW:=fi hR (.slice va n vc) qs;obtain⟨W,hW⟩:∃W,w.alloc (.cells #[.int .i64 x,.int .i64 nd,.int .i64 pv,.int .i64 pe,.int .i64 sy,.int .i64 cm,.slice va n vc] 77)=W:=⟨_,rfl⟩;have h2:=h.alloc hRW (cs:=#[.int .i64 x,.int .i64 nd,.int .i64 pv,.int .i64 pe,.int .i64 sy,.int .i64 cm,.slice va n vc]) (t:=77);obtain⟨bx,hbx⟩:∃bx,w.heap.size=bx:=⟨_,rfl⟩;obtain⟨BO,hBO⟩:∃BO:Obj,.cells #[.int .i64 x,.int .i64 nd,.int .i64 pv,.int .i64 pe,.int .i64 sy,.int .i64 cm,.slice va n vc] 77 (0,0)=BO:=⟨_,rfl⟩;rw[hW,hbx]at h2;have hC:∀Z:World,Z.heap[bx]?=some BO->Z.cell? ⟨bx,2,none⟩=some (.int .i64 pv)/\Z.cell? ⟨bx,3,none⟩=some (.int .i64 pe)/\Z.cell? ⟨bx,5,none⟩=some (.int .i64 cm)/\Z.cell? ⟨bx,6,none⟩=some (.slice va n vc):=fun Z hz=>by
  rw[<-hBO]at hz;refine⟨?_,?_,?_,?_⟩ <;> (rw[aw hz];rfl)
 rw[hBO]at h2;have HSY:=ad (Fb h2 hRW hV hb0 hb1);have HN:=ad h2;have HC:=ad hC;have HRD:=ad (fun Z (hb:Below W.heap.size W Z)=>gC (h2.next hRW hb) hRW hV);have HLA:=ad (fun Z (hb:Below W.heap.size W Z)=>(kL (h2.next hRW hb)).mono (R':=fun e w'=>e=.returned (.int .i64 (s.es.length:Int))/\Below Z.heap.size Z w') (by rintro e w' ⟨rfl,rfl⟩;exact⟨rfl,ae _ _⟩));have HAC:=ad (fun Z (hb:Below W.heap.size W Z)=>zN (h2.next hRW hb) hR hroom hB hcap hqn hp1 hp2 hr);have HAD:=ad (fun (J3:List (Nat×Obj)) (Z:World) (hz:ah R J3 a nb lg sb room s' fs' st N Z)=>lX cm hz hR (by omega) happ hcm hap2);obtain⟨st2,hst⟩:∃st2,(st.aS (cj st cm s'.es)).2=st2:=⟨_,rfl⟩;rw[hst]at HAD ⊢;have HW:=ad hW;have HBX:=ad hbx;have HV':=ad hV';have hwe:wrap64 (pv+n)=pv+n:=IntWalk.wrap64_in _ (by omega);have hsl:(s.es.length:Int)<(s'.es.length:Int):=by omega
 have c3:=h2.c3.2.2;clear h h2 hV hV' hb0 hb1 hroom hB hqn hr hap2 hcm hbx hW hC hBO hst;go_enter func74,ntmps74;go_upto_region 1 with fail;rw[HW.out,HBX.out];go_wp2_with fail;refine HSY.out.mono ?_;rintro e w1 ⟨rfl,b1⟩;have HB1:=ad b1;clear b1 HSY;go_wp2_with fail;refine(HRD.out w1 HB1.out).mono ?_;rintro e w2 ⟨rfl,b2⟩;have HB2:=ad (Below.up HB1.out ab b2);have m3:=cell_kept HB2.out ab c3;clear b2 HRD HB1;go_wp2_with fail;refine(HLA.out w2 HB2.out).mono ?_;rintro e w3 ⟨rfl,b3⟩;have HB3:=ad (Below.up HB2.out ab b3);have n3:=cell_kept HB3.out ab c3;obtain⟨d2,d3,d5,d6⟩:=HC.out _ (au HB3.out ab (HN.out.bj (bx,BO) (by simp)));have HBc:=ad HB3.out.drew;clear b3 HLA HB2 m3 c3 HB3 HN;go_wp2_with fail;go_cut [32] (fun v wx=>v=.bool false/\Hid (ah R (J++[(bx,BO)]) a nb lg sb room s' fs' st N wx))
 case first =>
  go_region_held3 (fun Z=>Z.cell? ⟨nb,3,none⟩=some (.pointer (some ⟨N.r,0,none⟩))/\Z.cell? ⟨bx,2,none⟩=some (.int .i64 pv)/\Z.cell? ⟨bx,3,none⟩=some (.int .i64 pe)/\Z.cell? ⟨bx,6,none⟩=some (.slice va n vc))
   (first|exact⟨n3,d2,d3,d6⟩|exact HKX.out)
   (first
    |(go_at_call 120;refine(HAC.out _ HBc.out).mono ?_;rintro e w4 ⟨rfl,hx⟩;have HX:=ad hx;have hcc:=HC.out _ (hx.bj (bx,BO) (by simp));have HKX:=ad (aB hx.c3.2.2 (aB hcc.1 (aB hcc.2.1 hcc.2.2.2)))))
  all_goals go_wp2
  all_goals go_meet
  all_goals exact⟨rfl,HX⟩
 case rest =>
  obtain⟨rfl,HX⟩:=hcut;obtain⟨e2,e3,e5,e6⟩:=HC.out _ (HX.out.bj (bx,BO) (by simp));have HRD:=ad (gC HX.out hR HV'.out);clear d2 d3 d5 d6 n3 HAC HBc;go_wp2_with fail;refine HRD.out.mono ?_;rintro e w5 ⟨rfl,b5⟩;have HY:=ad (HX.out.next hR b5);clear b5 HRD HX e2 e3 e5 e6;obtain⟨e2,e3,e5,e6⟩:=HC.out _ (HY.out.bj (bx,BO) (by simp));have k3:=HY.out.c3.2.2;have HYD:=ad (HY.out.next hR (ae _ w5).drew);clear e2 e3 e6;go_wp2_with fail;go_cut [] (fun wx=>∃K:List (Nat×Obj),Hid (ah R (J++[(bx,BO)]++K) a nb lg sb room s' fs' st2 N wx))
  case first =>
   go_region_held3 (fun Z=>Z.cell? ⟨nb,3,none⟩=some (.pointer (some ⟨N.r,0,none⟩))/\Z.cell? ⟨bx,5,none⟩=some (.int .i64 cm))
    (first|exact⟨k3,e5⟩|exact HKX.out)
    (first
     |(go_at_call 63;refine(HAD.out _ _ HYD.out).mono ?_;rintro e w6 ⟨va6,vc6,dn,K,rfl,q1,q2,q3,hx⟩;have HX:=ad hx;have hcc:=HC.out _ (hx.bj (bx,BO) (by simp));have HKX:=ad (aB hx.c3.2.2 hcc.2.2.1)))
   all_goals go_wp2
   all_goals go_meet
   all_goals exact⟨_,HX⟩
  case rest =>
   obtain⟨K,HX⟩:=hcut;have g3:=HX.out.c3.2.2;have HL2:=ad (kL HX.out);have HRO:=ad (FU s.es.length HX.out hR (by omega) (by omega));have HDN:=ad (fun (Z:World) (hb:Below wc.heap.size wc Z) (v:Option Addr) (m mc:Nat)=>Au s.es.length v m mc (HX.out.next hR hb) hR HV'.out (by omega) (by omega) (by omega));clear HY HYD HAD k3 e5;go_wp2_with fail;refine HL2.out.mono ?_;rintro e w7 ⟨rfl,rfl⟩;clear HL2;go_wp2_with fail;refine HRO.out.mono ?_;rintro e w8 ⟨v8,m8,c8,rfl,b8⟩;have HD8:=ad (HDN.out w8 b8 v8 m8 c8);clear HRO HDN b8;go_wp2_with fail;refine HD8.out.mono ?_;rintro e w9 ⟨rfl,hx⟩;have HZ:=ad hx;clear hx HD8;go_wp2;go_end0;exact⟨rfl,by
    have hz:=HZ.out.less hR (J':=J) (fun p hp=>aH _ (aH _ hp));unfold eW at hz;rw[if_pos hbe,List.append_nil]at hz;exact hz⟩
end
end Go.Proofs.YtmgmknmaepjnoaaGreatDoor
