/-
  A node: a view is adopted.
-/
import Derived.Test.YtmgmknmaepjnoaaGreatDoorNodE
import Derived.Test.YtmgmknmaepjnoaaGreatDoorViwD
namespace Go.Proofs.YtmgmknmaepjnoaaGreatDoor
open Go.RowKit Go.Shelf Go.Sort Proofs.Tryz
section
variable {R:(Nat->Prop)->(Nat->Prop)->World->Prop} {a w w':World} {nb lg sb:Nat} {room:Int} {s:Lg.S} {fs fs':List Dk.ai} {st:Stat} {J:List (Nat×Obj)} {N:Nd}
theorem fR.tv {B:Nat} {x:Option Addr} {c:Nat} {l:List Int} (h:fR w B x c l):∃g o,w.heap[g]?=some o/\B<=g/\∀W:World,W.heap[g]?=some o->Cells W (.slice x l.length c) 1 l.length (aE l):=by
 obtain⟨g,rfl,h⟩:=h;have hl:=h.lt g rfl;refine⟨g,_,Array.getElem?_eq_getElem hl.2,hl.1,fun W hW=>aj (fv h (fun k hk _=>?_))⟩;simp only[Value.ownBlock,Option.some.injEq]at hk;subst hk;rw[hW,Array.getElem?_eq_getElem hl.2]
theorem sC (h:ah R J a nb lg sb room s fs st N w) (hroom:room<=4194304):Calls prog 46 #[.pointer (some ⟨N.r,0,none⟩)] w fun e w'=>e=.returned (.int .i64 (al.cx fs).1)/\Below w.heap.size w w':=by
 obtain⟨J',h1,_⟩:=h.rep;exact qG h1 hroom
theorem BA (x:Int) (h:ah R J a nb lg sb room s fs st N w) (hR:aC a R) (hroom:room<=4194304) (hr:al.jj room x fs=(fs',0)):Calls prog 55 #[.pointer (some ⟨N.r,0,none⟩),.int .i64 x] w fun e w'=>e=.returned (.int .i64 0)/\ah R J a nb lg sb room s fs' st N w':=by
 obtain⟨J',h1,h2⟩:=h.rep;have:=zg x h1 hR hroom;rw[hr]at this;refine this.mono ?_;rintro e w' ⟨rfl,hx⟩;exact⟨rfl,h2 R s fs' st w' hx⟩
theorem map_none {W:World} {mb:Nat} (h:W.heap[mb]?=some (.map #[] 0)):EN W none mb:=by
 obtain⟨es,c,hb,F,hs,hD⟩:=World.ownsMap_made W prog 3 bJ;rw[(Go.MapKept.heap_alloc W _).1]at hb;cases hb;exact⟨_,_,h,F,hs,hD⟩
theorem ah.Kv (l:Int) (h:ah R J a nb lg sb room s fs st N w) (hR:aC a R):ah R J a nb lg sb room s fs st {N with ez:=l} (w.setCell ⟨nb,8,none⟩ (.int .i64 l)):=by
 obtain⟨P,K,Ko,h1,h2,hd,h3⟩:=h;have hh:=h3.bj (nb,dJ N P) (by simp);have hs:=h3.C9 (o':=dJ {N with ez:=l} P) (Kx':=K++Ko) hd.1 hR (ax.cq (ft:=fun j=>j=nb) (az w nb 8 (.int .i64 l)) rfl) (fun j hj=>.inl hj) (by rw[av (i:=8) hh];simp[dJ]) (fun p hp=>⟨.inl ⟨p,hp,rfl⟩,(Below.heap_setCell w ⟨nb,8,none⟩ _ p.1 (hd.1.1 p hp)).trans (h3.bj p (aH _ (List.mem_cons_of_mem _ hp)))⟩);exact⟨P,K,Ko,h1,h2,⟨hs.1,hd.2⟩,hs.2⟩
theorem ah.view {C:List (Nat×Obj)} {p:Nat×Obj} {V:Vw} {A':q_gk} (h:ah R (J++(C++[p])) a nb lg sb room s fs st N w) (hR:aC a R) (hC:∀W:World,(∀q∈C,W.heap[q.1]?=some q.2)->fE W V A') (hJC:∀p∈J,∀q∈C,p.1≠q.1) :
 ah R J a nb lg sb room s fs st {N with v:=V,ez:=0,q:=none} (((((((w.alloc (.map #[] 0)).setCell ⟨nb,4,none⟩ (.int .i64 V.ep)).setCell ⟨nb,5,none⟩ (.slice A'.ca V.ch.length A'.cc)).setCell ⟨nb,6,none⟩ (.slice A'.sa V.si.length A'.sc)).setCell ⟨nb,7,none⟩ (.slice A'.ba V.bo.length A'.bc)).setCell ⟨nb,8,none⟩ (.int .i64 0)).setCell ⟨nb,9,none⟩ (.map (some w.heap.size))):=by
 obtain⟨P,K,Ko,h1,h2,hd,h3⟩:=h;have hlt:∀q∈(nb,dJ N P)::(K++Ko)++(J++(C++[p])),q.1<w.heap.size:=fun q hq=>(aA.1 (h3.bj q hq)).1;have hnb:=hlt (nb,dJ N P) (by simp);have hh:(w.alloc (.map #[] 0)).heap[nb]?=some (dJ N P):=au (an (ae _ w) _) ab (h3.bj (nb,dJ N P) (by simp));have hmb:(w.alloc (.map #[] 0)).heap[w.heap.size]?=some (.map #[] 0):=(Go.MapKept.heap_alloc w _).1;have hg:(w.alloc (.map #[] 0)).grownBy (((((((w.alloc (.map #[] 0)).setCell ⟨nb,4,none⟩ (.int .i64 V.ep)).setCell ⟨nb,5,none⟩ (.slice A'.ca V.ch.length A'.cc)).setCell ⟨nb,6,none⟩ (.slice A'.sa V.si.length A'.sc)).setCell ⟨nb,7,none⟩ (.slice A'.ba V.bo.length A'.bc)).setCell ⟨nb,8,none⟩ (.int .i64 0)).setCell ⟨nb,9,none⟩ (.map (some w.heap.size))) (some nb) :=
  aF (aF (aF (aF (aF (az _ _ _ _) (az _ _ _ _)) (az _ _ _ _)) (az _ _ _ _)) (az _ _ _ _)) (az _ _ _ _)
 have hnew:=av (i:=9) (av (i:=8) (av (i:=7) (av (i:=6) (av (i:=5) (av (i:=4) hh (.int .i64 V.ep)) (.slice A'.ca V.ch.length A'.cc)) (.slice A'.sa V.si.length A'.sc)) (.slice A'.ba V.bo.length A'.bc)) (.int .i64 0)) (.map (some w.heap.size));obtain⟨W,hW⟩:∃W,(((((((w.alloc (.map #[] 0)).setCell ⟨nb,4,none⟩ (.int .i64 V.ep)).setCell ⟨nb,5,none⟩ (.slice A'.ca V.ch.length A'.cc)).setCell ⟨nb,6,none⟩ (.slice A'.sa V.si.length A'.sc)).setCell ⟨nb,7,none⟩ (.slice A'.ba V.bo.length A'.bc)).setCell ⟨nb,8,none⟩ (.int .i64 0)).setCell ⟨nb,9,none⟩ (.map (some w.heap.size)))=W:=⟨_,rfl⟩;rw[hW]at hg hnew ⊢;have hk:∀(j:Nat) (o:Obj),j≠nb->(w.alloc (.map #[] 0)).heap[j]?=some o->W.heap[j]?=some o:=fun j o hj ho=>(hg.block j (aA.1 ho).1 (fun e=>by cases e;exact hj rfl)).trans ho;have hold:∀q∈(nb,dJ N P)::(K++Ko)++(J++(C++[p])),q.1≠nb->W.heap[q.1]?=some q.2:=fun q hq hne=>hk q.1 q.2 hne (au (an (ae _ w) _) ab (h3.bj q hq));have hht:ax (fun j=>j=nb) w W:=(ax.aI (an (ae _ w) _)).trans (ax.cq (ft:=fun j=>j=nb) hg rfl) (fun j hj=>.inl hj);have hC2:∀q∈C,q∈J++(C++[p]):=fun q hq=>aD _ (aH _ hq);refine⟨{P with A:=A',mb:=w.heap.size},C++[(w.heap.size,.map #[] 0)],Ko,fun Z hZ=>⟨hC Z fun q hq=>hZ q (aH _ hq),map_none (hZ (w.heap.size,.map #[] 0) (by simp))⟩,h2,⟨⟨fun q hq=>?_,fun q hq=>⟨(hd.1.2 q (aH _ hq)).1,fun z hz=>?_⟩⟩,fun q hq z hz=>?_⟩,h3.oL hR (ht:=hht.wide fun j hj=>⟨(nb,dJ N P),by simp,hj.symm⟩) (fun q hq=>?_) (fun _ _ _ e=>e)⟩
 ·rcases aK.1 hq with hq|hq
  ·rcases aK.1 hq with hq|hq
   ·exact(hd.1.2 q (hC2 q hq)).1
   ·rw[aN.1 hq];show w.heap.size≠nb;omega
  ·exact hd.1.1 q (aD _ hq)
 ·rcases aK.1 hz with hz|hz
  ·rcases aK.1 hz with hz|hz
   ·exact hJC q hq z hz
   ·rw[aN.1 hz];have:=hlt q (aD _ (aH _ hq));show q.1≠w.heap.size;omega
  ·exact(hd.1.2 q (aH _ hq)).2 z (aD _ hz)
 ·rcases aK.1 hq with hq|hq
  ·exact(hd.1.2 q (hC2 q hq)).2 z (aD _ hz)
  ·rw[aN.1 hq];have:=hlt z (aH _ (List.mem_cons_of_mem _ (aD _ hz)));show w.heap.size≠z.1;omega
 ·have hJB:∀q∈(nb,dJ N P)::(K++Ko)++(J++(C++[p])),q.1≠nb->(JB ((nb,dJ N P)::(K++Ko)++(J++(C++[p]))) q.1\/w.heap.size<=q.1)/\W.heap[q.1]?=some q.2:=fun q hq hne=>⟨.inl ⟨q,hq,rfl⟩,hold q hq hne⟩;rcases aK.1 hq with hq|hq
  ·rcases List.mem_cons.1 hq with rfl|hq
   ·exact⟨.inl ⟨(nb,dJ N P),by simp,rfl⟩,by rw[hnew];simp[dJ]⟩
   ·rcases aK.1 hq with hq|hq
    ·rcases aK.1 hq with hq|hq
     ·exact hJB q (aD _ (hC2 q hq)) (hd.1.2 q (hC2 q hq)).1
     ·rw[aN.1 hq];exact⟨.inr ab,hk _ _ (by omega) hmb⟩
    ·exact hJB q (aH _ (List.mem_cons_of_mem _ (aD _ hq))) (hd.1.1 q (aD _ hq))
  ·exact hJB q (aD _ (aH _ hq)) (hd.1.2 q (aH _ hq)).1
set_option maxHeartbeats 16000000 in
set_option maxRecDepth 100000 in
theorem IL (V:Vw) (A:q_gk) (h:ah R J a nb lg sb room s fs st N w) (hR:aC a R) (hA:fE w V A) (hV:eU V) (hep:N.v.ep<V.ep) (hf:(al.cx fs).1<=V.ep) (hroom:room<=4194304) (hr:al.jj room V.ep fs=(fs',0)) :
 Calls prog 33 #[.pointer (some ⟨nb,0,none⟩),dw V A] w fun e w'=>e=.returned (.tuple #[])/\ah R J a nb lg sb room s fs' st {N with v:=V,ez:=0,q:=none} w':=by
 have b0:=an (ae _ w) (.cells #[.int .i64 V.ep,.slice A.ca V.ch.length A.cc,.slice A.sa V.si.length A.sc,.slice A.ba V.bo.length A.bc] 47);have HOF:=ad (tI V A true _ (hA.next b0) ⟨hV.2.2.1,by have:=hV.2.2.2.1;omega⟩ ⟨by have:=hV.2.2.2.2.1;have:=hV.2.2.1;omega,by have:=hV.2.2.2.2.1;have:=hV.2.2.2.1;omega⟩ ⟨by have:=hV.2.2.2.2.2.1;have:=hV.2.2.1;omega,by have:=hV.2.2.2.2.2.1;have:=hV.2.2.2.1;omega⟩ (by rw[if_pos rfl];exact hV));have HB0:=ad b0;have H:=ad h;have HF:=ad (aB hf (aB hroom hr));have hep':decide (V.ep<=N.v.ep)=false:=decide_eq_false (by omega);clear h hA hV b0 hr hep hf hroom;unfold dw;go_enter func33,ntmps33;go_wp2_with fail;refine HOF.out.mono ?_;rintro e w1 ⟨hx,b1⟩;rw[if_pos trivial]at hx;unfold dw at hx;obtain⟨A',rfl,hown⟩:=hx;obtain⟨W,hW⟩:∃W,w1.alloc (.cells #[.int .i64 V.ep,.slice A'.ca V.ch.length A'.cc,.slice A'.sa V.si.length A'.sc,.slice A'.ba V.bo.length A'.bc] 70)=W:=⟨_,rfl⟩;obtain⟨vb,hvb⟩:∃vb,w1.heap.size=vb:=⟨_,rfl⟩;have b01:Below w.heap.size w w1:=Below.up HB0.out ab b1;have bW:Below w.heap.size w W:=by rw[<-hW];exact an b01 _
 have hsz:w.heap.size<=w1.heap.size:=b01.size;obtain⟨o1,o2,o3⟩:=hown.out;have hcap:=o1.cap;obtain⟨g1,z1,e1,l1,k1⟩:=o1.tv;obtain⟨g2,z2,e2,l2,k2⟩:=o2.tv;obtain⟨g3,z3,e3,l3,k3⟩:=o3.tv;rw[World.size_alloc]at l1 l2 l3;obtain⟨C,hCd⟩:∃C:List (Nat×Obj),[(g1,z1),(g2,z2),(g3,z3)]=C:=⟨_,rfl⟩;have hCv:∀Z:World,(∀q∈C,Z.heap[q.1]?=some q.2)->fE Z V A':=fun Z hZ=>by
  rw[<-hCd]at hZ;exact⟨k1 Z (hZ (g1,z1) (by simp)),k2 Z (hZ (g2,z2) (by simp)),k3 Z (hZ (g3,z3) (by simp)),hcap⟩
 have hC1:∀q∈C,w.heap.size<=q.1/\w1.heap[q.1]?=some q.2:=fun q hq=>by
  rw[<-hCd]at hq;simp only[List.mem_cons,List.not_mem_nil,or_false]at hq;rcases hq with rfl|rfl|rfl
  ·exact⟨by omega,e1⟩
  ·exact⟨by omega,e2⟩
  ·exact⟨by omega,e3⟩
 have hb1W:Below w1.heap.size w1 W:=by rw[<-hW];exact an (ae _ w1) _
 have hvo:W.heap[vb]?=some (nj V A'):=by rw[<-hW,<-hvb];exact heap_alloc_new w1 _
 have h2:ah R (J++(C++[(vb,nj V A')])) a nb lg sb room s fs st N W:=H.out.enter hR bW (fun p hp=>by
  rcases aK.1 hp with hp|hp
  ·exact⟨(hC1 p hp).1,au hb1W ab (hC1 p hp).2⟩
  ·rw[aN.1 hp];exact⟨by rw[<-hvb];exact hsz,hvo⟩) (fun _ _ _ h=>h)
 have HJC:=ad (show ∀p∈J,∀q∈C,p.1≠q.1 from fun p hp q hq e=>by
  have h3:=(aA.1 (H.out.bj p hp)).1;have h4:=(hC1 q hq).1;omega)
 have HCV:=ad hCv;have HFE:=ad (fun Z (hb:Below W.heap.size W Z)=>sC (h2.next hR hb) HF.out.2.1);have HRA:=ad (fun Z (hb:Below W.heap.size W Z)=>BA V.ep (h2.next hR hb) hR HF.out.2.1 HF.out.2.2);have hcl:∀(Z:World) (f:List Dk.ai),ah R (J++(C++[(vb,nj V A')])) a nb lg sb room s f st N Z->Z.cell? ⟨nb,4,none⟩=some (.int .i64 N.v.ep)/\Z.cell? ⟨nb,3,none⟩=some (.pointer (some ⟨N.r,0,none⟩))/\Z.cell? ⟨vb,0,none⟩=some (.int .i64 V.ep):=fun Z f hz=>by
  have c3:=hz.c3;exact⟨c3.1,c3.2.2,(ni (hz.bj (vb,nj V A') (by simp))).1⟩
 have HCL:=ad hcl;have HKS:=ad (fun Z (hb:Below W.heap.size W Z)=>hcl Z fs (h2.next hR hb));have HW:=ad hW;have HVB:=ad hvb;have hff:decide (V.ep<(al.cx fs).1)=false:=decide_eq_false (by have:=HF.out.1;omega);clear hW hvb b1 b01 bW hsz o1 o2 o3 e1 e2 e3 l1 l2 l3 k1 k2 k3 hCd hCv hC1 hb1W hvo h2 hcl hcap hown H HOF HB0;go_upto_region 2 with fail;rw[HW.out,HVB.out];go_cut [42] (fun v wx=>v=.bool false/\Hid (ah R (J++(C++[(vb,nj V A')])) a nb lg sb room s fs' st N wx))
 case first =>
  go_region_held3 (fun Z=>Z.cell? ⟨nb,4,none⟩=some (.int .i64 N.v.ep)/\Z.cell? ⟨nb,3,none⟩=some (.pointer (some ⟨N.r,0,none⟩))/\Z.cell? ⟨vb,0,none⟩=some (.int .i64 V.ep))
   (first
    |with_reducible exact HS6.out
    |(refine HKS.out _ ?_;first
     |with_reducible exact ae _ W
     |with_reducible exact(ae _ W).drew
     |with_reducible exact HB5.out))
   (first
    |(go_at_call 46;refine(HFE.out _ (ae _ W).drew).mono ?_;rintro e w5 ⟨rfl,b5⟩;have HB5:=ad (show Below W.heap.size W w5 from(ae _ W).drew.trans b5);clear b5)
    |(go_at_call 55;refine(HRA.out _ HB5.out).mono ?_;rintro e w6 ⟨rfl,hx⟩;have HS6:=ad (HCL.out w6 fs' hx);have HX:=ad hx;clear hx))
  all_goals go_wp2
  all_goals go_meet
  all_goals exact⟨rfl,HX⟩
 case rest =>
  obtain⟨rfl,HN⟩:=hcut;obtain⟨v0,v1,v2,v3⟩:=ni (HN.out.bj (vb,nj V A') (by simp));obtain⟨P,hnb0,_,_⟩:=HN.out.heap;have hnb:=au (an (ae _ wc) (.map #[] 0)) ab hnb0;have f4:=ay hnb 4;have f5:=ay hnb 5;have f6:=ay hnb 6;have f7:=ay hnb 7;have f8:=ay hnb 8;have f9:=ay hnb 9;obtain⟨d0,d1,d2,d3,d4,d5,d6,d7,d8,d9,d10,d11,d12⟩:=cM hnb;have HFN:=ad (HN.out.view hR HCV.out HJC.out);have hmm:=@run_makeMap prog;clear HN HFE HRA HKS HCL HCV HJC hff hnb hnb0 d0 d1 d2 d3 d10 d11 d12;go_wp2;go_end0;exact⟨rfl,HFN.out⟩
end
abbrev Mj:=List UInt8×Value×Value
abbrev Mi:=Int×Int×cI
theorem t' {P:Program} {fn:Func} {p:Tmp} {ty:TypeId} (h:fn.results=#[.cell p ty]) (tmps:Array Value) (w:World) (g:Nat) (t:TypeId) (cs:Array Value) (fr:Nat×Nat) (d:TypeDesc)
 (hp:tmps.getD p undef=.pointer (some ⟨g,0,none⟩)) (hg:w.heap[g]?=some (.cells cs t fr))
 (hu:P.underlying ty=some d) (hd:(match d with|.struct _|.array _ _=>true|_=>false)=true) (hi:(P.info? ty).map (·.size)=some cs.size) :
 (results fn tmps).run P w=.ok (.agg cs) w:=by
 have hp':tmps[p]?.getD undef=.pointer (some ⟨g,0,none⟩):=by simpa using hp
 simp[results,h,hp',asAddr,run_loadVar_row w g t ty cs fr d hg hu hd hi]
section
variable {Q:(Nat->Prop)->World->Prop} {a w w':World} {r lg d sb r2 lg2 d2 sb2:Nat} {room room2:Int} {s s2:Lg.S} {fs fs2:List Dk.ai} {st st2:Stat} {BL:List (Nat×Obj)}
theorem zf {R:(Nat->Prop)->(Nat->Prop)->World->Prop} {J:List (Nat×Obj)} (h:RR R J a r lg d sb room s fs st w) (hn:st.n<=400) (hm:st.m<=400) :
 Calls prog 40 #[.pointer (some ⟨r,0,none⟩)] w fun e w'=>∃c,e=.returned (.pointer (some ⟨c,0,none⟩))/\Hid (mZ w' c st)/\Below w.heap.size w w':=by
 have h0:=h;obtain⟨TL,TS,X,hr,_⟩:=h;exact Bg (P:=fun c w'=>mZ w' c st) h0 (vr sb st TS w hr.jH (by omega) (by omega))
end
theorem Stat.Ok.aS:∀(M:List Evt.Entry) {st:Stat},st.Ok->(st.aS M).2.Ok
 |[],_,h=>h
 |e::l,_,h=>Stat.Ok.aS l (h.apply e).1
theorem zr {M:List Evt.Entry} (hM:Evt.follows M 0 0=true) (hl:M.length<=40):(Stat.new.aS M).2.n<=400/\(Stat.new.aS M).2.m<=400/\xF (Stat.new.aS M).2.S:=by
 have h:=Stat.Ok.aS M Stat.FM;have ha:=Stat.oX M Stat.new 0 hM;have h0:Stat.new.app=0:=rfl;have hn:=h.n;have hm:=h.m;exact⟨by omega,by omega,h.s⟩
section
variable {R:(Nat->Prop)->(Nat->Prop)->World->Prop} {a w w':World} {nb lg sb:Nat} {room:Int} {s s':Lg.S} {fs fs':List Dk.ai} {st:Stat} {J:List (Nat×Obj)} {N:Nd}
def oH (N:Nd) (L:List (Evt.Entry×cI)) (app:Int):List (Int×Value):=if L=[] then [] else i' N app
theorem KG {wa wb:World} {a1 a2:Addr} {u1 u2:Value} (h:wa.cell? a1=some u1/\wa.cell? a2=some u2) (hb:Below wa.heap.size wa wb):wb.cell? a1=some u1/\wb.cell? a2=some u2 :=
 ⟨cell_kept hb ab h.1,cell_kept hb ab h.2⟩
theorem ah.alloc (h:ah R J a nb lg sb room s fs st N w) (hR:aC a R) {cs:Array Value} {t:TypeId}:ah R (J++[(w.heap.size,.cells cs t (0,0))]) a nb lg sb room s fs st N (w.alloc (.cells cs t)) :=
 h.enter hR (an (ae _ w) _) (fun p hp=>by rw[aN.1 hp];exact⟨ab,heap_alloc_new w _⟩) (fun _ _ _ h=>h)
theorem ah.lh (h:ah R J a nb lg sb room s fs st N w) {b i:Nat} {cs:Array Value} {t:TypeId} {v:Value} (hm:(b,Obj.cells cs t (0,0))∈J) (hv:cs[i]?=some v):w.cell? ⟨b,i,none⟩=some v:=by
 rw[aw (h.bj _ hm)];exact hv
set_option maxHeartbeats 16000000 in
set_option maxRecDepth 100000 in
theorem J5 (x k n:Int) (h:ah R J a nb lg sb room s fs st N w) (hR:aC a R) (hV:eU N.v) (hn:N.outs.length<=1000) (hl:s.es.length<=300000) (happ:st.app<=100000) (hnb:sV n) (hap2:∀k,k<=s.es.length->(st.aS ((cj st n s.es).take k)).2.app<=400000) :
 Calls prog 75 #[.pointer (some ⟨nb,0,none⟩),.agg #[.int .i64 x,.int .i64 k,.int .i64 n]] w fun e w'=>e=.returned (.tuple #[])/\ah R J a nb lg sb room s fs (st.aS (cj st n s.es)).2 {N with outs:=N.outs++oH N (st.aS (cj st n s.es)).1 (st.aS (cj st n s.es)).2.app} w':=by
 obtain⟨W,hW⟩:∃W,w.alloc (.cells #[.int .i64 x,.int .i64 k,.int .i64 n] 79)=W:=⟨_,rfl⟩;have h2:=h.alloc hR (cs:=#[.int .i64 x,.int .i64 k,.int .i64 n]) (t:=79);obtain⟨bx,hbx⟩:∃bx,w.heap.size=bx:=⟨_,rfl⟩;rw[hW,hbx]at h2;have c3:=h2.c3.2.2;obtain⟨cs,hcs⟩:∃cs:Array Value,#[.int .i64 x,.int .i64 k,.int .i64 n]=cs:=⟨_,rfl⟩;have hc2:cs[2]?=some (.int .i64 n):=by rw[<-hcs];rfl
 rw[hcs]at h2;have hmem:∀K:List (Nat×Obj),(bx,Obj.cells cs 79 (0,0))∈J++[(bx,Obj.cells cs 79 (0,0))]++K:=fun K=>by simp
 have cb:W.cell? ⟨bx,2,none⟩=some (.int .i64 n):=h2.lh (t:=79) (by simp) hc2;have HAD:=ad (fun Z (hb:Below W.heap.size W Z)=>lX n (h2.next hR hb) hR hl happ hnb hap2);obtain⟨⟨L,s2⟩,hL⟩:∃P,st.aS (cj st n s.es)=P:=⟨_,rfl⟩;rw[hL]at HAD ⊢;simp only at HAD ⊢;have HBc:=ad (ae W.heap.size W).drew;have HW:=ad hW;have HBX:=ad hbx;clear h h2 hap2 hL hnb hW hbx hcs;go_enter func75,ntmps75;go_upto_region 1 with fail;rw[HW.out,HBX.out];go_cut [12] (fun v wx=>v=.bool (decide (L≠[]))/\∃J2:List (Nat×Obj),Hid (ah R (J++J2) a nb lg sb room s fs s2 N wx))
 case first =>
  go_region_held3 (fun Z=>Z.cell? ⟨nb,3,none⟩=some (.pointer (some ⟨N.r,0,none⟩))/\Z.cell? ⟨bx,2,none⟩=some (.int .i64 n))
   (first|exact⟨c3,cb⟩|exact KG (by assumption) hb|exact HKX.out)
   (first
    |(go_at_call 63;refine(HAD.out _ HBc.out).mono ?_;rintro e w4 ⟨va,vc,dn,K,rfl,q1,q2,q3,hx⟩;have HX:=ad hx;have HDN:=q1;have HKX:=ad (aB hx.c3.2.2 (hx.lh (hmem _) hc2))))
  all_goals go_wp2
  all_goals go_meet
  all_goals exact⟨by
   rw[<-HDN.out];cases dn <;> simp,_,ad (by have:=HX.out;rw[List.append_assoc]at this;exact this)⟩
 case rest =>
  obtain⟨rfl,J2,HN⟩:=hcut;clear HAD HBc c3 cb;by_cases h0:L=[]
  ·have HNO:=ad h0;have hd:decide (L≠[])=false:=by simp[h0]
   rw[hd];clear h0 hd;go_wp2;go_end0;exact⟨rfl,by
    have:=HN.out.drop hR;unfold oH;rw[if_pos HNO.out,List.append_nil];exact this⟩
  ·have HNO:=ad h0;have hd:decide (L≠[])=true:=by simp[h0]
   have HAA:=ad (rH HN.out hR hV hn);rw[hd];clear h0 hd;go_wp2_with fail;refine HAA.out.mono ?_;rintro e w5 ⟨rfl,hx⟩;have HX:=ad (hx.drop hR);clear hx HAA;go_wp2;go_end0;exact⟨rfl,by
    have:=HX.out;unfold oH;rw[if_neg HNO.out];exact this⟩
end
def EM (R:(Nat->Prop)->(Nat->Prop)->World->Prop):Prop:=∀(T T' X X':Nat->Prop) (w:World),R T X w->(∀j,T' j->T j)->(∀j,X' j->X j)->(∀j,X j->X' j\/T j)->R T' X' w
def CU (a:World) (r lg d sb:Nat) (room:Int) (s:Lg.S) (fs:List Dk.ai) (st:Stat) (J2:List (Nat×Obj)):(Nat->Prop)->(Nat->Prop)->World->Prop :=
 fun T X w=>∃TL TS,iS a r lg d sb room s fs st TL TS J2 X w/\∀j,(TL j\/TS j\/JB J2 j)->¬T j
def iE (a:World) (nb lg sb:Nat) (room:Int) (s:Lg.S) (fs:List Dk.ai) (st:Stat) (N:Nd):(Nat->Prop)->(Nat->Prop)->World->Prop :=
 fun T X w=>∃P K Ko,Lz N P K/\AL P.oa P.oc N.outs Ko/\(Sep nb (K++Ko) []/\IQ K Ko)/\CU a N.r lg N.d sb room s fs st ((nb,dJ N P)::(K++Ko)) T X w
section
variable {a w w':World} {r lg d sb r2 lg2 d2 sb2 nb nb2:Nat} {room:Int} {s s2:Lg.S} {fs fs2:List Dk.ai} {st st2:Stat} {J J1 J2:List (Nat×Obj)} {N N2:Nd}
theorem tV:aC a (CU a r lg d sb room s fs st J2):=by
 rintro T T' X X' w w' ⟨TL,TS,h,hd⟩ ht h1 h2 h3 h4 h5 h6;have hlt:∀j,(TL j\/TS j\/JB J2 j)->j<w.heap.size:=fun j hj=>h.log.lt j (h.TX j hj);refine⟨TL,TS,⟨h.log.lk ht h1 (fun j hj=>hd j (.inl hj)) h3 h5 h4 h6,h.jH.other ht (fun j hj=>hd j (.inr (.inl hj))),h.box.cJ (fun e=>h.nr (h1 r e)) ht,h.dis,fun j hj=>h4 j (h.cz j hj),fun e=>?_,fun j hj=>?_,h.ok,fun p hp=>?_⟩,fun j hj hT=>?_⟩
 ·rcases h3 r e with e|e
  ·exact h.nr e
  ·have:=(aA.1 h.box).1;omega
 ·rcases h3 j hj with e|e
  ·exact h.out j e
  ·have:=h.log.below.size;omega
 ·obtain⟨g1,g2,g3,g4⟩:=h.ju p hp;exact⟨(ht.block p.1 (aA.1 g1).1 (hd p.1 (.inr (.inr ⟨p,hp,rfl⟩)))).trans g1,h4 _ g2,g3,g4⟩
 ·rcases h2 j hT with e|e
  ·exact hd j hj e
  ·have:=hlt j hj;omega
theorem cu:aC a (iE a nb lg sb room s fs st N):=by
 rintro T T' X X' w w' ⟨P,K,Ko,q1,q2,q3,h⟩ ht h1 h2 h3 h4 h5 h6;exact⟨P,K,Ko,q1,q2,q3,tV T T' X X' w w' h ht h1 h2 h3 h4 h5 h6⟩
theorem yi:EM (iE a nb lg sb room s fs st N):=by
 rintro T T' X X' w ⟨P,K,Ko,q1,q2,q3,TL,TS,h,hd⟩ h1 h2 h3;have hx:∀j,(TL j\/TS j\/JB ((nb,dJ N P)::(K++Ko)) j)->X' j:=fun j hj=>(h3 j (h.TX j hj)).elim id (fun e=>(hd j hj e).elim);exact⟨P,K,Ko,q1,q2,q3,TL,TS,⟨h.log.wide h2 (fun j hj=>hx j (.inl hj)),h.jH,h.box,h.dis,fun j hj=>hx j (.inr (.inl hj)),fun e=>h.nr (h2 _ e),fun j hj=>h.out j (h2 j hj),h.ok,fun p hp=>⟨(h.ju p hp).1,hx _ (.inr (.inr ⟨p,hp,rfl⟩)),(h.ju p hp).2.2⟩⟩,fun j hj e=>hd j hj (h1 j e)⟩
theorem ah.swap (h:ah (iE a nb2 lg2 sb2 room s2 fs2 st2 N2) J a nb lg sb room s fs st N w):ah (iE a nb lg sb room s fs st N) J a nb2 lg2 sb2 room s2 fs2 st2 N2 w:=by
 obtain⟨P,K,Ko,h1,h2,hd,TL,TS,X,h,P2,K2,Ko2,g1,g2,gd,TL2,TS2,hh,hdj⟩:=h;have hJT:∀p∈J,TL p.1\/TS p.1\/JB ((nb,dJ N P)::(K++Ko)++J) p.1:=fun p hp=>.inr (.inr ⟨p,aD _ hp,rfl⟩);have hJ2:∀p∈J,∀q∈(nb2,dJ N2 P2)::(K2++Ko2),p.1≠q.1:=fun p hp q hq e=>hdj p.1 (.inr (.inr ⟨q,hq,e.symm⟩)) (hJT p hp);refine⟨P2,K2,Ko2,g1,g2,⟨⟨gd.1.1,fun p hp=>⟨fun e=>hJ2 p hp (nb2,dJ N2 P2) (by simp) e,fun q hq e=>hJ2 p hp q (List.mem_cons_of_mem _ hq) e⟩⟩,gd.2⟩,TL2,TS2,X,⟨hh.log,hh.jH,hh.box,hh.dis,hh.cz,hh.nr,hh.out,hh.ok,fun p hp=>?_⟩,P,K,Ko,h1,h2,⟨⟨hd.1.1,fun p hp=>by cases hp⟩,hd.2⟩,TL,TS,⟨h.log,h.jH,h.box,h.dis,h.cz,h.nr,h.out,h.ok,fun p hp=>h.ju p (aH _ hp)⟩,fun j hj hT=>?_⟩
 ·rcases aK.1 hp with hp|hp
  ·exact hh.ju p hp
  ·obtain⟨e1,e2,e3,e4⟩:=h.ju p (aD _ hp);exact⟨e1,e2,fun e=>hdj _ (.inl e) (hJT p hp),fun e=>hdj _ (.inr (.inl e)) (hJT p hp)⟩
 ·have hj1:TL j\/TS j\/JB ((nb,dJ N P)::(K++Ko)++J) j:=hj.imp id (fun e=>e.imp id (fun ⟨p,hp,e⟩=>⟨p,aH _ hp,e⟩));rcases hT with e|e|⟨p,hp,rfl⟩
  ·exact hdj j (.inl e) hj1
  ·exact hdj j (.inr (.inl e)) hj1
  ·rcases aK.1 hp with hp|hp
   ·exact hdj p.1 (.inr (.inr ⟨p,hp,rfl⟩)) hj1
   ·obtain⟨e1,e2,e3,e4⟩:=h.ju p (aD _ hp);rcases hj with e|e|⟨q,hq,e⟩
    ·exact e3 e
    ·exact e4 e
    ·rcases List.mem_cons.1 hq with rfl|hq
     ·exact(hd.1.2 p hp).1 e.symm
     ·exact(hd.1.2 p hp).2 q hq e.symm
end
section
variable {R:(Nat->Prop)->(Nat->Prop)->World->Prop} {a w w':World} {nb lg sb:Nat} {room:Int} {s:Lg.S} {fs:List Dk.ai} {st:Stat} {J J0:List (Nat×Obj)} {N:Nd}
theorem ah.free {R':(Nat->Prop)->(Nat->Prop)->World->Prop} {b:Nat} {o:Obj} (h:ah R (J++[(b,o)]) a nb lg sb room s fs st N w) (hl:EM R) (hJ:∀p∈J,p.1≠b) (hRR:∀T X,(∀j,X j->a.heap.size<=j)->¬X b->w.heap[b]?=some o->R T X w->R' T X w):ah R' J a nb lg sb room s fs st N w:=by
 obtain⟨P,K,Ko,h1,h2,hd,TL,TS,X,h,hw⟩:=h;obtain⟨e1,e2,e3,e4⟩:=h.ju (b,o) (by simp);have hjb:∀p∈(nb,dJ N P)::(K++Ko)++J,p.1≠b:=fun p hp=>by
  have hb:=hd.1.2 (b,o) (by simp);rcases aK.1 hp with hp|hp
  ·rcases List.mem_cons.1 hp with rfl|hp
   ·exact fun e=>hb.1 e.symm
   ·exact fun e=>hb.2 p hp e.symm
  ·exact hJ p hp
 have hsub:∀p∈(nb,dJ N P)::(K++Ko)++J,p∈(nb,dJ N P)::(K++Ko)++(J++[(b,o)]):=fun p hp=>by rw[<-List.append_assoc];exact aH _ hp
 refine⟨P,K,Ko,h1,h2,⟨⟨hd.1.1,fun p hp=>hd.1.2 p (aH _ hp)⟩,hd.2⟩,TL,TS,fun j=>X j/\j≠b,⟨h.log.wide (fun j hj=>hj.1) (fun j hj=>⟨h.log.cz j hj,fun e=>e3 (e▸hj)⟩),h.jH,h.box,h.dis,fun j hj=>⟨h.cz j hj,fun e=>e4 (e▸hj)⟩,fun e=>h.nr e.1,fun j hj=>h.out j hj.1,h.ok,fun p hp=>⟨(h.ju p (hsub p hp)).1,⟨(h.ju p (hsub p hp)).2.1,hjb p hp⟩,(h.ju p (hsub p hp)).2.2⟩⟩,hRR _ _ (fun j hj=>h.out j hj.1) (fun e=>e.2 rfl) e1 (hl _ _ X _ w hw (fun j hj=>hj.imp id (fun e=>e.imp id (fun ⟨p,hp,e⟩=>⟨p,hsub p hp,e⟩))) (fun j hj=>hj.1) (fun j hj=>?_))⟩;by_cases e:j=b
 ·exact .inr (.inr (.inr ⟨(b,o),by simp,e.symm⟩))
 ·exact .inl ⟨hj,e⟩
theorem ah.row {b:Nat} {p ep ex se sq:Int} {S:ByteArray} {sa:Option Addr} {sl sc:Nat} {es:List Evt.Event} (h:ah R (J++[(b,.cells #[.int .i64 p,.int .i64 ep,.string S,.int .i64 ex,.int .i64 se,.int .i64 sq,.slice sa sl sc] 95 (0,0))]) a nb lg sb room s fs st N w) (hl:EM R) (hJ:∀p∈J,p.1≠b) (hev:dp a (.slice sa sl sc) es) (hS:S.size<=1000000) (hx:Small es) (hn:es.length<=1000000) :
 ah (cn R (.slice (some ⟨b,0,none⟩) 1 1) [(⟨p,ep,⟨S.data.toList,ex,se,sq,es⟩⟩,.slice sa sl sc)]) J a nb lg sb room s fs st N w:=by
 have hb:=h.below;refine h.free hl hJ (fun T X hX hXb ho hr=>⟨hr,⟨⟨rfl,.inr ⟨b,0,1,rfl,fun j u hj=>?_⟩⟩,fun q hq=>?_⟩,fun g hg _=>?_,fun q hq g hg hne hXg=>?_⟩)
 ·rw[Nat.zero_add,aw ho];simpa[aM]using hj
 ·rw[aN.1 hq];exact⟨Cells.next hev hb,by rw[<-Lib.size_eq];exact hS,hx,hn⟩
 ·cases hg;exact hXb
 ·rw[aN.1 hq]at hg hne;have:=kt hev hg hne;have:=hX g hXg;omega
theorem ah.cJ {J':List (Nat×Obj)} (h:ah R J a nb lg sb room s fs st N w) (hR:aC a R) (ht:ax (JB J) w w') (hJ:∀p∈J',(JB J p.1\/w.heap.size<=p.1)/\w'.heap[p.1]?=some p.2):ah R J' a nb lg sb room s fs st N w':=by
 obtain⟨P,K,Ko,h1,h2,hd,h3⟩:=h;have hlt:∀p∈(nb,dJ N P)::(K++Ko)++J,p.1<w.heap.size:=fun p hp=>(aA.1 (h3.bj p hp)).1;have hk:∀p∈(nb,dJ N P)::(K++Ko),w'.heap[p.1]?=some p.2:=fun p hp=>by
  have hp2:=aH J hp;refine(ht.block p.1 (hlt p hp2) (fun ⟨q,hq,e⟩=>?_)).trans (h3.bj p hp2);rcases List.mem_cons.1 hp with rfl|hp
  ·exact(hd.1.2 q hq).1 e
  ·exact(hd.1.2 q hq).2 p hp e
 refine⟨P,K,Ko,h1,h2,⟨⟨hd.1.1,fun p hp=>?_⟩,hd.2⟩,h3.oL hR (ht.wide fun j ⟨p,hp,e⟩=>⟨p,aD _ hp,e⟩) (fun p hp=>?_) (fun _ _ _ e=>e)⟩
 ·rcases (hJ p hp).1 with⟨q,hq,e⟩|e
  ·exact e▸hd.1.2 q hq
  ·exact⟨fun e2=>by have:=hlt (nb,dJ N P) (by simp);simp only at this;omega,fun q hq e2=>by have:=hlt q (by simp only[List.mem_append,List.mem_cons]at hq ⊢;exact .inl (.inr hq));omega⟩
 ·rcases aK.1 hp with hp|hp
  ·exact⟨.inl ⟨p,aH _ hp,rfl⟩,hk p hp⟩
  ·rcases hJ p hp with⟨⟨q,hq,e⟩|e,e2⟩
   ·exact⟨.inl ⟨q,aD _ hq,e⟩,e2⟩
   ·exact⟨.inr e,e2⟩
end
def mY:(Nat->Prop)->(Nat->Prop)->World->Prop:=fun _ _ _=>True
theorem eQ (a:World):aC a mY:=fun _ _ _ _ _ _ _ _ _ _ _ _ _ _=>trivial
theorem iS.lower {a a1 w:World} {r lg d sb:Nat} {room:Int} {s:Lg.S} {fs:List Dk.ai} {st:Stat} {TL TS X X':Nat->Prop} {J:List (Nat×Obj)} (h:iS a1 r lg d sb room s fs st TL TS J X w) (hE:Env a) (hs:s.es=[]) (hb:Below a.heap.size a w) (ha:a.heap.size<=a1.heap.size) (hX:∀j,X j->X' j) (hX':∀j,X' j->a.heap.size<=j/\j<w.heap.size) (hr:¬X' r):iS a r lg d sb room s fs st TL TS J X' w:=by
 obtain⟨ft,pv,ev,ps,hL⟩:=h.log;have hps:ps=[]:=by
  have h1:=hL.plain;rw[hs]at h1;exact List.map_eq_nil_iff.1 h1
 exact⟨⟨ft,pv,ev,ps,⟨hL.im,⟨hE,hb,fun j hj=>Nat.le_trans ha (hL.base.out j hj)⟩,fun j hj=>(hX' j hj).2,hL.sub,fun j hj=>hX j (hL.cz j hj),hL.log,bV hL.parts ha,bV hL.cr ha,hL.plain,fun p hp=>(by rw[hps]at hp;cases hp),hL.tl,hL.tp,hL.te,hL.ne⟩⟩,h.jH,h.box,h.dis,fun j hj=>hX j (h.cz j hj),hr,fun j hj=>(hX' j hj).1,h.ok,fun p hp=>⟨(h.ju p hp).1,hX _ (h.ju p hp).2.1,(h.ju p hp).2.2⟩⟩
section
variable {a a1 w w':World} {nb lg sb nb2 lg2 sb2:Nat} {room:Int} {s s2:Lg.S} {fs fs2:List Dk.ai} {st st2:Stat} {J J0:List (Nat×Obj)} {N N2:Nd}
theorem ah.lower (h:ah mY [] a1 nb lg sb room s fs st N w) (hE:Env a) (hs:s.es=[]) (hb:Below a.heap.size a w) (ha:a.heap.size<=a1.heap.size) (hr:a1.heap.size<=N.r) (hnb:a1.heap.size<=nb) (hJ:∀p∈J0,a.heap.size<=p.1/\p.1<a1.heap.size/\w.heap[p.1]?=some p.2):ah mY J0 a nb lg sb room s fs st N w:=by
 obtain⟨P,K,Ko,h1,h2,hd,TL,TS,X,h,_⟩:=h;rw[List.append_nil]at h;have hlt:=fun j (hj:X j)=>h.log.lt j hj;have hJb:∀j,JB J0 j->a.heap.size<=j/\j<a1.heap.size/\j<w.heap.size:=fun j ⟨p,hp,e⟩=>by subst e;exact⟨(hJ p hp).1,(hJ p hp).2.1,(aA.1 (hJ p hp).2.2).1⟩
 have hl:=h.lower (X':=fun j=>X j\/JB J0 j) hE hs hb ha (fun j hj=>.inl hj) (fun j hj=>hj.elim (fun e=>⟨Nat.le_trans ha (h.out j e),hlt j e⟩) (fun e=>⟨(hJb j e).1,(hJb j e).2.2⟩)) (fun e=>by
  rcases e with e|e
  ·exact h.nr e
  ·have:=hJb _ e;omega)
 have hout:∀p∈(nb,dJ N P)::(K++Ko),a1.heap.size<=p.1:=fun p hp=>h.out _ (h.ju p hp).2.1;refine⟨P,K,Ko,h1,h2,⟨⟨hd.1.1,fun p hp=>⟨fun e=>by have:=hJ p hp;omega,fun q hq e=>by have:=hJ p hp;have:=hout q (List.mem_cons_of_mem _ hq);omega⟩⟩,hd.2⟩,TL,TS,_,⟨hl.log,hl.jH,hl.box,hl.dis,hl.cz,hl.nr,hl.out,hl.ok,fun p hp=>?_⟩,trivial⟩;rcases aK.1 hp with hp|hp
 ·exact hl.ju p hp
 ·exact⟨(hJ p hp).2.2,.inr ⟨p,hp,rfl⟩,fun e=>by have:=h.out _ (h.log.cz _ e);have:=hJ p hp;omega,fun e=>by have:=h.out _ (h.cz _ e);have:=hJ p hp;omega⟩
theorem ah.join (h:ah mY J a nb lg sb room s fs st N w) (g:ah mY [] w nb2 lg2 sb2 room s2 fs2 st2 N2 w') (hs:s2.es=[]) (hr:w.heap.size<=N2.r):ah (iE a nb2 lg2 sb2 room s2 fs2 st2 N2) J a nb lg sb room s fs st N w':=by
 have hb:=g.below;have hR:=eQ a;have hbw:Below a.heap.size a w':=Below.up h.below ab hb;have hal:=h.below.size;obtain⟨P,K,Ko,h1,h2,hd,TL,TS,X,h,_⟩:=h;obtain⟨P2,K2,Ko2,g1,g2,gd,TL2,TS2,X2,g,_⟩:=g;rw[List.append_nil]at g;have hlt:=fun j (hj:X j)=>h.log.lt j hj;have hlt2:=fun j (hj:X2 j)=>g.log.lt j hj;have hrl:=(aA.1 h.box).1;have hE:Env a:=by obtain⟨ft,pv,ev,ps,hL⟩:=h.log;exact hL.base.env
 have hl:=g.lower (a:=a) (X':=fun j=>X j\/X2 j) hE hs hbw hal (fun j hj=>.inr hj) (fun j hj=>hj.elim (fun e=>⟨h.out j e,by have:=hlt j e;have:=hb.size;omega⟩) (fun e=>⟨Nat.le_trans hal (g.out j e),hlt2 j e⟩)) (fun e=>by
  rcases e with e|e
  ·have:=hlt _ e;omega
  ·exact g.nr e)
 have hTX:=h.TX;refine⟨P,K,Ko,h1,h2,hd,TL,TS,fun j=>X j\/X2 j,⟨h.log.lk (T1:=fun _=>False) (ax.aI hb) (fun _ hj=>hj.elim) (fun _ _ hj=>hj) (fun j hj=>hj.imp id (g.out j)) (fun j hj=>hj.elim (fun e=>by have:=hlt j e;have:=hb.size;omega) (hlt2 j)) (fun j hj=>.inl hj) hbw,h.jH.next hb,h.box.next hb,h.dis,fun j hj=>.inl (h.cz j hj),fun e=>?_,hl.out,h.ok,fun p hp=>⟨au hb ab (h.ju p hp).1,.inl (h.ju p hp).2.1,(h.ju p hp).2.2⟩⟩,P2,K2,Ko2,g1,g2,gd,TL2,TS2,hl,fun j hj hT=>?_⟩
 ·rcases e with e|e
  ·exact h.nr e
  ·have:=g.out _ e;omega
 ·have h5:=hlt j (hTX j hT);have h6:=g.out j (g.TX j hj);omega
end
theorem Bi (room:Int) (hr:100<=room):al.fT room Lg.eR eG []=([Lg.fM eG],0):=by
 have:=al.yA (room:=room) (k:=Lg.eR) (s:=eG) (fs:=[]) (by simp[Dk.Sorted]) (by decide) (by decide) rfl (by simp) (by rw[oV];simp[Dk.total];omega);rw[this];rfl
theorem nQ:Lg.Holds [Lg.fM eG] [Lg.fM eG] 1 [] []/\Lg.Ex [Lg.fM eG] [] none (some eG):=by
 have hx:=Lg.Ex.nil.ready eG;exact⟨Lg.It.wP (Lg.fM eG) (.inr (.inr rfl)) hx.o,hx⟩
theorem uG:Lg.eK eG 0 0 [Lg.fM eG] 1 [] [] :=
 ⟨⟨_,[],nQ.1,nQ.2,by show(0:Int)<=274877906944;omega,by simp,rfl⟩,by rw[oV];omega,by omega,by show(0:Int)<=0;omega,by simp⟩
set_option maxHeartbeats 4000000 in
theorem Eg (a:World) (d:Nat) (room:Int) (ft:Nat->Prop) (w:World) (hroom:100<=room) (hA:fF a w ft) (h:bw w d room [] ft) :
 Calls prog 30 #[.pointer (some ⟨d,0,none⟩)] w fun e w'=>e=.returned (.int .i64 0)/\DStep d room [Lg.fM eG] ft w w':=by
 have HK:=yj a d room [] ft w hA h;rw[Bi room hroom]at HK;have HK:=ad HK;clear hA h;go_enter func30,ntmps30;go_wp2_with fail;refine HK.out.mono ?_;rintro e w1 ⟨rfl,h1⟩;have H1:=ad h1;clear h1 HK;go_wp2;go_ret;exact⟨rfl,H1.out⟩
def FW (id:Int) (d r:Nat):Nd:=⟨id,1,d,r,⟨0,[],[],[]⟩,0,none,0,0,[]⟩
set_option maxHeartbeats 4000000 in
theorem Fe {a w:World} {d:Nat} {room:Int} {ft:Nat->Prop} (id:Int) (hid:1<=id/\id<=100) (hA:fF a w ft) (h:bw w d room [Lg.fM eG] ft) (hX:∀j,ft j->j<w.heap.size/\a.heap.size<=j) (hroom:room<=4194304) :
 Calls prog 31 #[.int .i64 id,.int .i64 1,.pointer (some ⟨d,0,none⟩)] w fun e w'=>∃nb lg sb r,e=.returned (.tuple #[.pointer (some ⟨nb,0,none⟩),.int .i64 0])/\w.heap.size<=r/\w.heap.size<=nb/\ah mY [] a nb lg sb room (Lg.aL 1 [] []) [Lg.fM eG] Stat.new (FW id d r) w':=by
 have HO:=ad (Dx (R:=mY) (X:=ft) nQ.1 (fun x hx=>by rw[aN.1 hx];exact⟨by decide,by decide⟩) rfl hA h hX (fun _ h=>h) hroom (eQ a) trivial);have hid1:¬id<1:=by omega
 have hid2:¬100<id:=by omega
 clear hA h hX hid;go_enter func31,ntmps31;go_wp2_with fail;refine HO.out.mono ?_;rintro e w1 ⟨r,lg,sb,rfl,h1,hr⟩;have HC:=ad (show Calls prog 42 #[.pointer (some ⟨r,0,none⟩)] w1 (fun e w'=>e=.returned (.int .i64 0)/\w1=w')from gW h1);obtain⟨W,hW⟩:∃W,(w1.alloc (.map #[] 0)).alloc (.cells #[.int .i64 id,.int .i64 1,.pointer (some ⟨d,0,none⟩),.pointer (some ⟨r,0,none⟩),.int .i64 0,.slice none 0 0,.slice none 0 0,.slice none 0 0,.int .i64 0,.map (some w1.heap.size),.int .i64 0,.int .i64 0,.slice none 0 0] 109)=W:=⟨_,rfl⟩;have hm0:(w1.alloc (.map #[] 0)).heap[w1.heap.size]?=some (.map #[] 0):=(Go.MapKept.heap_alloc w1 _).1;have bW:Below w1.heap.size w1 W:=by rw[<-hW];exact an (an (ae _ w1) _) _
 have hm:W.heap[w1.heap.size]?=some (.map #[] 0):=by rw[<-hW];exact au (an (ae _ _) _) ab hm0
 have hn:W.heap[w1.heap.size+1]?=some (dJ (FW id d r) ⟨⟨none,0,none,0,none,0⟩,w1.heap.size,none,0⟩):=by
  have:=heap_alloc_new (w1.alloc (.map #[] 0)) (.cells #[.int .i64 id,.int .i64 1,.pointer (some ⟨d,0,none⟩),.pointer (some ⟨r,0,none⟩),.int .i64 0,.slice none 0 0,.slice none 0 0,.slice none 0 0,.int .i64 0,.map (some w1.heap.size),.int .i64 0,.int .i64 0,.slice none 0 0] 109);rw[World.size_alloc,hW]at this;exact this
 have HN:=ad (show ah mY [] a (w1.heap.size+1) lg sb room (Lg.aL 1 [] []) [Lg.fM eG] Stat.new (FW id d r) W from
  ⟨⟨⟨none,0,none,0,none,0⟩,w1.heap.size,none,0⟩,[(w1.heap.size,.map #[] 0)],[],fun Z hZ=>⟨⟨⟨rfl,.inl ⟨rfl,none,0,rfl⟩⟩,⟨rfl,.inl ⟨rfl,none,0,rfl⟩⟩,⟨rfl,.inl ⟨rfl,none,0,rfl⟩⟩,ab⟩,map_none (hZ (w1.heap.size,.map #[] 0) (by simp))⟩,tf,⟨⟨fun p hp=>by
   simp only[List.append_nil,List.mem_singleton]at hp;rw[hp];show w1.heap.size≠w1.heap.size+1;omega,fun p hp=>by cases hp⟩,fun p hp q hq=>by cases hq⟩,by
   have:=h1.enter (R':=mY) (J2:=[(w1.heap.size+1,dJ (FW id d r) ⟨⟨none,0,none,0,none,0⟩,w1.heap.size,none,0⟩),(w1.heap.size,.map #[] 0)]) (eQ a) bW (fun p hp=>by
    simp only[List.mem_cons,List.not_mem_nil,or_false]at hp;rcases hp with rfl|rfl
    ·exact⟨by show w1.heap.size<=w1.heap.size+1;omega,hn⟩
    ·exact⟨ab,hm⟩) (fun _ _ _ _=>trivial)
   exact this⟩)
 have hsz:=h1.below.size;have HW:=ad hW;have HR:=ad (show w.heap.size<=r/\w.heap.size<=w1.heap.size+1 from⟨hr,by have:=(aA.1 h1.box).1;omega⟩);have hmm:=@run_makeMap prog;clear h1 hr hW hm0 bW hm hn HO hsz;go_wp2_with fail;refine HC.out.mono ?_;rintro e w2 ⟨rfl,rfl⟩;clear HC;go_wp2
 go_ret2
 try rw[HW.out]
 exact⟨_,lg,sb,r,rfl,HR.out.1,HR.out.2,HN.out⟩
end Go.Proofs.YtmgmknmaepjnoaaGreatDoor
