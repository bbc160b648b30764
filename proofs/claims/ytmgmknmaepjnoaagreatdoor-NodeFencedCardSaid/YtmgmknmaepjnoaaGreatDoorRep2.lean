/-
  The walk of a replica's Accept. The walk of a replica's Propose.
-/
import Derived.Test.YtmgmknmaepjnoaaGreatDoorRep1
namespace Go.Proofs.YtmgmknmaepjnoaaGreatDoor
open Go.RowKit Go.Shelf Proofs.Tryz
section
variable {R:(Nat->Prop)->(Nat->Prop)->World->Prop} {a w w0 w':World} {r lg d sb:Nat} {room:Int} {s s':Lg.S} {fs fs':List Dk.ai} {st st':Stat} {TL TS X:Nat->Prop} {J:List (Nat×Obj)}
def kC (L:List Evt.Entry):List Evt.Entry->List Evt.Entry
 |[]=>[]
 |e::l=>if (cR L e.pos).2=true/\(cR L e.pos).1=e.epoch then kC L l else e::l
def zl (room app:Int) (l:List Evt.Entry) (s:Lg.S) (fs:List Dk.ai):(List Dk.ai×Lg.S)×Nat :=
 match l with
 |[]=>Lg.fQ room [] s fs
 |e::l =>
  if (cR s.es e.pos).2=false then Lg.fQ room (e::l) s fs else
  if (kP room (e.pos-1) app s fs).2≠0 then kP room (e.pos-1) app s fs else
  Lg.fQ room (e::l) (kP room (e.pos-1) app s fs).1.2 (kP room (e.pos-1) app s fs).1.1
def ku (room prev pe app:Int) (l:List Evt.Entry) (s:Lg.S) (fs:List Dk.ai):(List Dk.ai×Lg.S)×Nat :=
 if Evt.follows l prev pe=false then ((fs,s),1) else
 if (cR s.es prev).2=false\/(cR s.es prev).1≠pe then ((fs,s),11) else
 zl room app (kC s.es l) s fs
theorem Aj:∀{l:List Evt.Entry} {p ep:Int},Evt.follows l p ep=true->∀e∈l,Evt.bC e=true
 |[],_,_,_,e,he=>by cases he
 |x::l,p,ep,hf,e,he=>by
  obtain⟨h1,h2,h3,h4⟩:=af.dh.1 hf;rcases List.mem_cons.1 he with rfl|he
  ·exact h3
  ·exact Aj h4 e he
theorem CP {room last:Int} {k c:Nat} {s s':Lg.S} {fs fs':List Dk.ai} (h:Lg.BK k s) (hr:Lg.mR room last s fs=((fs',s'),c)):Lg.BK k s':=by
 have key:∀m:Nat,Lg.BK k ⟨s.next,s.parts,s.es.take m⟩:=fun m=>⟨h.1,by have:=h.2.1;simp only[List.length_take];omega,h.2.2⟩;unfold Lg.mR at hr;split at hr
 ·simp only[Prod.mk.injEq]at hr;rw[<-hr.1.2];exact key _
 ·split at hr
  ·simp only[Prod.mk.injEq]at hr;rw[<-hr.1.2];exact h
  ·simp only[Prod.mk.injEq]at hr;rw[<-hr.1.2];exact key _
theorem I' {k:Nat} {s:Lg.S} (h:Lg.BK k s) (m:Nat):Lg.BK k (s.upto m):=by
 refine⟨?_,?_,h.2.2.1,h.2.2.2.1,fun p hp=>h.2.2.2.2 p (List.mem_of_mem_take hp)⟩
 ·have:=h.1;simp only[Lg.S.upto,List.length_take];omega
 ·have:=h.2.1;simp only[Lg.S.upto,List.length_take];omega
theorem EW {room last:Int} {k c:Nat} {s s':Lg.S} {fs fs':List Dk.ai} (h:Lg.BK k s) (hr:Lg.lI room last s fs=((fs',s'),c)):Lg.BK k s':=by
 unfold Lg.lI at hr;split at hr
 ·simp only[Prod.mk.injEq]at hr;rw[<-hr.1.2];exact h
 split at hr
 ·simp only[Prod.mk.injEq]at hr;rw[<-hr.1.2];exact h
 split at hr
 ·split at hr
  ·simp only[Prod.mk.injEq]at hr;rw[<-hr.1.2];exact h
  ·exact CP (I' h _) hr
 ·exact CP h hr
theorem Gy {room last app:Int} {k c:Nat} {s s':Lg.S} {fs fs':List Dk.ai} (h:Lg.BK k s) (hr:kP room last app s fs=((fs',s'),c)):Lg.BK k s':=by
 unfold kP at hr;split at hr
 ·simp only[Prod.mk.injEq]at hr;rw[<-hr.1.2];exact h
 ·exact EW h hr
theorem De {b o n lc:Nat} (hn:n+1<=lc):∃o2,(if lc=1 then some (⟨b,o,none⟩:Addr) else some ⟨b,o+7,none⟩)=some ⟨b,o2,none⟩/\(o2=o+1*7\/1=n+1):=by
 by_cases h:lc=1
 ·exact⟨o,by rw[if_pos h],.inr (by omega)⟩
 ·exact⟨o+7,by rw[if_neg h],.inl (by omega)⟩
set_option maxHeartbeats 8000000 in
set_option maxRecDepth 100000 in
theorem xV {c:Nat} {lv:Value} {qs:List bu} {prev pe:Int} (h:RR (cn R lv qs) J a r lg d sb room s fs st w) (hR:aC a R) (hroom:room<=4194304) (hB:Lg.BK qs.length s) (hcap:mw lv) (hqn:qs.length<=1000) (hp1 : -1000000000000<=prev) (hp2:prev<=1000000000000)
 (hr:ku room prev pe st.app (ag qs) s fs=((fs',s'),c)) :
 Calls prog 120 #[.pointer (some ⟨r,0,none⟩),.int .i64 prev,.int .i64 pe,lv] w fun e w'=>e=.returned (.int .i64 (c:Int))/\RR R J a r lg d sb room s' fs' st w':=by
 have hes:s.es.length<=500000:=by have:=hB.2.1;omega
 have hRW:=fi hR lv qs;obtain⟨F,hF⟩:∃F,Evt.follows (ag qs) prev pe=F:=⟨_,rfl⟩;have HFO:=nY lv qs prev pe w h.env h.ey (by omega) hp1 hp2;rw[hF]at HFO;have HFO:=ad HFO;obtain⟨va,vc,rfl⟩:=aJ h.ey.1;have H:=ad h;unfold ku at hr;rw[hF]at hr;cases F with
 |false =>
  rw[if_pos rfl]at hr;have HQ:=ad (show fs=fs'/\s=s'/\1=c by simpa[and_assoc]using hr);clear hr h hF;go_enter func120,ntmps120;go_wp2_with fail;refine HFO.out.mono ?_;rintro e w1 ⟨rfl,b1⟩;have HX:=ad (H.out.next hRW b1).jA;clear HFO H b1;go_wp2;go_ret;obtain⟨rfl,rfl,rfl⟩:=HQ.out;exact⟨rfl,HX.out⟩
 |true =>
  rw[if_neg (by simp)]at hr;have HRN:=ad (Aj hF);obtain⟨⟨E1,E2⟩,hE⟩:∃E,cR s.es prev=E:=⟨_,rfl⟩;have HEA:=fun W (hb:Below w.heap.size w W)=>sL prev (H.out.next hRW hb) hRW (by omega);rw[hE]at hr HEA;have HEA:=ad HEA;by_cases hbad:E2=false\/E1≠pe
  ·rw[if_pos hbad]at hr;have HQ:=ad (show fs=fs'/\s=s'/\11=c by simpa[and_assoc]using hr);clear hr h hF hE;have hcase:E2=false\/(E2=true/\(E1 != pe)=true):=by
    cases E2 with
    |false=>exact .inl rfl
    |true=>exact .inr ⟨rfl,by rcases hbad with h|h;cases h;simpa using h⟩
   rcases hcase with rfl|⟨rfl,hne⟩
   ·clear hbad;go_enter func120,ntmps120;go_wp2_with fail;refine HFO.out.mono ?_;rintro e w1 ⟨rfl,b1⟩;have HB1:=ad b1;clear b1;go_wp2_with fail;refine(HEA.out w1 HB1.out).mono ?_;rintro e w2 ⟨rfl,b2⟩;have HX:=ad ((H.out.next hRW HB1.out).next hRW b2).jA;clear HFO H b2 HEA;go_wp2;go_ret;obtain⟨rfl,rfl,rfl⟩:=HQ.out;exact⟨rfl,HX.out⟩
   ·clear hbad;go_enter func120,ntmps120;go_wp2_with fail;refine HFO.out.mono ?_;rintro e w1 ⟨rfl,b1⟩;have HB1:=ad b1;clear b1;go_wp2_with fail;refine(HEA.out w1 HB1.out).mono ?_;rintro e w2 ⟨rfl,b2⟩;have HX:=ad ((H.out.next hRW HB1.out).next hRW b2).jA;clear HFO H b2 HEA;go_wp2;go_ret;obtain⟨rfl,rfl,rfl⟩:=HQ.out;exact⟨rfl,HX.out⟩
  ·have hE2:E2=true:=by
    cases E2 with
    |false=>exact absurd (.inl rfl) hbad
    |true=>rfl
   subst hE2;obtain rfl:E1=pe:=Classical.not_not.mp (fun e=>hbad (.inr e));rw[if_neg hbad]at hr;have HQ:=ad hr;have hvl:qs.length<=vc:=hcap;clear hr h hF hE hbad;go_enter func120,ntmps120;go_wp2_with fail;refine HFO.out.mono ?_;rintro e w1 ⟨rfl,b1⟩;have HB1:=ad b1;clear b1;go_wp2_with fail;refine(HEA.out w1 HB1.out).mono ?_;rintro e w2 ⟨rfl,b2⟩;have H2:=ad ((H.out.next hRW HB1.out).next hRW b2);clear HFO H b2 HEA HB1;go_wp2
   go_loopw [3] (fun lv wr=>∃(i:Nat) (va':Option Addr) (vc':Nat),lv=.slice va' (qs.length-i) vc'/\i<=qs.length/\qs.length-i<=vc'/\Hid (kC s.es (ag (qs.drop i))=kC s.es (ag qs))/\Hid (RR (cn R (.slice va' (qs.length-i) vc') (qs.drop i)) J a r lg d sb room s fs st wr)) (fun lv _=>oQ lv)
   case atStart=>exact⟨0,va,vc,rfl,by omega,by omega,ad rfl,H2⟩
   case round =>
    obtain⟨i,va',vc',rfl,hi,hcp,HSK,HR⟩:=hrel;obtain⟨n,hn⟩:∃n,qs.length-i=n:=⟨_,rfl⟩;rw[hn]at hcp HR;rw[hn];have hnl:(qs.drop i).length=n:=by rw[List.length_drop];exact hn
    obtain⟨rs,hrs⟩:∃rs,qs.drop i=rs:=⟨_,rfl⟩;have HRS:=ad (show ∀e∈ag rs,Evt.bC e=true from fun e he=>HRN.out e (by
     rw[<-hrs]at he;obtain⟨p,hp,rfl⟩:=List.mem_map.1 he;exact List.mem_map.2 ⟨p,List.mem_of_mem_drop hp,rfl⟩))
    rw[hrs]at hnl HR HSK;have HRSV:=ad hrs;have HNI:=ad hn;clear hrs hn;have hRr:=fi hR (.slice va' n vc') rs;obtain⟨k0,k1,k2⟩:=HR.out.box.cells;have hBr:Lg.BK rs.length s:=by
     have hq:=hB;unfold Lg.BK at hq ⊢;have:rs.length<=qs.length:=by rw[<-HRSV.out,List.length_drop];omega
     exact⟨by omega,by omega,hq.2.2.1,by omega,hq.2.2.2.2⟩
    have hrl : rs.length ≤ 1000 := by have : rs.length ≤ qs.length := by rw [← HRSV.out, List.length_drop]; omega
                                      omega
    cases rs with
    |nil =>
     obtain rfl:n=0:=by simpa using hnl.symm
     have HAP:=ad (kM HR.out hR hroom hBr (Nat.zero_le _) (by simp) (show Lg.fQ room (ag []) s fs=((fs',s'),c)by
      have:=HQ.out;rw[<-HSK.out]at this;exact this))
     clear HQ HRN HSK HRS HR;go_wp2_with fail;refine HAP.out.mono ?_;rintro e w3 ⟨rfl,hx⟩;have HX:=ad hx.jA;clear hx HAP;go_wp2;go_ret;exact⟨rfl,HX.out⟩
    |cons q rt =>
     obtain⟨b,o,c0,p,ep,S,ex,se,sq,sa,sl,sc,es,hv,q0,q1,q2,q3,q4,q5,q6,_,_,_,_,hpe,_⟩:=jI HR.out.ey 0 (by simp);have hpq:q.1=⟨p,ep,⟨S.data.toList,ex,se,sq,es⟩⟩:=hpe.out;have hrp:=nO (HRS.out q.1 (List.mem_cons_self ..));rw[hpq]at hrp;have hp1:1<=p/\p<=274877906944:=⟨hrp.1,hrp.2.1⟩;simp only[Nat.zero_mul,Nat.add_zero]at q0 q1;rw[List.length_cons]at hv hnl;subst hnl;cases hv;obtain⟨⟨G1,G2⟩,hG⟩:∃G,cR s.es p=G:=⟨_,rfl⟩;have HEA:=sL p HR.out hRr (by omega);rw[hG]at HEA;have HEA:=ad HEA;have HPQ:=ad hpq;have hpl:ag (q::rt)=⟨p,ep,⟨S.data.toList,ex,se,sq,es⟩⟩::ag rt:=by rw[<-hpq];rfl
     have hw1:wrap64 (p-1)=p-1:=IntWalk.wrap64_in _ (by omega);clear hpe hrp hpq q2 q3 q4 q5 q6 HRN;cases G2 with
     |false =>
      have HAP:=ad (fun W (hb:Below wr.heap.size wr W)=>kM (HR.out.next hRr hb) hR hroom hBr hcp hrl (show Lg.fQ room (ag (q::rt)) s fs=((fs',s'),c)by
       have:=HQ.out;rw[<-HSK.out,hpl,kC,hG,if_neg (by simp)]at this;unfold zl at this;simp only[hG,if_true]at this;rw[hpl];exact this))
      have HBX:=ad (fun W (hb:Below wr.heap.size wr W)=>(HR.out.next hRr hb).box);clear HQ HSK HRS HR hG hpl;go_wp2_with fail;refine HEA.out.mono ?_;rintro e w3 ⟨rfl,b3⟩;have HA:=ad (HAP.out w3 b3);obtain⟨j0,j1,j2⟩:=(HBX.out w3 b3).cells;clear HEA b3 HAP HBX k0 k1 k2 q0 q1;go_wp2_with fail;refine HA.out.mono ?_;rintro e w4 ⟨rfl,hx⟩;have HX:=ad hx.jA;clear hx HA;go_wp2;go_ret;exact⟨rfl,HX.out⟩
     |true =>
      by_cases hep:G1=ep
      ·subst hep;obtain⟨o2,ho2,hor⟩:=De (b:=b) (o:=o) hcp;have HN:=ad (aB ho2 hor);have HSK2:=ad (show kC s.es (ag rt)=kC s.es (ag qs)by
        rw[<-HSK.out,hpl,kC,hG,if_pos ⟨rfl,rfl⟩])
       clear HQ HRS hG hpl hor HSK;go_wp2_with fail;refine HEA.out.mono ?_;rintro e w3 ⟨rfl,b3⟩;have q0:=cell_kept b3 ab q0;have q1:=cell_kept b3 ab q1;have HR3:=ad ((HR.out.next hRr b3).mono (R':=cn R (.slice (some ⟨b,o2,none⟩) rt.length (vc'-1)) rt) fun T X _ hh=>⟨hh.1,by
        have hd:eP X w3 (.slice (some ⟨b,o,none⟩) (q::rt).length vc') (q::rt):=hh.2;have:=hd.drop (k:=1) (by simp) o2 (vc'-1) (by
         rcases HN.out.2 with e|e
         ·exact .inl e
         ·exact .inr (by simpa using e))
        simpa using this⟩)
       have HL1:=ad (show rt.length=qs.length-(i+1)by have:=HNI.out;omega);have HI1:=ad (show qs.drop (i+1)=rt by
        have:=HRSV.out;rw[<-List.drop_drop,this];rfl)
       clear HEA b3 HR;go_wp2;refine⟨⟨i+1,some ⟨b,o2,none⟩,vc'-1,by rw[HL1.out],by have:=HNI.out;omega,by rw[<-HL1.out];omega,by rw[HI1.out];exact HSK2,by rw[HI1.out,<-HL1.out];exact HR3⟩,?_⟩;simp only[oQ];omega
      ·obtain⟨⟨⟨f1,s1⟩,c1⟩,hcut⟩:∃P,kP room (p-1) st.app s fs=P:=⟨_,rfl⟩;have hbn:(G1 != ep)=true:=by simpa using hep
       have HCU:=ad (fun W (hb:Below wr.heap.size wr W)=>Dy (HR.out.next hRr hb) hRr hroom hBr.bounded (by omega) (by omega) hcut);have hq2:=HQ.out;rw[<-HSK.out,hpl,kC,hG,if_neg (by simp[hep])]at hq2;unfold zl at hq2;simp only[hG,hcut,Bool.true_eq_false,if_false]at hq2;have hB1:=Gy hBr hcut;by_cases hc1:c1=0
       ·subst hc1;simp only[ne_eq,not_true_eq_false,if_false]at hq2;have HQ2:=ad (show Lg.fQ room (ag (q::rt)) s1 f1=((fs',s'),c)by rw[hpl];exact hq2);clear HQ HSK HRS HR hG hpl hq2 hcut hep;go_wp2_with fail;refine HEA.out.mono ?_;rintro e w3 ⟨rfl,b3⟩;have q0:=cell_kept b3 ab q0;have q1:=cell_kept b3 ab q1;have HC:=ad (HCU.out w3 b3);clear HEA b3 HCU k0 k1 k2;go_wp2_with fail;refine HC.out.mono ?_;rintro e w4 ⟨rfl,hx⟩;obtain⟨j0,j1,j2⟩:=hx.box.cells;have HA:=ad (kM hx hR hroom hB1 hcp hrl HQ2.out);clear hx HC q0 q1;go_wp2_with fail;refine HA.out.mono ?_;rintro e w5 ⟨rfl,hx⟩;have HX:=ad hx.jA;clear hx HA;go_wp2;go_ret;exact⟨rfl,HX.out⟩
       ·simp only[ne_eq,hc1,not_false_eq_true,if_true]at hq2;have HF:=ad (show f1=fs'/\s1=s'/\c1=c by simpa[and_assoc]using hq2);have hcb:((c1:Int) != 0)=true:=by rw[bne_iff_ne];omega
        clear HQ HSK HRS HR hG hpl hq2 hcut hep;go_wp2_with fail;refine HEA.out.mono ?_;rintro e w3 ⟨rfl,b3⟩;have q0:=cell_kept b3 ab q0;have q1:=cell_kept b3 ab q1;have HC:=ad (HCU.out w3 b3);clear HEA b3 HCU k0 k1 k2;go_wp2_with fail;refine HC.out.mono ?_;rintro e w4 ⟨rfl,hx⟩;have HX:=ad hx.jA;clear hx HC q0 q1;go_wp2;go_ret;obtain⟨rfl,rfl,rfl⟩:=HF.out;exact⟨rfl,HX.out⟩
def DD (c:Nat) (p:bu):Value:=if c=0 then fy p else J7
set_option maxHeartbeats 8000000 in
set_option maxRecDepth 100000 in
theorem vu {c:Nat} {S:ByteArray} {ex se sq:Int} {v:Value} {es:List Evt.Event} (h:RR R J a r lg d sb room s fs st w0) (hR:aC a R) (hb0:Below w0.heap.size w0 w) (hroom:room<=4194304) (hB:Lg.BK 1 s)
 (hS:S.size<=1000000) (hc:dp w v es) (hn:es.length<=1000000) (hx:Small es) (hev:∀b,v.ownBlock=some b->es≠[]->b<a.heap.size\/w0.heap.size<=b\/∀(T X:Nat->Prop) (W:World),Below a.heap.size a W->(∀j,X j->a.heap.size<=j)->R T X W->¬X b)
 (hr:ma room ⟨S.data.toList,ex,se,sq,es⟩ s fs=((fs',s'),c)) :
 Calls prog 60 #[.pointer (some ⟨r,0,none⟩),.agg #[.string S,.int .i64 ex,.int .i64 se,.int .i64 sq,v]] w fun e w'=>e=.returned (.tuple #[DD c (rR s fs ⟨S.data.toList,ex,se,sq,es⟩,v),.int .i64 (c:Int)])/\RR R J a r lg d sb room s' fs' st w':=by
 obtain⟨sa,sl,sc,rfl⟩:=ee hc;have hsl:sl=es.length:=by
  rcases cC hc with⟨h,a',c'',e⟩|⟨b'',o'',c'',e⟩
  ·cases e;omega
  ·cases e;rfl
 subst hsl;obtain⟨W1,hW1⟩:∃W1,(w.alloc (.cells #[.string S,.int .i64 ex,.int .i64 se,.int .i64 sq,.slice sa es.length sc] 38)).alloc (.cells #[.int .i64 0,.int .i64 0,.string ⟨#[]⟩,.int .i64 0,.int .i64 0,.int .i64 0,.slice none 0 0] 95)=W1:=⟨_,rfl⟩;have b1:Below w.heap.size w W1:=by rw[<-hW1];exact((ae _ w).alloc ab _).alloc (by simp) _
 have hbb:rK W1 w.heap.size S ex se sq (.slice sa es.length sc):=by
  rw[<-hW1];exact(Below.heap_alloc _ _ _ (by simp)).trans (heap_alloc_new w _)
 have hzz:bG W1 (w.heap.size+1) 0 0 ⟨#[]⟩ 0 0 0 (.slice none 0 0):=by
  rw[<-hW1];have:=heap_alloc_new (w.alloc (.cells #[.string S,.int .i64 ex,.int .i64 se,.int .i64 sq,.slice sa es.length sc] 38)) (.cells #[.int .i64 0,.int .i64 0,.string ⟨#[]⟩,.int .i64 0,.int .i64 0,.int .i64 0,.slice none 0 0] 95)
  rwa [World.size_alloc]at this
 have b01:Below w0.heap.size w0 W1:=hb0.trans (b1.mono hb0.size);have hlen:s.es.length<=500000:=by have:=hB.2.1;omega
 have h1:=h.next hR b01;have HF:=ad (qG h1 hroom);have hfl:0<=dz fs/\dz fs<=274877906944:=by
  have:=al.Gq (Frm.scan (Dk.read al.mark fs).1.data.toList).1 0 (by omega) (by omega);exact⟨this.1,this.2.1⟩
 obtain⟨fe,hfe⟩:∃fe,dz fs=fe:=⟨_,rfl⟩;rw[show(al.cx fs).1=fe from hfe]at HF;have HPE:=ad (show rR s fs ⟨S.data.toList,ex,se,sq,es⟩=⟨(s.es.length:Int)+1,fe,⟨S.data.toList,ex,se,sq,es⟩⟩by unfold rR;rw[hfe]);obtain⟨F,hF⟩:∃F,Evt.fits ⟨S.data.toList,ex,se,sq,es⟩=F:=⟨_,rfl⟩;have HFI:=fun W hE hc=>px S ex se sq (.slice sa es.length sc) es W hE hS hc hn hx;rw[hF]at HFI;have HFI:=ad HFI;unfold ma at hr;rw[hF,hfe]at hr;have H:=ad (aB h (aB hb0 (aB b1 (aB hbb (aB hzz (aB b01 h1))))));have HE1:=ad (aB hc (aB hx hev));have HW1:=ad hW1;have HHF:=ad hF;clear h hb0 b1 hbb hzz b01 h1 hW1 hF hc hx hev;rw[hfe]at hfl;by_cases hf0:F≠0
 ·rw[if_pos hf0]at hr;have HQ:=ad (show fs=fs'/\s=s'/\1=c by simpa[and_assoc]using hr);have hfb:((F:Int) != 0)=true:=by rw[bne_iff_ne];omega
  clear hr hfe HPE;go_enter func60,ntmps60;go_wp2_with fail;rw[HW1.out];refine HF.out.mono ?_;rintro e w2 ⟨rfl,b2⟩;have HB12:=ad b2;have hbb2:=H.out.2.2.2.1.next b2;have hzz2:=H.out.2.2.2.2.1.next b2;have h2:=H.out.2.2.2.2.2.2.next hR b2;obtain⟨q0,q1,q2,q3,q4⟩:=hbb2.cells;have hc2:=Cells.next (Cells.next HE1.out.1 H.out.2.2.1) b2;have HFT:=ad (HFI.out w2 h2.env hc2);have H2:=ad (aB hbb2 (aB hzz2 (aB h2 (H.out.2.2.2.2.2.1.trans (b2.mono H.out.2.2.2.2.2.1.size)))));clear HF HFI hbb2 hzz2 h2 hc2;go_wp2_with fail;refine HFT.out.mono ?_;rintro e w3 ⟨rfl,b3⟩;have hzz3:=H2.out.2.1.next b3;have b03:=H2.out.2.2.2.trans (b3.mono H2.out.2.2.2.size);have H3:=ad (aB hzz3 (aB b03 (aB (H2.out.1.next b3) (H2.out.2.2.1.next hR b3))));have HB13:=ad (HB12.out.trans (b3.mono HB12.out.size));have HS3:=ad (show w0.heap.size<=w.heap.size+1 by have:=H.out.2.1.size;omega);clear HFT H2 b3 hzz3 b03 q0 q1 q2 q3 q4;obtain⟨c0,c1,c2,c3,c4,c5,c6⟩:=bG.cells H3.out.1;have r0:=bG.frozen H3.out.1 0;have r1:=bG.frozen H3.out.1 1;have r2:=bG.frozen H3.out.1 2;have r3:=bG.frozen H3.out.1 3;have r4:=bG.frozen H3.out.1 4;have r5:=bG.frozen H3.out.1 5;have r6:=bG.frozen H3.out.1 6;go_wp2;refine bodyPost_ret (aO rfl _ _ (w.heap.size+1) _ _ _ _ rfl (gD H3.out.1 _ _ _ _ _ _ _) underlying95 rfl gM) rfl ?_;obtain⟨rfl,rfl,rfl⟩:=HQ.out;exact⟨rfl,H.out.1.next hR (kQ H3.out.2.1 HS3.out ab _ _ _ _ _ _ _)⟩
 ·have hF0:F=0:=Classical.not_not.mp hf0;subst hF0;rw[if_neg hf0]at hr;by_cases hz:fe=0
  ·subst hz;rw[if_pos (.inl rfl)]at hr;have HQ:=ad (show fs=fs'/\s=s'/\10=c by simpa[and_assoc]using hr);clear hr hfe HPE hf0;go_enter func60,ntmps60;go_wp2_with fail;rw[HW1.out];refine HF.out.mono ?_;rintro e w2 ⟨rfl,b2⟩;have HB12:=ad b2;have hbb2:=H.out.2.2.2.1.next b2;have hzz2:=H.out.2.2.2.2.1.next b2;have h2:=H.out.2.2.2.2.2.2.next hR b2;obtain⟨q0,q1,q2,q3,q4⟩:=hbb2.cells;have hc2:=Cells.next (Cells.next HE1.out.1 H.out.2.2.1) b2;have HFT:=ad (HFI.out w2 h2.env hc2);have H2:=ad (aB hbb2 (aB hzz2 (aB h2 (H.out.2.2.2.2.2.1.trans (b2.mono H.out.2.2.2.2.2.1.size)))));clear HF HFI hbb2 hzz2 h2 hc2;go_wp2_with fail;refine HFT.out.mono ?_;rintro e w3 ⟨rfl,b3⟩;have hzz3:=H2.out.2.1.next b3;have b03:=H2.out.2.2.2.trans (b3.mono H2.out.2.2.2.size);have H3:=ad (aB hzz3 (aB b03 (aB (H2.out.1.next b3) (H2.out.2.2.1.next hR b3))));have HB13:=ad (HB12.out.trans (b3.mono HB12.out.size));have HS3:=ad (show w0.heap.size<=w.heap.size+1 by have:=H.out.2.1.size;omega);clear HFT H2 b3 hzz3 b03 q0 q1 q2 q3 q4;obtain⟨c0,c1,c2,c3,c4,c5,c6⟩:=bG.cells H3.out.1;have r0:=bG.frozen H3.out.1 0;have r1:=bG.frozen H3.out.1 1;have r2:=bG.frozen H3.out.1 2;have r3:=bG.frozen H3.out.1 3;have r4:=bG.frozen H3.out.1 4;have r5:=bG.frozen H3.out.1 5;have r6:=bG.frozen H3.out.1 6;go_wp2;refine bodyPost_ret (aO rfl _ _ (w.heap.size+1) _ _ _ _ rfl (gD H3.out.1 _ _ _ _ _ _ _) underlying95 rfl gM) rfl ?_;obtain⟨rfl,rfl,rfl⟩:=HQ.out;exact⟨rfl,H.out.1.next hR (kQ H3.out.2.1 HS3.out ab _ _ _ _ _ _ _)⟩
  have hzb:(fe==0)=false:=by simpa using hz
  by_cases hlt:fe<Lg.dd s.es
  ·rw[if_pos (.inr hlt)]at hr;have HQ:=ad (show fs=fs'/\s=s'/\10=c by simpa[and_assoc]using hr);clear hr hfe HPE hf0;go_enter func60,ntmps60;go_wp2_with fail;rw[HW1.out];refine HF.out.mono ?_;rintro e w2 ⟨rfl,b2⟩;have HB12:=ad b2;have hbb2:=H.out.2.2.2.1.next b2;have hzz2:=H.out.2.2.2.2.1.next b2;have h2:=H.out.2.2.2.2.2.2.next hR b2;obtain⟨q0,q1,q2,q3,q4⟩:=hbb2.cells;have hc2:=Cells.next (Cells.next HE1.out.1 H.out.2.2.1) b2;have HFT:=ad (HFI.out w2 h2.env hc2);have H2:=ad (aB hbb2 (aB hzz2 (aB h2 (H.out.2.2.2.2.2.1.trans (b2.mono H.out.2.2.2.2.2.1.size)))));clear HF HFI hbb2 hzz2 h2 hc2;go_wp2_with fail;refine HFT.out.mono ?_;rintro e w3 ⟨rfl,b3⟩;have hzz3:=H2.out.2.1.next b3;have b03:=H2.out.2.2.2.trans (b3.mono H2.out.2.2.2.size);have H3:=ad (aB hzz3 (aB b03 (aB (H2.out.1.next b3) (H2.out.2.2.1.next hR b3))));have HB13:=ad (HB12.out.trans (b3.mono HB12.out.size));have HS3:=ad (show w0.heap.size<=w.heap.size+1 by have:=H.out.2.1.size;omega);clear HFT H2 b3 hzz3 b03 q0 q1 q2 q3 q4;have HEP:=ad (ub H3.out.2.2.2 (by omega));go_wp2_with fail;refine HEP.out.mono ?_;rintro e w4 ⟨rfl,m,hm⟩;have H4:=ad (show bG w4 (w.heap.size+1) 0 0 ⟨#[]⟩ 0 0 0 (.slice none 0 0)/\Below w0.heap.size w0 w4 by
    have hb:=below_drewN (ae w3.heap.size w3) m;rw[<-hm]at hb;exact⟨H3.out.1.next hb,H3.out.2.1.trans (hb.mono H3.out.2.1.size)⟩)
   clear HEP hm;obtain⟨c0,c1,c2,c3,c4,c5,c6⟩:=bG.cells H4.out.1;have r0:=bG.frozen H4.out.1 0;have r1:=bG.frozen H4.out.1 1;have r2:=bG.frozen H4.out.1 2;have r3:=bG.frozen H4.out.1 3;have r4:=bG.frozen H4.out.1 4;have r5:=bG.frozen H4.out.1 5;have r6:=bG.frozen H4.out.1 6;go_wp2;refine bodyPost_ret (aO rfl _ _ (w.heap.size+1) _ _ _ _ rfl (gD H4.out.1 _ _ _ _ _ _ _) underlying95 rfl gM) rfl ?_;obtain⟨rfl,rfl,rfl⟩:=HQ.out;exact⟨rfl,H.out.1.next hR (kQ H4.out.2 HS3.out ab _ _ _ _ _ _ _)⟩
  ·rw[if_neg (by omega)]at hr;have HQ:=ad hr;clear hr hf0;go_enter func60,ntmps60;go_wp2_with fail;rw[HW1.out];refine HF.out.mono ?_;rintro e w2 ⟨rfl,b2⟩;have HB12:=ad b2;have hbb2:=H.out.2.2.2.1.next b2;have hzz2:=H.out.2.2.2.2.1.next b2;have h2:=H.out.2.2.2.2.2.2.next hR b2;obtain⟨q0,q1,q2,q3,q4⟩:=hbb2.cells;have hc2:=Cells.next (Cells.next HE1.out.1 H.out.2.2.1) b2;have HFT:=ad (HFI.out w2 h2.env hc2);have H2:=ad (aB hbb2 (aB hzz2 (aB h2 (H.out.2.2.2.2.2.1.trans (b2.mono H.out.2.2.2.2.2.1.size)))));clear HF HFI hbb2 hzz2 h2 hc2;go_wp2_with fail;refine HFT.out.mono ?_;rintro e w3 ⟨rfl,b3⟩;have hzz3:=H2.out.2.1.next b3;have b03:=H2.out.2.2.2.trans (b3.mono H2.out.2.2.2.size);have H3:=ad (aB hzz3 (aB b03 (aB (H2.out.1.next b3) (H2.out.2.2.1.next hR b3))));have HB13:=ad (HB12.out.trans (b3.mono HB12.out.size));have HS3:=ad (show w0.heap.size<=w.heap.size+1 by have:=H.out.2.1.size;omega);clear HFT H2 b3 hzz3 b03 q0 q1 q2 q3 q4;have HEP:=ad (ub H3.out.2.2.2 (by omega));go_wp2_with fail;refine HEP.out.mono ?_;rintro e w4 ⟨rfl,m,hm⟩;have hb4:Below w3.heap.size w3 w4:=by rw[hm];exact below_drewN (ae _ _) m
   have H4:=ad (aB (H3.out.1.next hb4) (aB (H3.out.2.1.trans (hb4.mono H3.out.2.1.size)) (aB (H3.out.2.2.1.next hb4) (H3.out.2.2.2.next hR hb4))));have HB34:=ad hb4;have HB14:=ad (show Below W1.heap.size W1 w4 from HB13.out.trans (hb4.mono HB13.out.size));have HLA:=ad (fun W (hb:Below w4.heap.size w4 W)=>ly (H4.out.2.2.2.next hR hb));have hw1:IntKind.i64.wrap ((s.es.length:Int)+1)=(s.es.length:Int)+1:=by rw[IntKind.wrap_i64];omega
   clear HEP hm hb4;have hbb4:=H4.out;have hbw:rK w4 w.heap.size S ex se sq (.slice sa es.length sc):=(hbb4.2.2.1);obtain⟨q0,q1,q2,q3,q4⟩:=hbw.cells;have HKS:=ad (show ∀Z,Below w4.heap.size w4 Z->Z.cell? ⟨w.heap.size,0,none⟩=some (.string S)/\Z.cell? ⟨w.heap.size,1,none⟩=some (.int .i64 ex)/\Z.cell? ⟨w.heap.size,2,none⟩=some (.int .i64 se)/\Z.cell? ⟨w.heap.size,3,none⟩=some (.int .i64 sq)/\Z.cell? ⟨w.heap.size,4,none⟩=some (.slice sa es.length sc)from fun Z hb=>(hbw.next hb).cells);clear hbb4 hbw q0 q1 q2 q3 q4;go_upto_region 6 with fail;go_cut [7] (fun pv wx=>∃b7,pv=.pointer (some ⟨b7,0,none⟩)/\Hid (bG wx b7 ((s.es.length:Int)+1) fe S ex se sq (.slice sa es.length sc)/\w4.heap.size<=b7/\Below w4.heap.size w4 wx))
   case first =>
    go_region_held3 (fun Z=>Z.cell? ⟨w.heap.size,0,none⟩=some (.string S)/\Z.cell? ⟨w.heap.size,1,none⟩=some (.int .i64 ex)/\Z.cell? ⟨w.heap.size,2,none⟩=some (.int .i64 se)/\Z.cell? ⟨w.heap.size,3,none⟩=some (.int .i64 sq)/\Z.cell? ⟨w.heap.size,4,none⟩=some (.slice sa es.length sc))
     ((refine HKS.out _ ?_; first
       | with_reducible exact ae _ w4
       | with_reducible exact (ae _ w4).drew
       | with_reducible exact ((ae _ w4).alloc ab _).drew
       | with_reducible exact (ae _ w4).drew.alloc ab _
       | with_reducible exact (ae _ w4).alloc ab _))
     (first
      |(go_at_call 41;refine(HLA.out _ (ae _ w4).drew).mono ?_;rintro e w5 ⟨rfl,rfl⟩)
      |(go_at_call 41;refine(HLA.out _ ((ae _ w4).alloc ab _).drew).mono ?_;rintro e w5 ⟨rfl,rfl⟩))
    all_goals go_wp2
    all_goals go_meet
    all_goals exact⟨_,rfl,ad ⟨heap_alloc_new w4 _,ab,((ae _ w4).alloc ab _).drew⟩⟩
   case rest =>
    obtain⟨b7,rfl,H7⟩:=hcut;have h7:=H7.out;have hb7:Below w3.heap.size w3 wc:=by
     have h9:=h7.2.2;have:=H4.out.2.2.2.below;exact HB34.out.trans (h9.mono HB34.out.size)
    have h0c:Below w0.heap.size w0 wc:=H4.out.2.1.trans (h7.2.2.mono H4.out.2.1.size);have hzc:bG wc (w.heap.size+1) 0 0 ⟨#[]⟩ 0 0 0 (.slice none 0 0):=H4.out.1.next h7.2.2;obtain⟨WA,hWA⟩:∃WA,(wc.alloc (.cells #[.int .i64 ((s.es.length:Int)+1),.int .i64 fe,.string S,.int .i64 ex,.int .i64 se,.int .i64 sq,.slice sa es.length sc] 95)).drew=WA:=⟨_,rfl⟩;have hbA:Below wc.heap.size wc WA:=by rw[<-hWA];exact((ae _ wc).alloc ab _).drew
    have hrow:WA.heap[wc.heap.size]?=some (iJ ((s.es.length:Int)+1) fe S ex se sq (.slice sa es.length sc)):=by rw[<-hWA];exact heap_alloc_new wc _
    have h0A:Below w0.heap.size w0 WA:=h0c.trans (hbA.mono h0c.size);have hlb7:b7<wc.heap.size:=(aA.1 h7.1).1;have hlb4:w.heap.size+1<w4.heap.size:=(aA.1 H4.out.1).1;have hle0:=H.out.2.1.size;have hevA:dp WA (.slice sa es.length sc) es:=Cells.next (Cells.next (Cells.next HE1.out.1 H.out.2.2.1) HB14.out) (h7.2.2.trans (hbA.mono h7.2.2.size));have hfine:l7 (⟨(s.es.length:Int)+1,fe,⟨S.data.toList,ex,se,sq,es⟩⟩:Evt.Entry):=⟨by simp only;rw[<-Lib.size_eq];exact hS,HE1.out.2.1,hn⟩;have hentsA:dk WA (.slice (some ⟨wc.heap.size,0,none⟩) 1 1) [((⟨(s.es.length:Int)+1,fe,⟨S.data.toList,ex,se,sq,es⟩⟩:Evt.Entry),.slice sa es.length sc)]:=by
     refine⟨⟨rfl,.inr ⟨wc.heap.size,0,1,rfl,fun j u hj=>?_⟩⟩,fun p hp=>?_⟩
     ·rw[aw hrow]
      match j with
      |0=>simpa[aM]using hj
      |1=>simpa[aM]using hj
      |2=>simpa[aM]using hj
      |3=>simpa[aM]using hj
      |4=>simpa[aM]using hj
      |5=>simpa[aM]using hj
      |6=>simpa[aM]using hj
      |j+7=>simp[aM]at hj
     ·rw[aN.1 hp];exact⟨hevA,hfine⟩
    have hbaA:Below a.heap.size a WA:=Below.up H.out.1.below ab h0A;have hqE:∀T X:Nat->Prop,R T X WA->(∀j,X j->a.heap.size<=j/\(j<w0.heap.size\/JB [(w.heap.size+1,iJ 0 0 ⟨#[]⟩ 0 0 0 (.slice none 0 0)),(b7,iJ ((s.es.length:Int)+1) fe S ex se sq (.slice sa es.length sc))] j))->eP X WA (.slice (some ⟨wc.heap.size,0,none⟩) 1 1) [((⟨(s.es.length:Int)+1,fe,⟨S.data.toList,ex,se,sq,es⟩⟩:Evt.Entry),.slice sa es.length sc)]:=by
     have hJ:∀j,JB [(w.heap.size+1,iJ 0 0 ⟨#[]⟩ 0 0 0 (.slice none 0 0)),(b7,iJ ((s.es.length:Int)+1) fe S ex se sq (.slice sa es.length sc))] j->j=w.heap.size+1\/j=b7:=fun j ⟨p,hp,e⟩=>by
      simp only[List.mem_cons,List.not_mem_nil,or_false]at hp;rcases hp with rfl|rfl
      ·exact .inl e.symm
      ·exact .inr e.symm
     intro T X hTX hX;refine⟨hentsA,fun b hb _ hx=>?_,fun p hp b hb hne hx=>?_⟩
     ·have hbe:wc.heap.size=b:=by simpa[Value.ownBlock]using hb
      have:=h0c.size;rcases (hX b hx).2 with e|e
      ·omega
      ·rcases hJ b e with e|e
       ·have:=h7.2.2.size;omega
       ·omega
     ·rw[aN.1 hp]at hb hne;have hlt:b<w.heap.size:=kt HE1.out.1 hb hne;rcases HE1.out.2.2 b hb hne with e|e|e
      ·have:=(hX b hx).1;omega
      ·rcases (hX b hx).2 with e2|e2
       ·omega
       ·rcases hJ b e2 with e3|e3
        ·omega
        ·have:=h7.2.1;omega
      ·exact e T X WA hbaA (fun j hj=>(hX j hj).1) hTX hx
    have hRRA:=(H.out.1).enter (R':=cn R (.slice (some ⟨wc.heap.size,0,none⟩) 1 1) [((⟨(s.es.length:Int)+1,fe,⟨S.data.toList,ex,se,sq,es⟩⟩:Evt.Entry),.slice sa es.length sc)]) (J2:=[(w.heap.size+1,iJ 0 0 ⟨#[]⟩ 0 0 0 (.slice none 0 0)),(b7,iJ ((s.es.length:Int)+1) fe S ex se sq (.slice sa es.length sc))]) hR h0A (fun p hp=>by
     simp only[List.mem_cons,List.not_mem_nil,or_false]at hp;rcases hp with rfl|rfl
     ·exact⟨by omega,hzc.next hbA⟩
     ·refine⟨?_,h7.1.next hbA⟩;have h1:=H4.out.2.1.size;have h2:=h7.2.1;simp only;omega) (fun T X' hX hT=>⟨hT,hqE T X' hT hX⟩)
    have HAP:=ad (kM hRRA hR hroom hB (show(1:Nat)<=1 from Nat.le_refl 1) (by simp) (show Lg.fQ room (ag [((⟨(s.es.length:Int)+1,fe,⟨S.data.toList,ex,se,sq,es⟩⟩:Evt.Entry),.slice sa es.length sc)]) s fs=((fs',s'),c)by
     have:=HQ.out;rw[HPE.out]at this;exact this))
    have hbox:=(H.out.1.next hR h0c).box.cells.2.1;have HKT:=ad (show ∀Z,Below wc.heap.size wc Z->Z.cell? ⟨r,1,none⟩=some (.pointer (some ⟨lg,0,none⟩))/\Z.cell? ⟨b7,0,none⟩=some (.int .i64 ((s.es.length:Int)+1))/\Z.cell? ⟨b7,1,none⟩=some (.int .i64 fe)/\Z.cell? ⟨b7,2,none⟩=some (.string S)/\Z.cell? ⟨b7,3,none⟩=some (.int .i64 ex)/\Z.cell? ⟨b7,4,none⟩=some (.int .i64 se)/\Z.cell? ⟨b7,5,none⟩=some (.int .i64 sq)/\Z.cell? ⟨b7,6,none⟩=some (.slice sa es.length sc)from fun Z hb=>⟨cell_kept hb ab hbox,(h7.1.next hb).cells⟩);have HWA:=ad hWA;have HFIN:=ad (aB hle0 (aB H.out.1.bj hlb4));have HBA:=ad hbA;clear h7 hb7 h0c hzc hbA hrow h0A hlb7 hlb4 hle0 hevA hfine hentsA hbaA hqE hRRA hbox hWA;go_upto_region 7 with fail;go_cut [8] (fun cv wx=>cv=.int .i64 (c:Int)/\Hid (RR (cn R (.slice (some ⟨wc.heap.size,0,none⟩) 1 1) [((⟨(s.es.length:Int)+1,fe,⟨S.data.toList,ex,se,sq,es⟩⟩:Evt.Entry),.slice sa es.length sc)]) (J++[(w.heap.size+1,iJ 0 0 ⟨#[]⟩ 0 0 0 (.slice none 0 0)),(b7,iJ ((s.es.length:Int)+1) fe S ex se sq (.slice sa es.length sc))]) a r lg d sb room s' fs' st wx))
    case first =>
     go_region_held3 (fun Z=>Z.cell? ⟨r,1,none⟩=some (.pointer (some ⟨lg,0,none⟩))/\Z.cell? ⟨b7,0,none⟩=some (.int .i64 ((s.es.length:Int)+1))/\Z.cell? ⟨b7,1,none⟩=some (.int .i64 fe)/\Z.cell? ⟨b7,2,none⟩=some (.string S)/\Z.cell? ⟨b7,3,none⟩=some (.int .i64 ex)/\Z.cell? ⟨b7,4,none⟩=some (.int .i64 se)/\Z.cell? ⟨b7,5,none⟩=some (.int .i64 sq)/\Z.cell? ⟨b7,6,none⟩=some (.slice sa es.length sc))
      ((first
        | exact HS6.out
        | (refine HKT.out _ ?_; first
          |with_reducible exact ae _ wc
          |with_reducible exact(ae _ wc).drew
          |with_reducible exact((ae _ wc).alloc ab _).drew
          |with_reducible exact(ae _ wc).drew.alloc ab _)))
      (first
       |(go_at_call 109;rw[HWA.out];refine HAP.out.mono ?_;rintro e w6 ⟨rfl,hx⟩;have HX:=ad hx;have HS6:=ad (show w6.cell? ⟨r,1,none⟩=some (.pointer (some ⟨lg,0,none⟩))/\w6.cell? ⟨b7,0,none⟩=some (.int .i64 ((s.es.length:Int)+1))/\w6.cell? ⟨b7,1,none⟩=some (.int .i64 fe)/\w6.cell? ⟨b7,2,none⟩=some (.string S)/\w6.cell? ⟨b7,3,none⟩=some (.int .i64 ex)/\w6.cell? ⟨b7,4,none⟩=some (.int .i64 se)/\w6.cell? ⟨b7,5,none⟩=some (.int .i64 sq)/\w6.cell? ⟨b7,6,none⟩=some (.slice sa es.length sc)from⟨hx.box.cells.2.1,bG.cells (hx.bj (b7,iJ ((s.es.length:Int)+1) fe S ex se sq (.slice sa es.length sc)) (by simp))⟩);clear hx))
     all_goals go_wp2
     all_goals go_meet
     all_goals exact⟨rfl,HX⟩
    case rest =>
     obtain⟨rfl,HX⟩:=hcut;have hz:bG wc (w.heap.size+1) 0 0 ⟨#[]⟩ 0 0 0 (.slice none 0 0):=HX.out.bj (w.heap.size+1,iJ 0 0 ⟨#[]⟩ 0 0 0 (.slice none 0 0)) (by simp);have hy:=bG.cells (HX.out.bj (b7,iJ ((s.es.length:Int)+1) fe S ex se sq (.slice sa es.length sc)) (by simp));obtain⟨y0,y1,y2,y3,y4,y5,y6⟩:=hy;obtain⟨c0,c1,c2,c3,c4,c5,c6⟩:=bG.cells hz;have r0:=bG.frozen hz 0;have r1:=bG.frozen hz 1;have r2:=bG.frozen hz 2;have r3:=bG.frozen hz 3;have r4:=bG.frozen hz 4;have r5:=bG.frozen hz 5;have r6:=bG.frozen hz 6;have HZ:=ad hz;have HEND:=ad (fun (v0 v1 v2 v3 v4 v5 v6:Value)=>(show RR R J a r lg d sb room s' fs' st (((((((wc.setCell ⟨w.heap.size+1,0,none⟩ v0).setCell ⟨w.heap.size+1,1,none⟩ v1).setCell ⟨w.heap.size+1,2,none⟩ v2).setCell ⟨w.heap.size+1,3,none⟩ v3).setCell ⟨w.heap.size+1,4,none⟩ v4).setCell ⟨w.heap.size+1,5,none⟩ v5).setCell ⟨w.heap.size+1,6,none⟩ v6)by
      have hg:=pq wc (w.heap.size+1) v0 v1 v2 v3 v4 v5 v6;refine(HX.out.IW (J':=J) (fi hR _ _) (ax.cq hg ⟨(w.heap.size+1,iJ 0 0 ⟨#[]⟩ 0 0 0 (.slice none 0 0)),by simp,rfl⟩) (fun j ⟨p,hp,e⟩=>⟨p,aH _ hp,e⟩) (fun p hp=>?_)).jA;have h1:=HX.out.bj p (aH _ hp);have h2:=(aA.1 (HFIN.out.2.1 p hp)).1;have h3:=HFIN.out.1;exact(hg.block p.1 (aA.1 h1).1 (by intro e;simp only[Option.some.injEq]at e;omega)).trans h1))
     clear hz HX HAP HKT HBA;by_cases hc0:c=0
     ·subst hc0;go_wp2;refine bodyPost_ret (aO rfl _ _ (w.heap.size+1) _ _ _ _ rfl (gD HZ.out _ _ _ _ _ _ _) underlying95 rfl gM) rfl ?_;refine⟨?_,HEND.out _ _ _ _ _ _ _⟩;rw[HPE.out,DD,if_pos rfl];rw[show fy ((⟨(s.es.length:Int)+1,fe,⟨S.data.toList,ex,se,sq,es⟩⟩:Evt.Entry),(.slice sa es.length sc:Value))=.agg #[.int .i64 ((s.es.length:Int)+1),.int .i64 fe,.string ⟨S.data.toList.toArray⟩,.int .i64 ex,.int .i64 se,.int .i64 sq,.slice sa es.length sc]from rfl];simp
     ·have hcb:((c:Int) != 0)=true:=by rw[bne_iff_ne];omega
      go_wp2;refine bodyPost_ret (aO rfl _ _ (w.heap.size+1) _ _ _ _ rfl (gD HZ.out _ _ _ _ _ _ _) underlying95 rfl gM) rfl ?_;refine⟨?_,HEND.out _ _ _ _ _ _ _⟩;rw[DD,if_neg hc0];rfl
end
end Go.Proofs.YtmgmknmaepjnoaaGreatDoor
