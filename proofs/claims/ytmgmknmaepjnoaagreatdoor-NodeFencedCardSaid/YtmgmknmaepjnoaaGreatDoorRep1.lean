/-
  A replica's reading functions: Last, Epoch, Marks, At, Range, Commit, Fence, epochAt. A replica's Cut, Propose.
-/
import Derived.Test.YtmgmknmaepjnoaaGreatDoorLogN
namespace Go.Proofs.YtmgmknmaepjnoaaGreatDoor
open Go.RowKit Go.Shelf Proofs.Tryz
section
variable {R:(Nat->Prop)->(Nat->Prop)->World->Prop} {a w w':World} {r lg d sb:Nat} {room:Int} {s s':Lg.S} {fs fs':List Dk.ai} {st st':Stat} {TL TS X:Nat->Prop} {J:List (Nat×Obj)}
theorem xP {app:Int} (h:w.cell? ⟨sb,2,none⟩=some (.int .i64 app)):Calls prog 88 #[.pointer (some ⟨sb,0,none⟩)] w fun e w'=>e=.returned (.int .i64 app)/\w=w':=by
 go_enter func88,ntmps88;go_wp2;go_ret;exact⟨rfl,rfl⟩
theorem ly (h:RR R J a r lg d sb room s fs st w):Calls prog 41 #[.pointer (some ⟨r,0,none⟩)] w fun e w'=>e=.returned (.int .i64 (s.es.length:Int))/\w=w':=by
 obtain⟨k0,k1,k2⟩:=h.box.cells;obtain⟨TL,TS,X,h,hw⟩:=h;obtain⟨ft,pv,ev,ps,hL⟩:=h.log;have HC:=ad (jM hL);clear h hw hL;go_enter func41,ntmps41;go_wp2_with fail;refine HC.out.mono ?_;rintro e w1 ⟨rfl,rfl⟩;go_wp2;go_ret;exact⟨rfl,rfl⟩
theorem ub (h:RR R J a r lg d sb room s fs st w) (hn:s.es.length<=1000000):Calls prog 108 #[.pointer (some ⟨r,0,none⟩)] w fun e w'=>e=.returned (.int .i64 (Lg.dd s.es))/\∃m,w'=w.drewN m:=by
 obtain⟨k0,k1,k2⟩:=h.box.cells;obtain⟨TL,TS,X,h,hw⟩:=h;obtain⟨ft,pv,ev,ps,hL⟩:=h.log;have HC:=ad (pg hL (by rw[hL.len];exact hn));clear h hw hL;go_enter func108,ntmps108;go_wp2_with fail;refine HC.out.mono ?_;rintro e w1 ⟨rfl,m,rfl⟩;go_wp2;go_ret;exact⟨rfl,m,rfl⟩
theorem zi (h:RR R J a r lg d sb room s fs st w) (_hR:aC a R) (hn:s.es.length<=1000000) (i:Nat) (x:Evt.Entry) (hi:s.es[i]?=some x) :
 Calls prog 167 #[.pointer (some ⟨r,0,none⟩),.int .i64 ((i:Int)+1)] w fun e w'=>∃p:bu,e=.returned (.tuple #[fy p,.bool true])/\p.1=x/\dp w' p.2 p.1.b.events/\Below w.heap.size w w':=by
 obtain⟨W1,hW1⟩:∃W1,w.alloc (.cells #[.int .i64 0,.int .i64 0,.string ⟨#[]⟩,.int .i64 0,.int .i64 0,.int .i64 0,.slice none 0 0] 95)=W1:=⟨_,rfl⟩;have b1:Below w.heap.size w W1:=by rw[<-hW1];exact(ae _ w).alloc ab _
 have hz:W1.heap[w.heap.size]?=some (.cells #[.int .i64 0,.int .i64 0,.string ⟨#[]⟩,.int .i64 0,.int .i64 0,.int .i64 0,.slice none 0 0] 95 (0,0)):=by rw[<-hW1];exact heap_alloc_new w _
 have k1:=(h.box.next b1).cells.2.1;rw[<-hW1]at k1;obtain⟨TL,TS,X,h,hw⟩:=h;obtain⟨ft,pv,ev,ps,hL0⟩:=h.log;have hL:=hL0.next b1;have hlt:=(List.getElem?_eq_some_iff.1 hi).1;have hl:=hL.len;have HC:=ad (Hx hL (by omega) i (by omega));have HP:=ad (show(ps[i]'(by omega)).1=x by
  have e:(ag ps)[i]?=some x:=by rw[hL.plain];exact hi
  simp only[ag,List.getElem?_map]at e;rw[aR (by omega)]at e;simpa using e)
 have HE:=ad (aB (hL.gu (ps[i]'(by omega)) (List.getElem_mem _)).1 (hL0.gu (ps[i]'(by omega)) (List.getElem_mem _)).1);obtain⟨q,hq⟩:∃q,ps[i]'(by omega)=q:=⟨_,rfl⟩;rw[hq]at HC HP HE;obtain⟨⟨⟨qp,qe,⟨qs,qx,qn,qq,qes⟩⟩,qv⟩,hqq⟩:∃q',q=q':=⟨q,rfl⟩;rw[hqq]at HC HP HE;obtain⟨va,vl,vc,hva⟩:=ee HE.out.2;have hva:qv=.slice va vl vc:=hva;subst hva;have HC:=ad (show Calls prog 211 #[.pointer (some ⟨lg,0,none⟩),.int .i64 ((i:Int)+1)] W1 (fun e w'=>e=.returned (.tuple #[.agg #[.int .i64 qp,.int .i64 qe,.string ⟨qs.toArray⟩,.int .i64 qx,.int .i64 qn,.int .i64 qq,.slice va vl vc],.bool true])/\Below W1.heap.size W1 w')from HC.out);have HZ:=ad hz;have HB1:=ad b1;have HW1:=ad hW1;clear h hw hL hL0 hz b1 hW1 hq hqq hi;go_enter func167,ntmps167;go_wp2_with fail;rw[HW1.out];refine HC.out.mono ?_;rintro e w1 ⟨rfl,hb⟩;have hz1:=(hb.block w.heap.size (aA.1 HZ.out).1).trans HZ.out;have HZ1:=ad hz1;obtain⟨c0,c1,c2,c3,c4,c5,c6⟩:=bG.cells hz1;have f0:=bG.frozen hz1 0;have f1:=bG.frozen hz1 1;have f2:=bG.frozen hz1 2;have f3:=bG.frozen hz1 3;have f4:=bG.frozen hz1 4;have f5:=bG.frozen hz1 5;have f6:=bG.frozen hz1 6;have HBB:=ad (HB1.out.trans (hb.mono HB1.out.size));have HEV:=ad (aB (Cells.next HE.out.1 hb) HE.out.2);clear hz1 hb HC HE;go_wp2;refine bodyPost_ret (aO rfl _ _ w.heap.size _ _ _ _ rfl (gD HZ1.out _ _ _ _ _ _ _) underlying95 rfl gM) rfl ?_;have hs:=pq w1 w.heap.size (.int .i64 qp) (.int .i64 qe) (.string ⟨qs.toArray⟩) (.int .i64 qx) (.int .i64 qn) (.int .i64 qq) (.slice va vl vc);have hev:dp (((((((w1.setCell ⟨w.heap.size,0,none⟩ (.int .i64 qp)).setCell ⟨w.heap.size,1,none⟩ (.int .i64 qe)).setCell ⟨w.heap.size,2,none⟩ (.string ⟨qs.toArray⟩)).setCell ⟨w.heap.size,3,none⟩ (.int .i64 qx)).setCell ⟨w.heap.size,4,none⟩ (.int .i64 qn)).setCell ⟨w.heap.size,5,none⟩ (.int .i64 qq)).setCell ⟨w.heap.size,6,none⟩ (.slice va vl vc)) (.slice va vl vc) qes :=
  jq (T:=fun j=>j=w.heap.size) (p:=(⟨qp,qe,⟨qs,qx,qn,qq,qes⟩⟩,.slice va vl vc)) HEV.out.1 (fun b hb hne e=>by
   have:=kt HEV.out.2 hb hne;omega) (ax.cq hs rfl)
 exact⟨(⟨qp,qe,⟨qs,qx,qn,qq,qes⟩⟩,.slice va vl vc),rfl,HP.out,hev,kQ HBB.out ab ab _ _ _ _ _ _ _⟩
theorem wN (h:RR R J a r lg d sb room s fs st w) (hR:aC a R) (q:Int) (hq:q<1\/(s.es.length:Int)<q) :
 Calls prog 167 #[.pointer (some ⟨r,0,none⟩),.int .i64 q] w fun e w'=>e=.returned (.tuple #[.agg #[.int .i64 0,.int .i64 0,.string ⟨#[]⟩,.int .i64 0,.int .i64 0,.int .i64 0,.slice none 0 0],.bool false])/\Below w.heap.size w w':=by
 obtain⟨W1,hW1⟩:∃W1,w.alloc (.cells #[.int .i64 0,.int .i64 0,.string ⟨#[]⟩,.int .i64 0,.int .i64 0,.int .i64 0,.slice none 0 0] 95)=W1:=⟨_,rfl⟩;have b1:Below w.heap.size w W1:=by rw[<-hW1];exact(ae _ w).alloc ab _
 have hz:W1.heap[w.heap.size]?=some (.cells #[.int .i64 0,.int .i64 0,.string ⟨#[]⟩,.int .i64 0,.int .i64 0,.int .i64 0,.slice none 0 0] 95 (0,0)):=by rw[<-hW1];exact heap_alloc_new w _
 have h:=h.next hR b1;have k1:=h.box.cells.2.1;rw[<-hW1]at k1;obtain⟨TL,TS,X,h,hw⟩:=h;obtain⟨ft,pv,ev,ps,hL⟩:=h.log;have HC:=ad (FZ hL q (by rw[hL.len];exact hq));have HZ:=ad hz;have HB1:=ad b1;have HW1:=ad hW1;clear h hw hL hq hz b1 hW1;go_enter func167,ntmps167;go_wp2_with fail;rw[HW1.out];refine HC.out.mono ?_;rintro e w1 ⟨rfl,hb⟩;have hz1:=(hb.block w.heap.size (aA.1 HZ.out).1).trans HZ.out;have HZ1:=ad hz1;obtain⟨c0,c1,c2,c3,c4,c5,c6⟩:=bG.cells hz1;have f0:=bG.frozen hz1 0;have f1:=bG.frozen hz1 1;have f2:=bG.frozen hz1 2;have f3:=bG.frozen hz1 3;have f4:=bG.frozen hz1 4;have f5:=bG.frozen hz1 5;have f6:=bG.frozen hz1 6;have HBB:=ad (HB1.out.trans (hb.mono HB1.out.size));clear hz1 hb HC;go_wp2;refine bodyPost_ret (aO rfl _ _ w.heap.size _ _ _ _ rfl (gD HZ1.out _ _ _ _ _ _ _) underlying95 rfl gM) rfl ?_;exact⟨rfl,kQ HBB.out ab ab _ _ _ _ _ _ _⟩
theorem gW (h:RR R J a r lg d sb room s fs st w):Calls prog 42 #[.pointer (some ⟨r,0,none⟩)] w fun e w'=>e=.returned (.int .i64 st.app)/\w=w':=by
 obtain⟨k0,k1,k2⟩:=h.box.cells;have HC:=ad (xP h.L0);clear h;go_enter func42,ntmps42;go_wp2_with fail;refine HC.out.mono ?_;rintro e w1 ⟨rfl,rfl⟩;go_wp2;go_ret;exact⟨rfl,rfl⟩
theorem qG (h:RR R J a r lg d sb room s fs st w) (hroom:room<=4194304):Calls prog 46 #[.pointer (some ⟨r,0,none⟩)] w fun e w'=>e=.returned (.int .i64 (al.cx fs).1)/\Below w.heap.size w w':=by
 obtain⟨k0,k1,k2⟩:=h.box.cells;obtain⟨TL,TS,X,h,hw⟩:=h;obtain⟨ft,pv,ev,ps,hL⟩:=h.log;have HC:=ad (zU a d room fs ft w hL.mr hL.im hroom);clear h hw hL;go_enter func46,ntmps46;go_wp2_with fail;refine HC.out.mono ?_;rintro e w1 ⟨rfl,hb⟩;go_wp2;go_ret;exact⟨rfl,hb⟩
theorem zg (x:Int) (h:RR R J a r lg d sb room s fs st w) (hR:aC a R) (hroom:room<=4194304) :
 Calls prog 55 #[.pointer (some ⟨r,0,none⟩),.int .i64 x] w fun e w'=>e=.returned (.int .i64 ((al.jj room x fs).2:Nat))/\RR R J a r lg d sb room s (al.jj room x fs).1 st w':=by
 obtain⟨k0,k1,k2⟩:=h.box.cells;have HC:=ad (fun ft hA hd=>qW a d room x fs ft w hA hd hroom);have HRR:=ad h;obtain⟨TL,TS,X,h,hw⟩:=h;obtain⟨ft,pv,ev,ps,hL⟩:=h.log;have HM:=ad (qW a d room x fs ft w hL.mr hL.im hroom);have HH:=ad (aB h (aB hw hL));clear h hw hL HC;go_enter func55,ntmps55;go_wp2_with fail;refine HM.out.mono ?_;rintro e w1 ⟨rfl,hd⟩;obtain⟨T3,ft3,hM,_,_⟩:=(du.start HH.out.2.2).jr hd;have HX:=ad (HH.out.1.zV hR HH.out.2.1 hM.step);clear hd hM HH HRR;go_wp2;go_ret;exact⟨rfl,HX.out⟩
def cR (L:List Evt.Entry) (p:Int):Int×Bool:=if p<1 then (0,p==0) else match L[(p-1).toNat]? with|some e=>(e.epoch,true)|none=>(0,false)
theorem sL (p:Int) (h:RR R J a r lg d sb room s fs st w) (hR:aC a R) (hn:s.es.length<=1000000) :
 Calls prog 177 #[.pointer (some ⟨r,0,none⟩),.int .i64 p] w fun e w'=>e=.returned (.tuple #[.int .i64 (cR s.es p).1,.bool (cR s.es p).2])/\Below w.heap.size w w':=by
 by_cases h1:1<=p/\p<=(s.es.length:Int)
 ·obtain⟨i,rfl⟩:∃i:Nat,p=(i:Int)+1:=⟨(p-1).toNat,by omega⟩;have hi:s.es[i]?=some (s.es[i]'(by omega)):=aR _;have HC:=ad (zi h hR hn i _ hi);have HE:=ad (show cR s.es ((i:Int)+1)=((s.es[i]'(by omega)).epoch,true)by
   unfold cR;rw[if_neg (by omega),show((i:Int)+1-1).toNat=i by omega,hi])
  have HBX:=ad h.box;clear h hi;go_enter func177,ntmps177;go_wp2_with fail;refine HC.out.mono ?_;rintro e w1 ⟨⟨⟨qp,qe,⟨qs,qx,qn,qq,qes⟩⟩,qv⟩,rfl,hq,hev,hb⟩;obtain⟨va,vl,vc,hva⟩:=ee hev;have hva:qv=.slice va vl vc:=hva;subst hva;rw[show fy ((⟨qp,qe,⟨qs,qx,qn,qq,qes⟩⟩:Evt.Entry),(.slice va vl vc))=.agg #[.int .i64 qp,.int .i64 qe,.string ⟨qs.toArray⟩,.int .i64 qx,.int .i64 qn,.int .i64 qq,.slice va vl vc]from rfl];have HQ:=ad (show qe=(s.es[i]'(by omega)).epoch by rw[<-hq]);clear hq hev;go_wp2
  go_ret2
  exact⟨by rw[HE.out,HQ.out];rfl,by first|exact hb|exact hb.alloc hb.size _⟩
 ·have HC:=ad (wN h hR p (by omega));by_cases h0:p=0
  ·subst h0;have HE:=ad (show cR s.es 0=(0,true)by unfold cR;rw[if_pos (by omega)];rfl);clear h;go_enter func177,ntmps177;go_wp2_with fail;refine HC.out.mono ?_;rintro e w1 ⟨rfl,hb⟩;go_wp2
   go_ret2
   exact⟨by rw[HE.out];rfl,by first|exact hb|exact hb.alloc hb.size _⟩
  ·have HE:=ad (show cR s.es p=(0,false)by
    unfold cR;by_cases h2:p<1
    ·rw[if_pos h2];simp[h0]
    ·rw[if_neg h2,List.getElem?_eq_none (by omega)])
   have h0b:(p==0)=false:=by simp[h0]
   clear h h1 h0;go_enter func177,ntmps177;go_wp2_with fail;refine HC.out.mono ?_;rintro e w1 ⟨rfl,hb⟩;go_wp2
   go_ret2
   exact⟨by rw[HE.out];rfl,by first|exact hb|exact hb.alloc hb.size _⟩
end
section
variable {R:(Nat->Prop)->(Nat->Prop)->World->Prop} {a w w0 w':World} {r lg d sb:Nat} {room:Int} {s s':Lg.S} {fs fs':List Dk.ai} {st st':Stat} {TL TS X:Nat->Prop} {J:List (Nat×Obj)}
theorem RR.ey {lv:Value} {qs:List bu} (h:RR (cn R lv qs) J a r lg d sb room s fs st w):dk w lv qs:=by
 obtain⟨TL,TS,X,h,hw⟩:=h;exact hw.2.cr
theorem RR.jA {lv:Value} {qs:List bu} (h:RR (cn R lv qs) J a r lg d sb room s fs st w):RR R J a r lg d sb room s fs st w:=h.mono fun _ _ _ hh=>hh.1
theorem kM {lv:Value} {qs:List bu} {c:Nat} (h:RR (cn R lv qs) J a r lg d sb room s fs st w) (hR:aC a R) (hroom:room<=4194304) (hB:Lg.BK qs.length s) (hcap:mw lv) (hqn:qs.length<=1000) (hr:Lg.fQ room (ag qs) s fs=((fs',s'),c)) :
 Calls prog 109 #[.pointer (some ⟨lg,0,none⟩),lv] w fun e w'=>e=.returned (.int .i64 (c:Int))/\RR (cn R lv qs) J a r lg d sb room s' fs' st w':=by
 obtain⟨TL,TS,X,h,hw⟩:=h;obtain⟨ft,pv,ev,ps,hL⟩:=h.log;refine(yh hL hroom hB hw.2 hcap hqn hr).mono ?_;rintro e w' ⟨rfl,hs⟩;exact⟨rfl,h.zV (fi hR lv qs) hw hs⟩
theorem BF {c:Nat} {last:Int} (h:RR R J a r lg d sb room s fs st w) (hR:aC a R) (hroom:room<=4194304) (hB:Lg.Bounded s) (hl1 : -9223372036854775808<=last) (hl2:last<=9223372036854775807) (hr:Lg.lI room last s fs=((fs',s'),c)) :
 Calls prog 178 #[.pointer (some ⟨lg,0,none⟩),.int .i64 last] w fun e w'=>e=.returned (.int .i64 (c:Int))/\RR R J a r lg d sb room s' fs' st w':=by
 obtain⟨TL,TS,X,h,hw⟩:=h;obtain⟨ft,pv,ev,ps,hL⟩:=h.log;refine(zX hL hroom hB hl1 hl2 hr).mono ?_;rintro e w' ⟨rfl,hs⟩;exact⟨rfl,h.zV hR hw hs⟩
def kP (room last app:Int) (s:Lg.S) (fs:List Dk.ai):(List Dk.ai×Lg.S)×Nat:=if last<app then ((fs,s),9) else Lg.lI room last s fs
theorem Dy {c:Nat} {last:Int} (h:RR R J a r lg d sb room s fs st w) (hR:aC a R) (hroom:room<=4194304) (hB:Lg.Bounded s) (hl1 : -9223372036854775808<=last) (hl2:last<=9223372036854775807) (hr:kP room last st.app s fs=((fs',s'),c)) :
 Calls prog 121 #[.pointer (some ⟨r,0,none⟩),.int .i64 last] w fun e w'=>e=.returned (.int .i64 (c:Int))/\RR R J a r lg d sb room s' fs' st w':=by
 obtain⟨k0,k1,k2⟩:=h.box.cells;have HC:=ad (gW h);unfold kP at hr;by_cases hlt:last<st.app
 ·rw[if_pos hlt]at hr;have HF:=ad (show fs=fs'/\s=s'/\9=c by simpa[and_assoc]using hr);have HH:=ad h;clear hr h;go_enter func121,ntmps121;go_wp2_with fail;refine HC.out.mono ?_;rintro e w1 ⟨rfl,rfl⟩;go_wp2;go_ret;obtain⟨rfl,rfl,rfl⟩:=HF.out;exact⟨rfl,HH.out⟩
 ·rw[if_neg hlt]at hr;have HT:=ad (BF h hR hroom hB hl1 hl2 hr);clear hr h;go_enter func121,ntmps121;go_wp2_with fail;refine HC.out.mono ?_;rintro e w1 ⟨rfl,rfl⟩;go_wp2_with fail;refine HT.out.mono ?_;rintro e w2 ⟨rfl,hx⟩;have HX:=ad hx;clear hx HT HC;go_wp2;go_ret;exact⟨rfl,HX.out⟩
def dz (fs:List Dk.ai):Int:=(al.cx fs).1
def rR (s:Lg.S) (fs:List Dk.ai) (b:Evt.Batch):Evt.Entry:=⟨(s.es.length:Int)+1,dz fs,b⟩
def ma (room:Int) (b:Evt.Batch) (s:Lg.S) (fs:List Dk.ai):(List Dk.ai×Lg.S)×Nat :=
 if Evt.fits b≠0 then ((fs,s),1) else if dz fs=0\/dz fs<Lg.dd s.es then ((fs,s),10) else Lg.fQ room [rR s fs b] s fs
end
end Go.Proofs.YtmgmknmaepjnoaaGreatDoor
