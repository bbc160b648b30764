/-
  The law package 21's begun: nodes of the first view.
-/
import Derived.Test.YtmgmknmaepjnoaaGreatDoorLaA
namespace Go.Proofs.YtmgmknmaepjnoaaGreatDoor
open Go.RowKit Go.Shelf Go.Sort Proofs.Tryz
def dE (l:List Nat):List Value:=l.map fun b=>.pointer (some ⟨b,0,none⟩)
def nH:jc:=⟨none,0,none,0,none,0,[],[],[]⟩
def mA (nv dv:Value):Obj:=dt nv dv [] [] [] nH
theorem Ld:fh prog 30 29 1:=by
 have h:(prog.info? 29).map (fun i=>(i.zero,i.size,i.bytes))=some (some (.pointer none),1,8):=by kernel_rfl
 obtain⟨i0,hi,hz0,hz1,hz2⟩:=info_parts h;exact⟨underlying30,⟨i0,_,8,hi,hz0,hz1,hz2,rfl,by omega⟩,by omega⟩
theorem Lo:fh prog 31 96 1:=by
 have h:(prog.info? 96).map (fun i=>(i.zero,i.size,i.bytes))=some (some (.pointer none),1,8):=by kernel_rfl
 obtain⟨i0,hi,hz0,hz1,hz2⟩:=info_parts h;exact⟨underlying31,⟨i0,_,8,hi,hz0,hz1,hz2,rfl,by omega⟩,by omega⟩
section
variable {a w w' w2:World} {m:Nat} {ls:Int} {l:List Nat} {J J' K Ko:List (Nat×Obj)} {xb i n n' g cap sz:Nat} {O O':Obj} {t:TypeId} {v:Value} {xs xs':List Value}
theorem eF.next (h:eF a m ls l J w) (hb:Below w.heap.size w w'):eF a m ls l J w' :=
 h.cJ (ax.aI hb) (fun p hp=>⟨.inl ⟨p,hp,rfl⟩,au hb ab (h.bj p hp)⟩)
theorem eF.less (h:eF a m ls l J w) (hs:∀p∈J',p∈J):eF a m ls l J' w :=
 h.cJ (ax.refl _ _) (fun p hp=>⟨.inl ⟨p,hs p hp,rfl⟩,h.bj p (hs p hp)⟩)
theorem eF.app (h:eF a m ls l ((xb,O)::(K++Ko)) w) (hr:dV t sz v n xs K) (hx:∀p∈K++Ko,p.1≠xb) (hKo:∀p∈K,∀q∈Ko,p.1≠q.1)
 (hown:w2.ownsRow 0 t sz (.slice (some ⟨g,0,none⟩) n' cap) n' xs') (hg:w.grownBy w2 v.ownBlock) (hwh:v.ownBlock=some g\/w.heap.size<=g) (hlt:g<w2.heap.size) (hO:w2.heap[xb]?=some O->(w2.setCell ⟨xb,i,none⟩ (.slice (some ⟨g,0,none⟩) n' cap)).heap[xb]?=some O') :
 w2.heap[xb]?=some O/\∃o,dV t sz (.slice (some ⟨g,0,none⟩) n' cap) n' xs' [(g,o)]/\g≠xb/\(∀q∈Ko,g≠q.1)/\eF a m ls l ((xb,O')::([(g,o)]++Ko)) (w2.setCell ⟨xb,i,none⟩ (.slice (some ⟨g,0,none⟩) n' cap)):=by
 have hj:=h.bj;obtain⟨o,q1,q2,q3,q4,q5,q6,q7,q8⟩:=ke (i:=i) (xb:=xb) (Ko:=Ko) hr (hj (xb,O) (by simp)) (fun p hp=>⟨hj p (List.mem_cons_of_mem _ hp),hx p hp⟩) hKo hown hg hwh hlt;refine⟨q5,o,q1,q2,q3,h.cJ (q6.wide fun j hj=>?_) (fun p hp=>?_)⟩
 ·rcases hj with rfl|⟨z,hz,e⟩
  ·exact⟨(j,O),by simp,rfl⟩
  ·exact⟨z,List.mem_cons_of_mem _ (aH _ hz),e⟩
 ·rcases List.mem_cons.1 hp with rfl|hp
  ·exact⟨.inl ⟨(xb,O),by simp,rfl⟩,hO q5⟩
  ·rcases aK.1 hp with hp|hp
   ·rw[aN.1 hp];exact⟨q4.imp (fun ⟨z,hz,e⟩=>⟨z,List.mem_cons_of_mem _ (aH _ hz),e⟩) id,q7⟩
   ·exact⟨.inl ⟨p,List.mem_cons_of_mem _ (aD _ hp),rfl⟩,q8 p hp⟩
end
structure BG (w:World) (m:Nat) (ls:Int) (xb i:Nat) (l ds:List Nat) (na da:Option Addr) (nc dc:Nat) (kn kd JV:List (Nat×Obj)) (wr:World):Prop where
 ln:l.length=i/\ds.length=i
 n:dV 29 1 (.slice na i nc) i (dE l) kn
 d:dV 96 1 (.slice da i dc) i (dE ds) kd
 x:∀p∈kn++(kd++JV),p.1≠xb
 nd:∀p∈kn,∀q∈kd++JV,p.1≠q.1
 dv:∀p∈kd,∀q∈JV,p.1≠q.1
 c:eF w m ls l ((xb,mA (.slice na i nc) (.slice da i dc))::(kn++(kd++JV))) wr
theorem zq (l:List Nat) (b:Nat):dE (l++[b])=dE l++[.pointer (some ⟨b,0,none⟩)]:=by simp[dE]
theorem GR {m:Nat} (hm:m=1\/m=2):(cy m).ch=Ag m/\(cy m).si=List.replicate m 1/\(cy m).bo=List.replicate m 0/\(cy m).ch.length=m/\(cy m).si.length=m/\(cy m).bo.length=m/\(cy m).ep=1/\(cE (cy m).ch&&cE (cy m).si&&cE (cy m).bo)=true:=by
 rcases hm with rfl|rfl <;> decide
set_option maxHeartbeats 64000000 in
set_option maxRecDepth 100000 in
theorem sU (m:Nat) (hm:m=1\/m=2) (ls:Int) (hls:0<=ls/\ls<=274877906944) (w:World) (hE:Env w) :
 Calls prog 8 #[.int .i64 (m:Int),.int .i64 ls] w fun e w'=>∃xb l na nc dv kn,e=.returned (.pointer (some ⟨xb,0,none⟩))/\l.length=m/\dV 29 1 (.slice na m nc) m (dE l) kn/\(∀p∈kn,p.1≠xb)/\eF w m ls l ((xb,mA (.slice na m nc) dv)::kn) w':=by
 have HM:=ad hm;have HLS:=ad hls;have HVM:=ad (GR hm);have hm2:m<=2:=by omega
 have HEV:=ad hE;obtain⟨W0,hW0⟩:∃W0,(w.alloc (.cells #[.slice none 0 0,.slice none 0 0,.slice none 0 0,.slice none 0 0,.slice none 0 0] 34)).alloc (.cells #[.int .i64 1,.slice none 0 0,.slice none 0 0,.slice none 0 0] 47)=W0:=⟨_,rfl⟩;have b0:Below w.heap.size w W0:=by rw[<-hW0];exact an (an (ae _ w) _) _
 have hx0:W0.heap[w.heap.size]?=some (mA (.slice none 0 0) (.slice none 0 0)):=by
  rw[<-hW0];exact au (an (ae _ _) _) ab (heap_alloc_new w _)
 have hv0:W0.heap[w.heap.size+1]?=some (vO (.slice none 0 0) (.slice none 0 0) (.slice none 0 0)):=by
  have:=heap_alloc_new (w.alloc (.cells #[.slice none 0 0,.slice none 0 0,.slice none 0 0,.slice none 0 0,.slice none 0 0] 34)) (.cells #[.int .i64 1,.slice none 0 0,.slice none 0 0,.slice none 0 0] 47);rw[World.size_alloc,hW0]at this;exact this
 obtain⟨xb,hxb⟩:∃xb,w.heap.size=xb:=⟨_,rfl⟩;obtain⟨mb,hmb⟩:∃mb,xb+1=mb:=⟨_,rfl⟩;have HV0:=ad (show VB w xb mb (mA (.slice none 0 0) (.slice none 0 0)) 0 0 0 ⟨none,0,none,0,none,0⟩ [] [] [] W0 from
  ⟨dV.nil _ _,dV.nil _ _,dV.nil _ _,fun p hp=>(by cases hp),fun p hp=>(by cases hp),fun p hp=>(by cases hp),fun p hp=>(by cases hp),by rw[<-hmb,<-hxb];exact hv0,by rw[<-hxb];exact hx0,b0,by omega,by omega,by omega⟩)
 have HW0:=ad hW0;have HXB:=ad (aB hxb hmb);clear hE hm hls b0 hx0 hv0 hW0 hxb hmb;go_enter func8,ntmps8;go_wp2_with fail;rw[HW0.out,HXB.out.1,HXB.out.2]
 go_loopw [7] (fun iv wr=>∃(i:Nat) (A:q_gk) (kc ks kb:List (Nat×Obj)),iv=.int .i64 i/\i<=m/\Hid (VB w xb mb (mA (.slice none 0 0) (.slice none 0 0)) i i i A kc ks kb wr)) (fun iv _=>m-(intOf iv).toNat)
 case atStart=>exact⟨0,_,_,_,_,rfl,Nat.zero_le _,HV0⟩
 case round =>
  obtain⟨i,A,kc,ks,kb,rfl,hi,HV⟩:=hrel;obtain⟨wq,rfl⟩:∃wq,wq=wr:=⟨_,rfl⟩;by_cases hp:i<m
  ·have hip:(i:Int)<(m:Int):=by omega
   have hw1:wrap64 ((i:Int)+1)=(i:Int)+1:=IntWalk.wrap64_in _ (by omega);have HI:=ad (aB hi hp);obtain⟨c0,c1,c2,c3⟩:=HV.out.cells;have h1:=HV.out.next (an (ae _ wq) (.cells #[.int .i64 ((i:Int)+1)] 3));have HOW:=ad (h1.c.lR fun p hp=>(h1.at_ p (aH _ hp)).1);have HZ:=ad (heap_alloc_new wq (.cells #[.int .i64 ((i:Int)+1)] 3));have H1:=ad h1;clear h1 hi hp HV HV0;go_wp2_with (at_builtin;refine eJ rfl _ _ rfl rj (.slice A.ca i A.cc) i (aE (Ag i)) rfl HOW.out wq.heap.size [.int .i64 ((i:Int)+1)] (0,0) rfl 3 HZ.out rfl (by simp[Value.oneCell']) (by omega) ?_);intro g1 p1 w1 hown hgr hwh hlt;obtain⟨q5,o1,hV2⟩:=H1.out.L8 hown hgr (hwh.imp id (fun e=>by rw[World.size_alloc];omega)) hlt;have d1:w1.cell? ⟨mb,1,none⟩=some (.slice A.ca i A.cc):=aq q5 rfl;have e1:=ay q5 1;have d2:w1.cell? ⟨mb,2,none⟩=some (.slice A.sa i A.sc):=aq q5 rfl;obtain⟨A2,hA2⟩:∃A2,{A with ca:=some ⟨g1,0,none⟩,cc:=p1}=A2:=⟨_,rfl⟩;have hA2a:A2.ca=some ⟨g1,0,none⟩/\A2.cc=p1/\A2.sa=A.sa/\A2.sc=A.sc/\A2.ba=A.ba/\A2.bc=A.bc:=by rw[<-hA2];exact⟨rfl,rfl,rfl,rfl,rfl,rfl⟩
   rw[hA2]at hV2;obtain⟨w2,hw2⟩:∃w2,w1.setCell ⟨mb,1,none⟩ (.slice (some ⟨g1,0,none⟩) (i+1) p1)=w2:=⟨_,rfl⟩;rw[hw2]at hV2;obtain⟨c0,c1,c2,c3⟩:=hV2.cells;rw[hA2a.2.2.1,hA2a.2.2.2.1]at c2;have h1:=hV2.next (an (ae _ w2) (.cells #[.int .i64 1] 3));have HOW2:=ad (h1.s.lR fun p hp=>(h1.at_ p (aD _ (aH _ hp))).1);rw[hA2a.2.2.1,hA2a.2.2.2.1]at HOW2;have hz2:=heap_alloc_new w2 (.cells #[.int .i64 1] 3);rw[show w2.heap.size=w1.heap.size by rw[<-hw2];simp]at hz2;have HZ2:=ad hz2;have H2:=ad h1;have HW2:=ad hw2;have HA2:=ad hA2a;clear h1 hown hgr hwh hlt hA2 hA2a hw2 hz2 q5 hV2 HOW HZ H1;go_wp2_with (at_builtin;rw[HW2.out];refine eJ rfl _ _ rfl rj (.slice A.sa i A.sc) i (aE (List.replicate i 1)) rfl HOW2.out w1.heap.size [.int .i64 1] (0,0) rfl 3 HZ2.out rfl (by simp[Value.oneCell']) (by omega) ?_);intro g2 p2 w3 hown hgr hwh hlt;rw[<-HA2.out.2.2.1,<-HA2.out.2.2.2.1]at hgr hwh;obtain⟨q5,o2,hV3⟩:=H2.out.L7 hown hgr (hwh.imp id (fun e=>by rw[World.size_alloc];omega)) hlt;have d1:w3.cell? ⟨mb,2,none⟩=some (.slice A2.sa i A2.sc):=aq q5 rfl;have e1:=ay q5 2;have d2:w3.cell? ⟨mb,3,none⟩=some (.slice A.ba i A.bc):=by rw[aw q5,HA2.out.2.2.2.2.1,HA2.out.2.2.2.2.2];rfl
   obtain⟨A3,hA3⟩:∃A3,{A2 with sa:=some ⟨g2,0,none⟩,sc:=p2}=A3:=⟨_,rfl⟩;have hA3a:A3.ba=A.ba/\A3.bc=A.bc:=by rw[<-hA3];exact⟨HA2.out.2.2.2.2.1,HA2.out.2.2.2.2.2⟩
   rw[hA3]at hV3;obtain⟨w4,hw4⟩:∃w4,w3.setCell ⟨mb,2,none⟩ (.slice (some ⟨g2,0,none⟩) (i+1) p2)=w4:=⟨_,rfl⟩;rw[hw4]at hV3;obtain⟨c0,c1,c2,c3⟩:=hV3.cells;rw[hA3a.1,hA3a.2]at c3;have h1:=hV3.next (an (ae _ w4) (.cells #[.int .i64 0] 3));have HOW3:=ad (h1.b.lR fun p hp=>(h1.at_ p (aD _ (aD _ hp))).1);rw[hA3a.1,hA3a.2]at HOW3;have hz3:=heap_alloc_new w4 (.cells #[.int .i64 0] 3);rw[show w4.heap.size=w3.heap.size by rw[<-hw4];simp]at hz3;have HZ3:=ad hz3;have H3:=ad h1;have HW4:=ad hw4;have HA3:=ad hA3a;clear h1 hown hgr hwh hlt hA3 hA3a hw4 hz3 q5 hV3 HOW2 HZ2 H2 HW2;go_wp2_with (at_builtin;rw[HW4.out];refine eJ rfl _ _ rfl rj (.slice A.ba i A.bc) i (aE (List.replicate i 0)) rfl HOW3.out w3.heap.size [.int .i64 0] (0,0) rfl 3 HZ3.out rfl (by simp[Value.oneCell']) (by omega) ?_);intro g3 p3 w5 hown hgr hwh hlt;rw[<-HA3.out.1,<-HA3.out.2]at hgr hwh;obtain⟨q5,o3,hV4⟩:=H3.out.L6 hown hgr (hwh.imp id (fun e=>by rw[World.size_alloc];omega)) hlt;have d1:w5.cell? ⟨mb,3,none⟩=some (.slice A3.ba i A3.bc):=aq q5 rfl;have e1:=ay q5 3;have HV4:=ad hV4;clear hown hgr hwh hlt q5 hV4 HOW3 HZ3 H3 HW4 HA3 HA2;go_wp2;try rw[hw1]
   exact⟨⟨i+1,_,_,_,_,rfl,HI.out.2,HV4⟩,fU HI.out.2⟩
  ·obtain rfl:i=m:=by omega
   obtain⟨JV,hJV⟩:∃JV:List (Nat×Obj),(mb,vO (.slice A.ca i A.cc) (.slice A.sa i A.sc) (.slice A.ba i A.bc))::(kc++(ks++kb))=JV:=⟨_,rfl⟩;have hJx:∀p∈JV,w.heap.size<=p.1/\p.1≠xb/\wq.heap[p.1]?=some p.2:=fun p hp=>by
    rw[<-hJV]at hp;rcases List.mem_cons.1 hp with rfl|hp
    ·exact⟨HV.out.lm.1,fun e=>HV.out.lm.2.2 e.symm,HV.out.m⟩
    ·exact⟨(HV.out.lo p hp).2,(HV.out.lo p hp).1,(HV.out.at_ p hp).1⟩
   have HVA:=ad (show ∀Z:World,(∀p∈JV,Z.heap[p.1]?=some p.2)->fE Z (cy i) A/\Z.heap[mb]?=some (vO (.slice A.ca i A.cc) (.slice A.sa i A.sc) (.slice A.ba i A.bc))from fun Z hZ=>by
    rw[<-hJV]at hZ;have hZ2:∀p∈kc++(ks++kb),Z.heap[p.1]?=some p.2:=fun p hp=>hZ p (List.mem_cons_of_mem _ hp);obtain⟨v1,v2,v3,v4,v5,v6,_⟩:=HVM.out;have hc1:=HV.out.c.lR (w:=Z) fun p hp=>hZ2 p (aH _ hp);refine⟨⟨?_,?_,?_,?_⟩,hZ _ List.mem_cons_self⟩
    ·rw[v4,v1];exact aj hc1
    ·rw[v5,v2];exact aj (HV.out.s.lR (w:=Z) fun p hp=>hZ2 p (aD _ (aH _ hp)))
    ·rw[v6,v3];exact aj (HV.out.b.lR (w:=Z) fun p hp=>hZ2 p (aD _ (aD _ hp)))
    ·rw[v4];exact tE hc1)
   have HG0:=ad (show BG w i ls xb 0 [] [] none none 0 0 [] [] JV wq from⟨⟨rfl,rfl⟩,dV.nil _ _,dV.nil _ _,fun p hp=>(hJx p hp).2.1,fun p hp=>(by cases hp),fun p hp=>(by cases hp),HV.out.bel,HEV.out,fun p hp=>by
    rcases List.mem_cons.1 hp with rfl|hp
    ·exact⟨HV.out.lm.2.1,HV.out.x⟩
    ·exact⟨(hJx p hp).1,(hJx p hp).2.2⟩⟩)
   have HMJ:=ad (show(mb,vO (.slice A.ca i A.cc) (.slice A.sa i A.sc) (.slice A.ba i A.bc))∈JV by rw[<-hJV];simp);obtain⟨m,rfl⟩:∃m,m=i:=⟨_,rfl⟩;clear hJx hJV HV hi hp HV0 HW0 HXB;go_wp2_with fail
   go_loopw [8] (fun iv wr=>∃(i:Nat) (l ds:List Nat) (na da:Option Addr) (nc dc:Nat) (kn kd:List (Nat×Obj)),iv=.int .i64 i/\i<=m/\Hid (BG w m ls xb i l ds na da nc dc kn kd JV wr)) (fun iv _=>m-(intOf iv).toNat)
   case atStart=>exact⟨0,_,_,_,_,_,_,_,_,rfl,Nat.zero_le _,HG0⟩
   case round =>
    obtain⟨i,l,ds,na,da,nc,dc,kn,kd,rfl,hi,HB⟩:=hrel;obtain⟨wz,rfl⟩:∃wz,wz=wr:=⟨_,rfl⟩;clear HG0;by_cases hp:i<m
    ·have hip:(i:Int)<(m:Int):=by omega
     have hw1:wrap64 ((i:Int)+1)=(i:Int)+1:=IntWalk.wrap64_in _ (by omega);have HI:=ad (aB hi hp);have HFA:=ad (qh HM.out hp);have HDN:=ad (Ca 4194304 wz);clear hi hp;go_wp2_with fail;refine HDN.out.mono ?_;rintro e w1 (⟨hbad,_⟩|⟨_,d,rfl,hd,b1⟩)
     ·exact absurd (by decide) hbad
     have hd:=hd.narrow;have hA1:fF wz w1 (fun j=>wz.heap.size<=j/\j<w1.heap.size):=⟨HB.out.c.env,b1,fun j hj=>hj.1⟩;have HFM:=ad (Eg wz d 4194304 _ w1 (by decide) hA1 hd);have HA1:=ad hA1;clear HDN hd hA1 b1;go_wp2_with fail;refine HFM.out.mono ?_;rintro e w2 ⟨rfl,ft2,hd2,hn2,ht2⟩;have hA2:=HA1.out.cJ ht2 hn2;have HST:=ad (Fe ((i:Int)+1) ⟨by omega,by omega⟩ (⟨hA2.env,hA2.below,fun j hj=>hA2.out j hj.1⟩:fF wz w2 (fun j=>ft2 j/\j<w2.heap.size)) hd2.narrow (fun j hj=>⟨hj.2,hA2.out j hj.1⟩) (by decide));have HB2:=ad hA2.below.size;clear HFM HA1 hA2 hd2 hn2 ht2;go_wp2_with fail;refine HST.out.mono ?_;rintro e w3 ⟨nb,lg,sb,r,rfl,hr,hnb,h3⟩;have b3:=h3.below;obtain⟨hva,hmb3⟩:=HVA.out w3 fun p hp=>au b3 ab (HB.out.c.bj p (List.mem_cons_of_mem _ (aD _ (aD _ hp))));have m0:w3.cell? ⟨mb,0,none⟩=some (.int .i64 1):=aq hmb3 rfl;have m1:w3.cell? ⟨mb,1,none⟩=some (.slice A.ca m A.cc):=aq hmb3 rfl;have m2:w3.cell? ⟨mb,2,none⟩=some (.slice A.sa m A.sc):=aq hmb3 rfl;have m3:w3.cell? ⟨mb,3,none⟩=some (.slice A.ba m A.bc):=aq hmb3 rfl;have hep:(cy m).ep=1:=HVM.out.2.2.2.2.2.2.1;obtain⟨f2,hr2,hi2⟩:=uG.raise (room:=4194304) (e:=1) (by omega) (by omega) (by omega) (by simp) (by omega);have HTV:=Cl (cy m) A 0 hva (iT m) (by show(0:Int)<(cy m).ep;omega) (by rw[uG.uQ];omega) (by decide) (by rw[hep];exact hr2) h3 (eQ _) (rZ (N:={FW ((i:Int)+1) d r with v:=cy m,ez:=0,q:=none}) hi2 (iT m) HFA.out.1 HFA.out.2.1 rfl (by simp)) rfl HVM.out.2.2.2.2.2.2.2;rw[show dw (cy m) A=.agg #[.int .i64 1,.slice A.ca m A.cc,.slice A.sa m A.sc,.slice A.ba m A.bc]by unfold dw;rw[hep,HVM.out.2.2.2.1,HVM.out.2.2.2.2.1,HVM.out.2.2.2.2.2.1]]at HTV;have HTV:=ad HTV;have HI2:=ad hi2;have HRB:=ad (show wz.heap.size<=r/\wz.heap.size<=nb from⟨by have:=HB2.out;omega,by have:=HB2.out;omega⟩);clear HST h3 b3 hva hmb3 hr2 hi2 hr hnb;go_wp2_with fail;refine HTV.out.mono ?_;rintro e w4 ⟨v4,rfl,hq4⟩;obtain⟨h4,_⟩:=hq4.drop (eQ _);have h4:ah mY [] wz nb lg sb 4194304 (Lg.aL 1 [] []) f2 Stat.new (gr ((i:Int)+1) d r (cy m) 0) w4:=h4;have HTL:=yJ ls 0 HLS.out h4 (eQ _) (iT m) (rZ (N:=gr ((i:Int)+1) d r (cy m) (max 0 ls)) HI2.out (iT m) HFA.out.1 HFA.out.2.1 rfl (by simp)) rfl;rw[show(gr ((i:Int)+1) d r (cy m) 0).v.ep=1 from hep]at HTL;have HTL:=ad HTL;clear HTV hq4 h4 m0 m1 m2 m3;go_wp2_with fail;refine HTL.out.mono ?_;rintro e w5 ⟨v5,rfl,hq5⟩;obtain⟨h5,_⟩:=hq5.drop (eQ _);have h5:ah mY [] wz nb lg sb 4194304 (Lg.aL 1 [] []) f2 Stat.new (gr ((i:Int)+1) d r (cy m) (max 0 ls)) w5:=h5;rw[show max (0:Int) ls=ls by have:=HLS.out;omega]at h5;have HRD:=ad (gC h5 (eQ _) (kY HI2.out (iT m) HFA.out.1 HFA.out.2.1));have H5:=ad h5;clear HTL hq5 h5;go_wp2_with fail;refine HRD.out.mono ?_;rintro e w6 ⟨rfl,b6⟩;have hln:=HB.out.ln;have hc6:=HB.out.c.make (by omega) HI2.out (by rw[hln.1];exact H5.out.next (eQ _) b6) HRB.out.1 HRB.out.2;have hc7:=hc6.next (an (ae _ w6) (.cells #[.pointer (some ⟨nb,0,none⟩)] 29));have hx6:=hc6.bj _ List.mem_cons_self;have x0:w6.cell? ⟨xb,0,none⟩=some (.slice na i nc):=aq hx6 rfl;have HOW:=ad (HB.out.n.lR (w:=w6.alloc (.cells #[.pointer (some ⟨nb,0,none⟩)] 29)) fun p hp=>hc7.bj p (List.mem_cons_of_mem _ (aH _ hp)));have HZ:=ad (heap_alloc_new w6 (.cells #[.pointer (some ⟨nb,0,none⟩)] 29));have HC7:=ad hc7;clear HRD b6 hc6 hc7 hx6 H5;go_wp2_with (at_builtin;refine eJ rfl _ _ rfl Ld (.slice na i nc) i (dE l) rfl HOW.out w6.heap.size [.pointer (some ⟨nb,0,none⟩)] (0,0) rfl 29 HZ.out rfl (by simp[Value.oneCell']) (by omega) ?_);intro g1 p1 w7 hown hgr hwh hlt;obtain⟨q5,o1,k1,k2,k3,hc8⟩:=HC7.out.app (i:=0) (O':=mA (.slice (some ⟨g1,0,none⟩) (i+1) p1) (.slice da i dc)) HB.out.n HB.out.x HB.out.nd hown hgr (hwh.imp id (fun e=>by rw[World.size_alloc];omega)) hlt (fun q5=>by rw[av (i:=0) q5];simp[mA,dt]);have d1:w7.cell? ⟨xb,0,none⟩=some (.slice na i nc):=aq q5 rfl;have d2:w7.cell? ⟨xb,1,none⟩=some (.slice da i dc):=aq q5 rfl;have e1:=ay q5 0;obtain⟨w8,hw8⟩:∃w8,w7.setCell ⟨xb,0,none⟩ (.slice (some ⟨g1,0,none⟩) (i+1) p1)=w8:=⟨_,rfl⟩;rw[hw8]at hc8;have hc9:=(hc8.next (an (ae _ w8) (.cells #[.pointer (some ⟨d,0,none⟩)] 96))).less (J':=(xb,mA (.slice (some ⟨g1,0,none⟩) (i+1) p1) (.slice da i dc))::(kd++([(g1,o1)]++JV))) (fun p hp=>by
      rcases List.mem_cons.1 hp with rfl|hp
      ·exact List.mem_cons_self
      ·refine List.mem_cons_of_mem _ ?_;rcases aK.1 hp with hp|hp
       ·exact aD _ (aH _ hp)
       ·rcases aK.1 hp with hp|hp
        ·exact aH _ hp
        ·exact aD _ (aD _ hp))
     have HOW2:=ad (HB.out.d.lR (w:=w8.alloc (.cells #[.pointer (some ⟨d,0,none⟩)] 96)) fun p hp=>hc9.bj p (List.mem_cons_of_mem _ (aH _ hp)));have hz2:=heap_alloc_new w8 (.cells #[.pointer (some ⟨d,0,none⟩)] 96);rw[show w8.heap.size=w7.heap.size by rw[<-hw8];simp]at hz2;have HZ2:=ad hz2;have HC9:=ad hc9;have HW8:=ad hw8;have HK:=ad (aB k1 (aB k2 k3));clear hown hgr hwh hlt q5 hc8 hc9 hz2 hw8 k1 k2 k3 HOW HZ HC7;go_wp2_with (at_builtin;rw[HW8.out];refine eJ rfl _ _ rfl Lo (.slice da i dc) i (dE ds) rfl HOW2.out w7.heap.size [.pointer (some ⟨d,0,none⟩)] (0,0) rfl 96 HZ2.out rfl (by simp[Value.oneCell']) (by omega) ?_);intro g2 p2 w9 hown hgr hwh hlt;obtain⟨q5,o2,k1,k2,k3,hc⟩:=HC9.out.app (i:=1) (O':=mA (.slice (some ⟨g1,0,none⟩) (i+1) p1) (.slice (some ⟨g2,0,none⟩) (i+1) p2)) HB.out.d (fun p hp=>by
      rcases aK.1 hp with hp|hp
      ·exact HB.out.x p (aD _ (aH _ hp))
      ·rcases aK.1 hp with hp|hp
       ·rw[aN.1 hp];exact HK.out.2.1
       ·exact HB.out.x p (aD _ (aD _ hp))) (fun p hp q hq=>by
      rcases aK.1 hq with hq|hq
      ·rw[aN.1 hq];exact fun e=>HK.out.2.2 p (aH _ hp) e.symm
      ·exact HB.out.dv p hp q hq) hown hgr (hwh.imp id (fun e=>by rw[World.size_alloc];omega)) hlt (fun q5=>by rw[av (i:=1) q5];simp[mA,dt])
     have d1:w9.cell? ⟨xb,1,none⟩=some (.slice da i dc):=aq q5 rfl;have e1:=ay q5 1;have HF:=ad (show BG w m ls xb (i+1) (l++[nb]) (ds++[d]) (some ⟨g1,0,none⟩) (some ⟨g2,0,none⟩) p1 p2 [(g1,o1)] [(g2,o2)] JV _ from⟨⟨by simp[HB.out.ln.1],by simp[HB.out.ln.2]⟩,by rw[zq];exact HK.out.1,by rw[zq];exact k1,fun p hp=>by
      rcases aK.1 hp with hp|hp
      ·rw[aN.1 hp];exact HK.out.2.1
      ·rcases aK.1 hp with hp|hp
       ·rw[aN.1 hp];exact k2
       ·exact HB.out.x p (aD _ (aD _ hp)),fun p hp q hq=>by
      rw[aN.1 hp];rcases aK.1 hq with hq|hq
      ·rw[aN.1 hq];exact fun e=>k3 (g1,o1) (by simp) e.symm
      ·exact HK.out.2.2 q (aD _ hq),fun p hp q hq=>by
      rw[aN.1 hp];exact k3 q (aD _ hq),hc.less (fun p hp=>by
      rcases List.mem_cons.1 hp with rfl|hp
      ·exact List.mem_cons_self
      ·refine List.mem_cons_of_mem _ ?_;rcases aK.1 hp with hp|hp
       ·exact aD _ (aH _ hp)
       ·rcases aK.1 hp with hp|hp
        ·exact aH _ hp
        ·exact aD _ (aD _ hp))⟩)
     clear hown hgr hwh hlt q5 k1 k2 k3 hc HOW2 HZ2 HC9 HW8 HK;go_wp2;try rw[hw1]
     exact⟨⟨i+1,_,_,_,_,_,_,_,_,rfl,HI.out.2,HF⟩,fU HI.out.2⟩
    ·obtain rfl:i=m:=by omega
     have HF:=ad (HB.out.c.less (J':=(xb,mA (.slice na i nc) (.slice da i dc))::kn) (fun p hp=>by
      rcases List.mem_cons.1 hp with rfl|hp
      ·exact List.mem_cons_self
      ·exact List.mem_cons_of_mem _ (aH _ hp)))
     have HG:=ad (aB HB.out.ln.1 (aB HB.out.n (show ∀p∈kn,p.1≠xb from fun p hp=>HB.out.x p (aH _ hp))));clear HB hi hp HMJ HVA;go_wp2;go_ret;exact⟨xb,l,na,nc,_,kn,rfl,HG.out.1,HG.out.2.1,HG.out.2.2,HF.out⟩
end Go.Proofs.YtmgmknmaepjnoaaGreatDoor
