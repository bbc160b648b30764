/-
  Two nodes that hear one another (the law package 21): all.
-/
import Derived.Test.YtmgmknmaepjnoaaGreatDoorLaG
namespace Go.Proofs.YtmgmknmaepjnoaaGreatDoor
open Go.RowKit Go.Shelf Go.Sort Proofs.Tryz
def kS (t:TypeId) (sz:Nat) (v:Value) (n:Nat) (xs:List Value) (K:List (Nat×Obj)):Prop:=∀W:World,(∀p∈K,W.heap[p.1]?=some p.2)->W.ownsRow 0 t sz v n xs
theorem dV.e {t:TypeId} {sz:Nat} {v:Value} {n:Nat} {xs:List Value} {K:List (Nat×Obj)} (h:dV t sz v n xs K):kS t sz v n xs K:=fun W hW=>h.lR (w:=W) hW
theorem kS.more {t:TypeId} {sz:Nat} {v:Value} {n:Nat} {xs:List Value} {K:List (Nat×Obj)} (h:kS t sz v n xs K) (C:List (Nat×Obj)):kS t sz v n xs (K++C):=fun W hW=>h W fun p hp=>hW p (aH _ hp)
section
variable {R:(Nat->Prop)->(Nat->Prop)->World->Prop} {a w:World} {nb lg sb:Nat} {room:Int} {s:Lg.S} {fs:List Dk.ai} {st:Stat} {N:Nd} {xb:Nat} {nv dv:Value} {kn JX:List (Nat×Obj)} {H Wr:List (Int×Value)} {F:List Int}
theorem bB.IU (h:bB R a nb lg sb room s fs st N xb nv dv kn H Wr F JX w) (hR:aC a R):bB R a nb lg sb room s fs st N xb nv dv kn H [] [] JX ((w.setCell ⟨xb,3,none⟩ (.slice none 0 0)).setCell ⟨xb,4,none⟩ (.slice none 0 0)):=by
 obtain⟨P,h1,h2,h3⟩:=h;have hx:=h3.bj (xb,dt nv dv H Wr F P) (by simp[bn]);have hnew:=av (i:=4) (av (i:=3) hx (.slice none 0 0)) (.slice none 0 0);have hg:=aF (az w xb 3 (.slice none 0 0)) (az (w.setCell ⟨xb,3,none⟩ (.slice none 0 0)) xb 4 (.slice none 0 0));have ht:ax (fun j=>j=xb) w ((w.setCell ⟨xb,3,none⟩ (.slice none 0 0)).setCell ⟨xb,4,none⟩ (.slice none 0 0)):=ax.cq hg rfl;have hsub:∀p∈P.kh++(kn++JX),p∈bn xb nv dv H Wr F P++(kn++JX)/\p.1≠xb:=fun p hp=>by
  rcases aK.1 hp with hp|hp
  ·exact⟨aH _ (by simp[bn,hp]),h1.x p (by simp[hp])⟩
  ·exact⟨aD _ hp,fun e=>h2 p hp ⟨(xb,dt nv dv H Wr F P),by simp[bn],e.symm⟩⟩
 refine⟨{P with wa:=none,wc:=0,fa:=none,fc:=0,kw:=[],kf:=[]},⟨h1.h,dV.nil _ _,dV.nil _ _,fun p hp=>h1.x p (by simp only[List.append_nil]at hp;simp[hp]),fun p _ q hq=>(by cases hq),fun p _ q hq=>(by cases hq),fun p hp=>(by cases hp)⟩,fun p hp ⟨q,hq,e⟩=>h2 p hp ?_,h3.cJ hR (ht.wide fun j hj=>⟨(xb,dt nv dv H Wr F P),by simp[bn],hj.symm⟩) (fun p hp=>?_)⟩
 ·simp only[bn,List.append_nil,List.mem_cons]at hq;rcases hq with rfl|hq
  ·exact⟨(xb,dt nv dv H Wr F P),by simp[bn],e⟩
  ·exact⟨q,by simp[bn,hq],e⟩
 ·have hcase:p=(xb,dt nv dv H [] [] {P with wa:=none,wc:=0,fa:=none,fc:=0,kw:=[],kf:=[]})\/p∈P.kh++(kn++JX):=by
   rcases aK.1 hp with hp|hp
   ·simp only[bn,List.append_nil,List.mem_cons]at hp;exact hp.imp id (aH _)
   ·exact .inr (aD _ hp)
  rcases hcase with rfl|hp
  ·exact⟨.inl ⟨(xb,dt nv dv H Wr F P),by simp[bn],rfl⟩,by rw[hnew];simp[dt]⟩
  ·obtain⟨g1,g2⟩:=hsub p hp;have hw:=h3.bj p g1;exact⟨.inl ⟨p,g1,rfl⟩,(ht.block p.1 (aA.1 hw).1 g2).trans hw⟩
theorem bB.cells (h:bB R a nb lg sb room s fs st N xb nv dv kn H Wr F JX w) {n1 n2:Nat} (hkn:kS 29 1 nv 2 (dE [n1,n2]) kn):∃kb ko nc wa wc fa fc,nv=.slice (some ⟨kb,ko,none⟩) 2 nc/\w.cell? ⟨xb,0,none⟩=some (.slice (some ⟨kb,ko,none⟩) 2 nc)/\w.cell? ⟨kb,ko,none⟩=some (.pointer (some ⟨n1,0,none⟩))/\w.cell? ⟨kb,ko+1,none⟩=some (.pointer (some ⟨n2,0,none⟩)) /\
 w.cell? ⟨xb,3,none⟩=some (.slice wa Wr.length wc)/\Cells w (.slice wa Wr.length wc) 2 Wr.length (cU Wr)/\w.cell? ⟨xb,4,none⟩=some (.slice fa F.length fc)/\Cells w (.slice fa F.length fc) 1 F.length (aE F)/\w.frozen? ⟨xb,3,none⟩=false/\w.frozen? ⟨xb,4,none⟩=false:=by
 obtain⟨P,h1,h2,h3⟩:=h;have hj:=h3.bj;have hx:=hj (xb,dt nv dv H Wr F P) (by simp[bn]);have hr:=aj (hkn w fun p hp=>hj p (aD _ (aH _ hp)));rcases hr.2 with⟨h0,_⟩|⟨kb,ko,nc,rfl,hc⟩
 ·omega
 have c0:=hc 0 (.pointer (some ⟨n1,0,none⟩)) rfl;have c1:=hc 1 (.pointer (some ⟨n2,0,none⟩)) rfl;refine⟨kb,ko,nc,P.wa,P.wc,P.fa,P.fc,rfl,aq hx rfl,c0,c1,aq hx rfl,aj (h1.w.lR (w:=w) fun p hp=>hj p (aH _ (by simp[bn,hp]))),aq hx rfl,aj (h1.f.lR (w:=w) fun p hp=>hj p (aH _ (by simp[bn,hp]))),ay hx 3,ay hx 4⟩
end
section
variable {c:Net} {L:List Evt.Entry} {e:Evt.Entry} {H:List (Int×Value)} {w:World}
theorem Ha {b:Nat} {iv:Value} (now:Int) (hkn:kS 29 1 c.nv 2 (dE [c.x1.nb,c.x2.nb]) c.kn) (hl:L.length<=40) (hH:H.length<=80000) (h:(iv=.int .i64 0/\Hid (yx c L e b H w))\/(iv=.int .i64 1/\∃m,Hid (wj c L e b (H++[m]) w))\/(iv=.int .i64 2/\∃m,Hid (wk c L e b (H++[m]) w))) :
 (∃(i n j nbk:Nat) (f:Int) (T:TypeId) (V:Value) (P1:Value->World->Prop) (wb wo wc fb fo fc kb ko nc:Nat),iv=.int .i64 (i:Int)/\i<n/\n<=2/\j<2/\w.cell? ⟨c.xb,0,none⟩=some (.slice (some ⟨kb,ko,none⟩) 2 nc)/\w.cell? ⟨kb,ko+j,none⟩=some (.pointer (some ⟨nbk,0,none⟩))/\w.cell? ⟨c.xb,3,none⟩=some (.slice (some ⟨wb,wo,none⟩) n wc)/\w.cell? ⟨wb,wo+i*2,none⟩=some (.int .i64 ((j:Int)+1))/\w.cell? ⟨wb,wo+i*2+1,none⟩=some (.iface T V) /\
  w.cell? ⟨c.xb,4,none⟩=some (.slice (some ⟨fb,fo,none⟩) n fc)/\w.cell? ⟨fb,fo+i,none⟩=some (.int .i64 f)/\Calls prog 10 #[.pointer (some ⟨nbk,0,none⟩),.int .i64 f,.iface T V,.int .i64 now] w.drew (fun ed w'=>∃v,ed=.returned v/\P1 v w') /\
  (∀v Z,P1 v Z->Calls prog 9 #[.pointer (some ⟨c.xb,0,none⟩),.int .i64 ((j:Int)+1),v] Z fun ed w'=>ed=.returned (.tuple #[])/\((i=0/\∃m,Hid (wj c L e b (H++[m]) w'))\/(i=1/\∃m,Hid (wk c L e b (H++[m]) w'))))/\i<2) \/
 (iv=.int .i64 2/\∃m,Hid (wk c L e b (H++[m]) w)):=by
 rcases h with⟨rfl,HS⟩|⟨rfl,m,HS⟩|h
 ·obtain⟨y1,y2,o,h1,h2,he,hoff,hL⟩:=HS.out;obtain⟨kb,ko,nc,wa,wc,fa,fc,_,x0,n0,n1,c3,hw,c4,hf,_⟩:=hL.cells hkn;obtain⟨wb,wo,wc',hv,w0,w1⟩:=yu hw 0 (by simp);cases hv;obtain⟨fb,fo,fc',hv,g0⟩:=CE hf 0 (by simp);cases hv;refine .inl ⟨0,1,1,c.x2.nb,1,_,_,KS c L e b H,wb,wo,_,fb,fo,_,kb,ko,nc,rfl,by omega,by omega,by omega,x0,n1,c3,w0,w1,c4,g0,E' now ⟨y1,y2,o,h1,h2,he,hoff,hL.next cu (ae _ _).drew⟩ hl,fun v Z hZ=>?_,by omega⟩;refine(G9 hZ (by omega)).mono ?_;rintro ed w1 ⟨rfl,m,hx⟩;exact⟨rfl,.inl ⟨rfl,m,ad hx⟩⟩
 ·obtain⟨y1,y2,h1,h2,hL⟩:=HS.out;obtain⟨kb,ko,nc,wa,wc,fa,fc,_,x0,n0,n1,c3,hw,c4,hf,_⟩:=hL.cells hkn;obtain⟨wb,wo,wc',hv,w0,w1⟩:=yu hw 1 (by simp);cases hv;obtain⟨fb,fo,fc',hv,g0⟩:=CE hf 1 (by simp);cases hv;refine .inl ⟨1,2,0,c.x1.nb,2,_,_,KR c L e b (H++[m]),wb,wo,_,fb,fo,_,kb,ko,nc,rfl,by omega,by omega,by omega,x0,n0,c3,w0,w1,c4,g0,E9 now ⟨y1,y2,h1,h2,hL.next cu (ae _ _).drew⟩ hl,fun v Z hZ=>?_,by omega⟩;refine(G8 hZ (by simp;omega)).mono ?_;rintro ed w1 ⟨rfl,hx⟩;exact⟨rfl,.inr ⟨rfl,m,ad hx⟩⟩
 ·exact .inr h
set_option maxHeartbeats 16000000 in
set_option maxRecDepth 100000 in
theorem EJ (now:Int) (hkn:kS 29 1 c.nv 2 (dE [c.x1.nb,c.x2.nb]) c.kn) (h:wg c L e H w) (hl:L.length<=40) (hH:H.length<=80000) :
 Calls prog 11 #[.pointer (some ⟨c.xb,0,none⟩),.int .i64 now] w fun ed w'=>ed=.returned (.tuple #[])/\∃H',H'.length<=H.length+1/\Quiet c (L++[e]) H' w':=by
 obtain⟨b,h⟩:=h.block;have HP:=ad h;have HKN:=ad hkn;clear h hkn;go_enter func11,ntmps11;go_wp2_with fail
 go_loopw [4] (fun iv wr=>(iv=.int .i64 0/\Hid (yx c L e b H wr))\/(iv=.int .i64 1/\∃m,Hid (wj c L e b (H++[m]) wr))\/(iv=.int .i64 2/\∃m,Hid (wk c L e b (H++[m]) wr))) (fun iv _=>2-(intOf iv).toNat)
 case atStart=>exact .inl ⟨rfl,HP⟩
 case round =>
  obtain⟨wz,rfl⟩:∃wz,wz=wr:=⟨_,rfl⟩;clear HP;rcases Ha now HKN.out hl hH hrel with⟨i,n,j,nbk,f,T,V,P1,wb,wo,wc,fb,fo,fc,kb,ko,nc,rfl,hin,hn2,hj2,x0,n0,c3,w0,w1,c4,g0,hT,hS,hN⟩|⟨rfl,m,HS⟩
  ·have hii:(i:Int)<(n:Int):=by omega
   have hi0:(0:Int)<=(i:Int):=by omega
   have hj0:(0:Int)<=(j:Int):=by omega
   have hjj:(j:Int)<2:=by omega
   have hk1:(1:Int)<=(j:Int)+1:=by omega
   have hk2:(j:Int)+1<=2:=by omega
   have h5000:(i:Int)<5000:=by omega
   have hwr:IntKind.i64.wrap ((j:Int)+1-1)=(j:Int):=by rw[IntKind.wrap_i64];omega
   have hwr2:IntKind.i64.wrap (j:Int)=(j:Int):=by rw[IntKind.wrap_i64];omega
   have hw1:wrap64 ((i:Int)+1)=(i:Int)+1:=IntWalk.wrap64_in _ (by omega);have HT:=ad hT;have HSY:=ad hS;have HNX:=ad hN;clear hT hS hN
   go_upto_block 1 with fail
   go_cut [] (fun wx=>(i=0/\∃m,Hid (wj c L e b (H++[m]) wx))\/(i=1/\∃m,Hid (wk c L e b (H++[m]) wx)))
   case first =>
    go_upto_region 5 with fail
    go_region_law (first
     |(go_simp;go_at_call 10;refine HT.out.mono ?_;rintro ed w5 ⟨v,rfl,hq⟩;have HQ:=ad hq;clear hq)
     |(go_simp;go_at_call 9;refine(HSY.out _ _ HQ.out).mono ?_;rintro ed w6 ⟨rfl,hx⟩;have HX:=ad hx;clear hx))
    all_goals go_wp2
    all_goals go_meet
    all_goals exact HX.out
   case rest =>
    have HC:=ad hcut;clear hcut HT HSY x0 n0 c3 w0 w1 c4 g0 hwr hwr2;go_wp2;try rw[hw1]
    rcases HC.out with⟨rfl,m,HS⟩|⟨rfl,m,HS⟩
    ·exact⟨.inr (.inl ⟨rfl,m,HS⟩),by decide⟩
    ·exact⟨.inr (.inr ⟨rfl,m,HS⟩),by decide⟩
  ·obtain⟨y1,y2,h1,h2,hL⟩:=HS.out;obtain⟨kb,ko,nc,wa,wc,fa,fc,_,_,_,_,c3,_,c4,_,f3,f4⟩:=hL.cells HKN.out;have HF:=ad (show ∃H',H'.length<=H.length+1/\Quiet c (L++[e]) H' _ from⟨H++[m],by simp,y1,y2,h1,h2,hL.IU cu⟩);have c3:wz.cell? ⟨c.xb,3,none⟩=some (.slice wa 2 wc):=c3;have c4:wz.cell? ⟨c.xb,4,none⟩=some (.slice fa 2 fc):=c4;clear h1 h2 hL HS;go_wp2;go_end0;exact⟨rfl,HF.out⟩
end
end Go.Proofs.YtmgmknmaepjnoaaGreatDoor
