/-
  The walk of the law package 21's NodeFenced.
-/
import Derived.Test.YtmgmknmaepjnoaaGreatDoorLaK
namespace Go.Proofs.YtmgmknmaepjnoaaGreatDoor
open Proofs.Tryz
open Go.RowKit Go.Shelf Go.Sort
theorem oe {W:World} {g:Nat} {x y z:Int} (h:W.heap[g]?=some (.cells #[.int .i64 x,.int .i64 y,.int .i64 z] 3 (0,0))):Cells W (.slice (some ⟨g,0,none⟩) 3 3) 1 3 (aE [x,y,z]) :=
 ⟨rfl,.inr ⟨g,0,3,rfl,fun j u hj=>by rw[Nat.zero_add,aw h];simpa[aE]using hj⟩⟩
theorem rD {W:World} {g:Nat} {x:Int} (h:W.heap[g]?=some (.cells #[.int .i64 x] 3 (0,0))):Cells W (.slice (some ⟨g,0,none⟩) 1 1) 1 1 (aE [x]) :=
 ⟨rfl,.inr ⟨g,0,1,rfl,fun j u hj=>by rw[Nat.zero_add,aw h];simpa[aE]using hj⟩⟩
theorem py (e:Int) (a1 a2 a3:Option Addr) (l1 c1 l2 c2 l3 c3:Nat) (w:World):(Instr.field 70 (.agg #[.int .i64 e,.slice a1 l1 c1,.slice a2 l2 c2,.slice a3 l3 c3]) 0).run prog w=.ok (.int .i64 e) w:=by kernel_rfl
def oj (g:Nat):List (Nat×Obj):=[(g,.cells #[.int .i64 1,.int .i64 2,.int .i64 3] 3 (0,0)),(g+1,.cells #[.int .i64 1,.int .i64 1,.int .i64 4] 3 (0,0)),(g+1+1,.cells #[.int .i64 0,.int .i64 0,.int .i64 6] 3 (0,0)),(g+1+1+1,.cells #[.int .i64 5,.slice (some ⟨g,0,none⟩) 3 3,.slice (some ⟨g+1,0,none⟩) 3 3,.slice (some ⟨g+1+1,0,none⟩) 3 3] 47 (0,0))]
def Kb (g:Nat):q_gk:=⟨some ⟨g,0,none⟩,3,some ⟨g+1,0,none⟩,3,some ⟨g+1+1,0,none⟩,3⟩
def J9 (w:World):World:=(((w.alloc (.cells #[.int .i64 1,.int .i64 2,.int .i64 3] 3)).alloc (.cells #[.int .i64 1,.int .i64 1,.int .i64 4] 3)).alloc (.cells #[.int .i64 0,.int .i64 0,.int .i64 6] 3)).alloc (.cells #[.int .i64 5,.slice (some ⟨w.heap.size,0,none⟩) 3 3,.slice (some ⟨w.heap.size+1,0,none⟩) 3 3,.slice (some ⟨w.heap.size+1+1,0,none⟩) 3 3] 47)
theorem EU (w:World):Below w.heap.size w (J9 w):=an (an (an (an (ae _ w) _) _) _) _
theorem J8 (w:World):∀p∈oj w.heap.size,w.heap.size<=p.1/\(J9 w).heap[p.1]?=some p.2:=by
 intro p hp;have b1:Below w.heap.size w w:=ae _ w;simp only[oj,List.mem_cons,List.not_mem_nil,or_false]at hp;rcases hp with rfl|rfl|rfl|rfl
 ·exact⟨ab,au (an (ae _ _) _) ab (au (an (ae _ _) _) ab (au (an (ae _ _) _) ab (heap_alloc_new w _)))⟩
 ·exact⟨by omega,au (an (ae _ _) _) ab (au (an (ae _ _) _) ab (newAt (heap_alloc_new _ _) (by simp)))⟩
 ·exact⟨by omega,au (an (ae _ _) _) ab (newAt (heap_alloc_new _ _) (by simp))⟩
 ·exact⟨by omega,newAt (heap_alloc_new _ _) (by simp)⟩
theorem Ka {W:World} {g:Nat} (h:∀p∈oj g,W.heap[p.1]?=some p.2):fE W gG (Kb g) :=
 ⟨oe (h (g,.cells #[.int .i64 1,.int .i64 2,.int .i64 3] 3 (0,0)) (by simp[oj])),oe (h (g+1,.cells #[.int .i64 1,.int .i64 1,.int .i64 4] 3 (0,0)) (by simp[oj])),oe (h (g+1+1,.cells #[.int .i64 0,.int .i64 0,.int .i64 6] 3 (0,0)) (by simp[oj])),Nat.le_refl 3⟩
theorem Quiet.K5 {c:Net} {L:List Evt.Entry} {H:List (Int×Value)} {w:World} (h:Quiet c L H w):Quiet {c with kn:=c.kn++oj w.heap.size} L H (J9 w):=h.enter (EU w) (J8 w)
def o6 (g:Nat):q_gk:=⟨some ⟨g,0,none⟩,1,some ⟨g+1,0,none⟩,1,some ⟨g+1+1,0,none⟩,1⟩
def Ix (ep who:Int) (va:Option Addr) (n vc g:Nat):Obj:=.cells #[pz ep who va n vc (o6 g) 0,pz ep who va n vc (o6 g) 1,pz ep who va n vc (o6 g) 2,pz ep who va n vc (o6 g) 3,pz ep who va n vc (o6 g) 4,pz ep who va n vc (o6 g) 5,pz ep who va n vc (o6 g) 6] 60 (0,0)
def jw (ep who:Int) (va:Option Addr) (n vc g:Nat):List (Nat×Obj):=[(g,.cells #[.int .i64 2] 3 (0,0)),(g+1,.cells #[.int .i64 1] 3 (0,0)),(g+1+1,.cells #[.int .i64 0] 3 (0,0)),(g+1+1+1,Ix ep who va n vc g)]
def Dm (ep who:Int) (va:Option Addr) (n vc:Nat) (w:World):World:=(((w.alloc (.cells #[.int .i64 2] 3)).alloc (.cells #[.int .i64 1] 3)).alloc (.cells #[.int .i64 0] 3)).alloc (Ix ep who va n vc w.heap.size)
theorem Bc (ep who:Int) (va:Option Addr) (n vc:Nat) (w:World):Below w.heap.size w (Dm ep who va n vc w):=an (an (an (an (ae _ w) _) _) _) _
theorem G' (ep who:Int) (va:Option Addr) (n vc:Nat) (w:World):∀p∈jw ep who va n vc w.heap.size,w.heap.size<=p.1/\(Dm ep who va n vc w).heap[p.1]?=some p.2:=by
 intro p hp;simp only[jw,List.mem_cons,List.not_mem_nil,or_false]at hp;rcases hp with rfl|rfl|rfl|rfl
 ·exact⟨ab,au (an (ae _ _) _) ab (au (an (ae _ _) _) ab (au (an (ae _ _) _) ab (heap_alloc_new w _)))⟩
 ·exact⟨by omega,au (an (ae _ _) _) ab (au (an (ae _ _) _) ab (newAt (heap_alloc_new _ _) (by simp)))⟩
 ·exact⟨by omega,au (an (ae _ _) _) ab (newAt (heap_alloc_new _ _) (by simp))⟩
 ·exact⟨by omega,newAt (heap_alloc_new _ _) (by simp)⟩
theorem Jp {ep who:Int} {va:Option Addr} {n vc:Nat} {W:World} {g:Nat} (h:∀p∈jw ep who va n vc g,W.heap[p.1]?=some p.2):fE W (jb ep) (o6 g) :=
 ⟨rD (h (g,.cells #[.int .i64 2] 3 (0,0)) (by simp[jw])),rD (h (g+1,.cells #[.int .i64 1] 3 (0,0)) (by simp[jw])),rD (h (g+1+1,.cells #[.int .i64 0] 3 (0,0)) (by simp[jw])),Nat.le_refl 1⟩
theorem Fo {ep who:Int} {va:Option Addr} {n vc:Nat} {W:World} {g i:Nat} (h:∀p∈jw ep who va n vc g,W.heap[p.1]?=some p.2) (hi:i<7):W.cell? ⟨g+1+1+1,i,none⟩=some (pz ep who va n vc (o6 g) i):=by
 have hb:=h (g+1+1+1,Ix ep who va n vc g) (by simp[jw]);rw[aw hb]
 match i,hi with
 |0,_=>rfl
 |1,_=>rfl
 |2,_=>rfl
 |3,_=>rfl
 |4,_=>rfl
 |5,_=>rfl
 |6,_=>rfl
set_option maxHeartbeats 64000000 in
set_option maxRecDepth 100000 in
theorem vA (v:Value) (ps:List gQ) (ep:Int) (rv:Value) (qs:List bu) (fm:Int) (w:World) (hE:Env w) (hs:jG w v ps) (_hep : -9223372036854775808<=ep/\ep<=9223372036854775807) (hrow:kU w rv qs) (_hcap:AK rv) (hfm : -9223372036854775808<=fm/\fm<=9223372036854775807) :
 Calls prog 5 #[v,.int .i64 ep,rv,.int .i64 fm] w fun e w'=>e=.returned (.bool true)/\Below w.heap.size w w':=by
 obtain⟨aa,ac,rfl⟩:=pK hs.1;obtain⟨ra,rc,rfl⟩:=pK hrow.1;have HSH:=ad (A8 w hE);have HE:=ad hE;have HA:=ad hs;have HR:=ad hrow;have HFM:=ad hfm;clear hE hs hrow hfm _hep _hcap;go_enter func5,ntmps5;go_wp2_with fail;refine HSH.out.mono ?_;rintro e w1 ⟨rfl,b1⟩;have HSM:=ad (A7 (.slice aa ps.length ac) ps w1 (HA.out.next b1));have HB1:=ad b1;clear HSH b1;go_wp2_with fail;refine HSM.out.mono ?_;rintro e w2 ⟨rfl,b2⟩;have HB2:=ad (Below.up HB1.out ab b2);have HFT:=ad (uP (.slice ra qs.length rc) qs w2 (HR.out.next HB2.out));clear HSM HB1 b2;go_wp2_with fail;refine HFT.out.mono ?_;rintro e w3 ⟨rfl,b3⟩;have HB3:=ad (Below.up HB2.out ab b3);have HBG:=ad (show Calls prog 8 #[.int .i64 2,.int .i64 1000] w3 _ from sU 2 (.inr rfl) 1000 ⟨by decide,by decide⟩ w3 (HE.out.next HB3.out));clear HFT HB2 b3;go_wp2_with fail;refine HBG.out.mono ?_;rintro e w4 ⟨xb,l,na,nc,dv,kn,rfl,hl,hkn,hko,hch⟩;obtain⟨n1,n2,rfl⟩:∃n1 n2,l=[n1,n2]:=by
  match l,hl with
  |[n1,n2],_=>exact⟨n1,n2,rfl⟩
 have HB4:=ad (Below.up HB3.out ab hch.below);obtain⟨c0,hca,rfl,hcv,rfl,rfl,rfl,hcl,hq⟩:=hch.LS hko;rw[<-hcv]at hkn;have hkn:=hkn.e;obtain⟨kb,ko,nc,hnv⟩:=hq.row hkn;have hN4:=hq.wT hkn hnv;obtain⟨c,hc⟩:∃c:Net,({c0 with kn:=c0.kn++oj w4.heap.size}:Net)=c:=⟨_,rfl⟩;have hqU:=hq.K5;have hkU:=hkn.more (oj w4.heap.size);have e1:c0.a=c.a:=by rw[<-hc]
 have e2:c0.xb=c.xb:=by rw[<-hc]
 have e3:c0.nv=c.nv:=by rw[<-hc]
 have e4:c0.x1=c.x1:=by rw[<-hc]
 have e5:c0.x2=c.x2:=by rw[<-hc]
 have e6:c0.ls=c.ls:=by rw[<-hc]
 have HUP:=ad (show ∀p∈oj w4.heap.size,p∈c.kn from fun p hp=>by rw[<-hc];exact aD _ hp);have hkc:c0.kn++oj w4.heap.size=c.kn:=by rw[<-hc]
 rw[hc]at hqU;rw[e3,e4,e5,hkc]at hkU;have s0:w4.cell? ⟨c0.xb,0,none⟩=some (.slice (some ⟨kb,ko,none⟩) 2 nc):=hN4.1;have s1:w4.cell? ⟨kb,ko+1,none⟩=some (.pointer (some ⟨c0.x2.nb,0,none⟩)):=hN4.2.2.1;rw[e2]at s0;rw[e5]at s1;rw[e3]at hnv;rw[e1]at hca;rw[e6]at hcl;rw[e2];have HAA:=ad (show jG c.a (.slice aa ps.length ac) ps by rw[hca];exact HA.out.next HB3.out);have HRR:=ad (show kU c.a (.slice ra qs.length rc) qs by rw[hca];exact HR.out.next HB3.out);have HKN:=ad (aB hkU hnv);have HQU:=ad hqU;have HCA:=ad (aB hca hcl);clear HBG hl hkn hko hch hca hcv hcl hq hnv hqU hkU hkc hc e1 e2 e3 e4 e5 e6 hN4 HA HR;cases hsm:gm ps with
 |false =>
  go_wp2;go_ret;exact⟨rfl,HB4.out⟩
 |true =>
  cases hft:gp (ag qs)with
  |false =>
   go_wp2;go_ret;exact⟨rfl,HB4.out⟩
  |true =>
   have HSL:=ad (xR hsm);have HFI:=ad (Iv HRR.out hft);by_cases hq8:(8:Int)<(qs.length:Int)
   ·go_wp2;go_ret;exact⟨rfl,HB4.out⟩
   by_cases hu0:ep<0
   ·go_wp2;go_ret;exact⟨rfl,HB4.out⟩
   by_cases hu1:274877906944<ep
   ·go_wp2;go_ret;exact⟨rfl,HB4.out⟩
   have HU:=ad (show 0<=ep/\ep<=274877906944 by omega);clear hsm hft HB4 HRR;go_wp2_with fail
   go_loopw [15] (fun iv wr=>∃(i:Nat) (L:List Evt.Entry) (H:List (Int×Value)),iv=.int .i64 i/\i<=ps.length/\L.length<=i/\H.length<=i/\Hid (Quiet c L H wr)) (fun iv _=>ps.length-(intOf iv).toNat)
   case atStart=>exact⟨0,[],[],rfl,by omega,by simp,by simp,HQU⟩
   case round =>
    obtain⟨i,L,H,rfl,hi,hLi,hHi,HQ⟩:=hrel;obtain⟨wz,rfl⟩:∃wz,wz=wr:=⟨_,rfl⟩;clear HQU s0 s1;by_cases hp:i<ps.length
    ·have hip:(i:Int)<(ps.length:Int):=by omega
     have hw1:wrap64 ((i:Int)+1)=(i:Int)+1:=IntWalk.wrap64_in _ (by have:=HSL.out.1;omega);have HI:=ad (aB hi (aB hp (aB hLi (aB hHi HSL.out.1))));obtain⟨⟨S,ex,se,sq,es,rd,fr,ev⟩,hx⟩:∃x,ps[i]=x:=⟨_,rfl⟩;have hN:=HQ.out.wT HKN.out.1 HKN.out.2;obtain⟨b,f,cc,hv,k0,k1,k2,k3,k4,_,_,hA⟩:=vW (HAA.out.next hN.2.2.2) i hp hx;cases hv;have hA2:=HAA.out.2 ps[i] (List.getElem_mem hp);rw[hx]at hA2;obtain⟨sa,sl,sc,hev⟩:=ee hA2.1;have hev:ev=.slice sa sl sc:=hev;subst hev;have hsm:=HSL.out.2 ps[i] (List.getElem_mem hp);rw[hx]at hsm;obtain⟨FR,hFR⟩:∃FR,IntKind.i64.wrap (1000+se)=FR:=⟨_,rfl⟩;have HTK:=ad (fun (Z:World) (hZ:Quiet c L H Z)=>C8 (id:=1) (ex:=ex) (se:=se) (sq:=sq) (fr:=FR) (now:=0) hZ (by have:=HI.out;omega) (show S.size<=1000000 from by have:=hsm.1;simp only at this;omega) hA2.1 (by have:=hsm.2.1;simp only at this;omega) hsm.2.2 ⟨by decide,by decide⟩ (fun hf=>by
      have hz:=(Evt.fw se).1 (Evt.iI hf).2.2.1;rw[<-hFR,IntKind.wrap_i64];omega))
     have HSY:=ad (fun (v:Value) (Z:World) (hZ:GK c L H v Z)=>G6 hZ (by have:=HI.out;omega));have HKC:=ad (fun (Z:World) (hZ:Below c.a.heap.size c.a Z)=>(show Z.cell? ⟨b,f+i*7,none⟩=some (.string S)/\Z.cell? ⟨b,f+i*7+1,none⟩=some (.int .i64 ex)/\Z.cell? ⟨b,f+i*7+2,none⟩=some (.int .i64 se)/\Z.cell? ⟨b,f+i*7+3,none⟩=some (.int .i64 sq)/\Z.cell? ⟨b,f+i*7+4,none⟩=some (.slice sa sl sc)from by
      obtain⟨b2,f2,c2,hv2,r0,r1,r2,r3,r4,_,_,_⟩:=vW (HAA.out.next hZ) i hp hx;cases hv2;exact⟨r0,r1,r2,r3,r4⟩))
     have HSS:=ad (fun (Z:World) (hZ:wh c kb ko nc Z)=>(show Z.cell? ⟨c.xb,0,none⟩=some (.slice (some ⟨kb,ko,none⟩) 2 nc)/\Z.cell? ⟨kb,ko,none⟩=some (.pointer (some ⟨c.x1.nb,0,none⟩))/\Z.cell? ⟨b,f+i*7,none⟩=some (.string S)/\Z.cell? ⟨b,f+i*7+1,none⟩=some (.int .i64 ex)/\Z.cell? ⟨b,f+i*7+2,none⟩=some (.int .i64 se)/\Z.cell? ⟨b,f+i*7+3,none⟩=some (.int .i64 sq)/\Z.cell? ⟨b,f+i*7+4,none⟩=some (.slice sa sl sc)from⟨hZ.1,hZ.2.1,HKC.out Z hZ.2.2.2⟩));have HQD:=ad (HQ.out.next (ae wz.heap.size wz).drew);have s0:=HSS.out wz hN;have s1:=HSS.out wz.drew (HQD.out.wT HKN.out.1 HKN.out.2);clear hx hA hA2 hsm hi hp hLi hHi hN k0 k1 k2 k3 k4 HQ;go_upto_region 12 with fail;go_cut [] (fun wx=>Hid (GN c L H wx))
     case first =>
      go_region_held3 (fun Z=>Z.cell? ⟨c.xb,0,none⟩=some (.slice (some ⟨kb,ko,none⟩) 2 nc)/\Z.cell? ⟨kb,ko,none⟩=some (.pointer (some ⟨c.x1.nb,0,none⟩))/\Z.cell? ⟨b,f+i*7,none⟩=some (.string S)/\Z.cell? ⟨b,f+i*7+1,none⟩=some (.int .i64 ex)/\Z.cell? ⟨b,f+i*7+2,none⟩=some (.int .i64 se)/\Z.cell? ⟨b,f+i*7+3,none⟩=some (.int .i64 sq)/\Z.cell? ⟨b,f+i*7+4,none⟩=some (.slice sa sl sc))
       (first|with_reducible exact s0|with_reducible exact s1|with_reducible exact s5|with_reducible exact s6)
       (first
        |(go_at_call 10;refine(HTK.out _ HQD.out).mono ?_;rintro ed w5 ⟨v,rfl,hq⟩;have HTQ:=ad hq;have s5:=HSS.out w5 (hq.wT HKN.out.1 HKN.out.2);clear hq)
        |(go_at_call 9;refine(HSY.out _ _ HTQ.out).mono ?_;rintro ed w6 ⟨rfl,hx⟩;have HX:=ad (show GN c L H w6 from hx);have s6:=HSS.out w6 (HX.out.wT HKN.out.1 HKN.out.2);clear hx))
      all_goals go_wp2
      all_goals go_meet
      all_goals exact HX
     case rest =>
      have HAL:=ad (GH 0 HKN.out.1 hcut.out (by have:=HI.out;omega) (by have:=HI.out;omega));clear hcut HTK HSY HKC HSS HQD s0 s1;go_wp2_with fail;refine HAL.out.mono ?_;rintro ed w7 ⟨rfl,L',H',h1,h2,h3⟩;have HQ3:=ad h3;have HLE:=ad (aB h1 h2);clear HAL h1 h2 h3;go_wp2;try rw[hw1]
      exact⟨⟨i+1,L',H',rfl,HI.out.2.1,by have:=HI.out;have:=HLE.out;omega,by have:=HI.out;have:=HLE.out;omega,HQ3⟩,fU HI.out.2.1⟩
    ·have hpi:¬(i:Int)<(ps.length:Int):=by omega
     have HI:=ad (aB hLi hHi);have HIL:=ad (show i<=40 by have:=HSL.out.1;omega);clear hi hp hLi hHi;have HLL:=ad (show L.length<=40 by have:=HI.out;have:=HIL.out;omega);obtain⟨R,fs,nx,nu,hR,hg,hF⟩:=HQ.out.Mc HLL.out;have hup:∀p∈oj w4.heap.size,wz.heap[p.1]?=some p.2:=fun p hp=>HQ.out.kept (HUP.out p hp);have hub:=hup (w4.heap.size+1+1+1,.cells #[.int .i64 5,.slice (some ⟨w4.heap.size,0,none⟩) 3 3,.slice (some ⟨w4.heap.size+1,0,none⟩) 3 3,.slice (some ⟨w4.heap.size+1+1,0,none⟩) 3 3] 47 (0,0)) (by simp[oj]);have v0:wz.cell? ⟨w4.heap.size+1+1+1,0,none⟩=some (.int .i64 5):=aq hub rfl;have v1:wz.cell? ⟨w4.heap.size+1+1+1,1,none⟩=some (.slice (some ⟨w4.heap.size,0,none⟩) 3 3):=aq hub rfl;have v2:wz.cell? ⟨w4.heap.size+1+1+1,2,none⟩=some (.slice (some ⟨w4.heap.size+1,0,none⟩) 3 3):=aq hub rfl;have v3:wz.cell? ⟨w4.heap.size+1+1+1,3,none⟩=some (.slice (some ⟨w4.heap.size+1+1,0,none⟩) 3 3):=aq hub rfl;have hTV:=JP gG (Kb w4.heap.size) 0 (Ka hup) EV (show(cy 2).ep<5 by decide) (show(1:Int)<5 by decide) (by decide) (show 0<=place gG 2 by decide) (show since gG 2=1 by decide) (by decide) hF hR hg;rw[show dw gG (Kb w4.heap.size)=.agg #[.int .i64 5,.slice (some ⟨w4.heap.size,0,none⟩) 3 3,.slice (some ⟨w4.heap.size+1,0,none⟩) 3 3,.slice (some ⟨w4.heap.size+1+1,0,none⟩) 3 3]from rfl]at hTV;have HTV:=ad hTV;have HRS:=ad hR;clear hTV hF hg hR hup hub HQ HI HIL;go_wp2_with fail;refine HTV.out.mono ?_;rintro ed w5 ⟨v5,rfl,f2,hg2,h5⟩;have HG2:=ad (show Good f2 nx nu L gG 2 5 (1+1)from hg2);have HLG:=ad (KI h5 HRS.out HLL.out);clear HTV h5 v0 v1 v2 v3 hg2;go_wp2_with fail;refine HLG.out.mono ?_;rintro ed w6 ⟨va,q0,vc,rfl,HP0,HF6⟩;have HR6:=ad (fi HRS.out (.slice va q0.length vc) q0);have HCM:=ad (rn HF6.out);clear HLG;go_wp2_with fail;refine HCM.out.mono ?_;rintro ed w7 ⟨rfl,b7⟩;have HF7:=ad (bB.next HF6.out HR6.out b7);obtain⟨ap,hap⟩:∃ap,(dI L).app=ap:=⟨_,rfl⟩;rw[hap];have HAP:=ad hap;have HFE:=ad (Ai HF7.out HG2.out);clear HCM HF6 b7 hap;go_wp2_with fail;refine HFE.out.mono ?_;rintro ed w8 ⟨rfl,b8⟩;have HF8:=ad (bB.next HF7.out HR6.out b8);have HVW:=ad (tz HF8.out HG2.out);clear HFE HF7 b8;go_wp2_with fail;refine HVW.out.mono ?_;rintro ed w9 ⟨a1,l1,c1,a2,l2,c2,a3,l3,c3,rfl,b9⟩;rw[show gG.ep=5 from rfl];have hfv:=fun (w:World)=>py 5 a1 a2 a3 l1 c1 l2 c2 l3 c3 w;have HF9:=ad (bB.next HF8.out HR6.out b9);have HLS:=ad (tA HF9.out);clear HVW HF8 b9;go_wp2_with fail;refine HLS.out.mono ?_;rintro ed w10 ⟨rfl,b10⟩;have HF10:=ad (bB.next HF9.out HR6.out b10);have HPK:=ad (DF fm 5 w10 HFM.out.1 HFM.out.2 (by decide) (by decide));clear HLS HF9 b10;go_wp2_with fail;refine HPK.out.mono ?_;rintro ed w11 ⟨⟨kw,rfl,hkw⟩,rfl⟩;have HKW:=ad hkw;clear HPK hkw;go_upto_if 125 with fail;go_cut [18] (fun v wx=>∃who:Int,v=.int .i64 who/\(0<=who/\who<=4)/\(ep=5->who=4)/\Hid (Fr (cn R (.slice va q0.length vc) q0) c.a c.x2.nb c.x2.lg c.x2.sb c.x2.d c.x2.r f2 nx nu L gG 2 0 c.xb c.nv c.dv c.kn H [] [] wx))
     case first =>
      by_cases h5:ep=5
      ·have h5b:(ep==5)=true:=by rw[h5];rfl
       go_wp2;go_meet;exact⟨4,rfl,by omega,fun _=>rfl,HF10⟩
      ·have h5b:(ep==5)=false:=by rw[beq_eq_false_iff_ne];exact h5
       go_wp2;go_meet;exact⟨_,rfl,by have:=HKW.out;omega,fun e=>absurd e h5,HF10⟩
     case rest =>
      obtain⟨who,rfl,hwho,hw5,HFC⟩:=hcut;have HWH:=ad (aB hwho hw5);clear HF10 HKW hwho hw5;obtain⟨wq,rfl⟩:∃wq,wq=wc:=⟨_,rfl⟩;go_wp2_with fail;have HFS:=ad (show Fr (cn R (.slice va q0.length vc) q0) c.a c.x2.nb c.x2.lg c.x2.sb c.x2.d c.x2.r f2 nx nu L gG 2 0 c.xb c.nv c.dv (c.kn++jw ep who ra qs.length rc wq.heap.size) H [] [] (Dm ep who ra qs.length rc wq)from bB.Gs HFC.out HR6.out (Bc ep who ra qs.length rc wq) (G' ep who ra qs.length rc wq));have HSM:∀p∈jw ep who ra qs.length rc wq.heap.size,p∈c.kn++jw ep who ra qs.length rc wq.heap.size:=fun p hp=>aD _ hp;clear HFC
      go_loopw [20] (fun iv wr=>∃j:Nat,iv=.int .i64 j/\j<=7/\Hid (Fr (cn R (.slice va q0.length vc) q0) c.a c.x2.nb c.x2.lg c.x2.sb c.x2.d c.x2.r f2 nx nu L gG 2 0 c.xb c.nv c.dv (c.kn++jw ep who ra qs.length rc wq.heap.size) H [] [] wr)) (fun iv _=>7-(intOf iv).toNat)
      case atStart=>exact⟨0,rfl,by omega,HFS⟩
      case round =>
       obtain⟨j,rfl,hj,HF⟩:=hrel;obtain⟨wy,rfl⟩:∃wy,wy=wr:=⟨_,rfl⟩;clear HFS;by_cases hj7:j<7
       ·have hjj:(j:Int)<7:=by omega
        have hj0:(0:Int)<=(j:Int):=by omega
        have hw1:wrap64 ((j:Int)+1)=(j:Int)+1:=IntWalk.wrap64_in _ (by omega);have hk:∀p∈jw ep who ra qs.length rc wq.heap.size,wy.heap[p.1]?=some p.2:=fun p hp=>bB.kept HF.out (HSM p hp);have hm:=Fo hk hj7;have HMC:=ad hm;by_cases hs:j=6/\ep=5
        ·obtain⟨rfl,rfl⟩:=hs;go_wp2;try rw[hw1]
         exact⟨⟨6+1,rfl,by omega,HF⟩,fU hj7⟩
        ·have HTK:=ad (Iw (i:=j) HU.out HWH.out.1 HWH.out.2 hj7 (fun e e2=>hs ⟨e,e2⟩) HF.out.env (HFI.out.1.next HF.out.below) HFI.out.2 (Jp hk) HF.out HR6.out HG2.out);have HFH:=ad (aB HF.out hs);have HJ:=ad (aB hj hj7);clear hk HF hj hj7 hm;by_cases h6:j=6
         ·have h5b:(ep==5)=false:=by rw[beq_eq_false_iff_ne];exact fun e=>hs ⟨h6,e⟩
          have h6b:((j:Int)==6)=true:=by rw[h6];rfl
          have hm:=HMC.out;clear HMC hs h6;go_wp2_with fail;refine HTK.out.mono ?_;rintro ed w12 ⟨oa,oc,rfl,h12⟩;have HF12:=ad h12;have HLS2:=ad (tA HF12.out);clear HTK h12 hm HFH;go_wp2_with fail;refine HLS2.out.mono ?_;rintro ed w13 ⟨rfl,b13⟩;have HF13:=ad (bB.next HF12.out HR6.out b13);have HVW2:=ad (tz HF13.out HG2.out);clear HLS2 b13 HF12;go_wp2_with fail;refine HVW2.out.mono ?_;rintro ed w14 ⟨a1,l1,c1,a2,l2,c2,a3,l3,c3,rfl,b14⟩;rw[show gG.ep=5 from rfl];have hfv:=fun (w:World)=>py 5 a1 a2 a3 l1 c1 l2 c2 l3 c3 w;have HF14:=ad (bB.next HF13.out HR6.out b14);have HCM2:=ad (rn HF14.out);clear HVW2 b14 HF13;go_wp2_with fail;refine HCM2.out.mono ?_;rintro ed w15 ⟨rfl,b15⟩;rw[HAP.out];have HF15:=ad (bB.next HF14.out HR6.out b15);have HLG2:=ad (CH HF15.out HR6.out HLL.out);clear HCM2 b15 HF14;go_wp2_with fail;refine HLG2.out.mono ?_;rintro ed w16 ⟨vb,q1,vd,rfl,HP1,HE1,b16⟩;have HF16:=ad (bB.next HF15.out HR6.out b16);have HSR:=ad (qz (.slice vb q1.length vd) (.slice va q0.length vc) q1 q0 w16 HE1.out (Fr.cr HF16.out) (HP1.out.trans HP0.out.symm) (by have h1:=congrArg List.length HP1.out;rw[qL]at h1;have:=HLL.out;omega));clear HLG2 b16 HF15;go_wp2_with fail;refine HSR.out.mono ?_;rintro ed w17 ⟨rfl,b17⟩;have HF17:=ad (bB.next HF16.out HR6.out b17);clear HSR b17 HF16;go_wp2;try rw[hw1]
          exact⟨⟨j+1,rfl,HJ.out.2,HF17⟩,fU HJ.out.2⟩
         ·have h6b:((j:Int)==6)=false:=by rw[beq_eq_false_iff_ne];omega
          have hm:=HMC.out;clear HMC hs h6;go_wp2_with fail;refine HTK.out.mono ?_;rintro ed w12 ⟨oa,oc,rfl,h12⟩;have HF12:=ad h12;have HLS2:=ad (tA HF12.out);clear HTK h12 hm HFH;go_wp2_with fail;refine HLS2.out.mono ?_;rintro ed w13 ⟨rfl,b13⟩;have HF13:=ad (bB.next HF12.out HR6.out b13);have HVW2:=ad (tz HF13.out HG2.out);clear HLS2 b13 HF12;go_wp2_with fail;refine HVW2.out.mono ?_;rintro ed w14 ⟨a1,l1,c1,a2,l2,c2,a3,l3,c3,rfl,b14⟩;rw[show gG.ep=5 from rfl];have hfv:=fun (w:World)=>py 5 a1 a2 a3 l1 c1 l2 c2 l3 c3 w;have HF14:=ad (bB.next HF13.out HR6.out b14);have HCM2:=ad (rn HF14.out);clear HVW2 b14 HF13;go_wp2_with fail;refine HCM2.out.mono ?_;rintro ed w15 ⟨rfl,b15⟩;rw[HAP.out];have HF15:=ad (bB.next HF14.out HR6.out b15);have HLG2:=ad (CH HF15.out HR6.out HLL.out);clear HCM2 b15 HF14;go_wp2_with fail;refine HLG2.out.mono ?_;rintro ed w16 ⟨vb,q1,vd,rfl,HP1,HE1,b16⟩;have HF16:=ad (bB.next HF15.out HR6.out b16);have HSR:=ad (qz (.slice vb q1.length vd) (.slice va q0.length vc) q1 q0 w16 HE1.out (Fr.cr HF16.out) (HP1.out.trans HP0.out.symm) (by have h1:=congrArg List.length HP1.out;rw[qL]at h1;have:=HLL.out;omega));clear HLG2 b16 HF15;go_wp2_with fail;refine HSR.out.mono ?_;rintro ed w17 ⟨rfl,b17⟩;have HF17:=ad (bB.next HF16.out HR6.out b17);clear HSR b17 HF16;go_wp2;try rw[hw1]
          exact⟨⟨j+1,rfl,HJ.out.2,HF17⟩,fU HJ.out.2⟩
       ·have hjj:¬(j:Int)<7:=by omega
        have HFE2:=ad (Ai HF.out HG2.out);have HFH:=ad HF.out;clear HF hj7;go_wp2_with fail;refine HFE2.out.mono ?_;rintro ed w18 ⟨rfl,b18⟩;have HBF:=ad (Below.up HB3.out ab (show Below w3.heap.size w3 w18 by rw[<-HCA.out.1];exact Fr.below (bB.next HFH.out HR6.out b18)));clear HFE2 b18;go_wp2;go_ret;exact⟨rfl,HBF.out⟩
end Go.Proofs.YtmgmknmaepjnoaaGreatDoor
