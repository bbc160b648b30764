/-
  The walk of the law package 21's NodeLeases.
-/
import Derived.Test.YtmgmknmaepjnoaaGreatDoorLaK
namespace Go.Proofs.YtmgmknmaepjnoaaGreatDoor
open Proofs.Tryz
open Go.RowKit Go.Shelf Go.Sort
theorem wR {ps:List gF} (h:fV ps=true):ps.length≤40∧∀p∈ps,p.s.size≤300∧p.es.length≤20∧Small p.es:=by
 unfold fV at h
 simp only[Bool.and_eq_true,decide_eq_true_eq,List.all_eq_true,gI,ky]at h
 refine⟨h.1,fun p hp=>?_⟩
 have h2:=(h.2 p hp).2 p.en (by simp)
 simp only[gF.en]at h2
 refine⟨by have:=h2.1.1;rw[Lib.size_eq];simpa using this,h2.1.2,fun e he=>?_⟩
 have h3:=h2.2 e he
 unfold nH at h3
 simp only[Bool.and_eq_true,decide_eq_true_eq]at h3
 omega
def LG (c:Net) (L:List Evt.Entry) (k:Nat) (w:World):Prop:=Below c.a.heap.size c.a w∧(k<2→∃R x fs nx nu H,aB c.a R∧Good fs nx nu L (cj 2) ((k:Int)+1) 1 1∧Fr R c.a (NS.nb x) x.lg x.sb x.d x.r fs nx nu L (cj 2) ((k:Int)+1) 0 c.xb c.nv c.dv c.kn H [] [] w∧((k=0∧x=c.x1∧∃y2:ND,y2.ok L L∧R=c.lL y2)∨(k=1∧x=c.x2)))
theorem Hi {fs:List Dk.ah} {nx:Int} {nu:List Int} {L:List Evt.Entry} {k:Nat} (h:Lg.ey et 1 1 fs nx nu L) (hk:k<2) (hl:L.length≤40):Good fs nx nu L (cj 2) ((k:Int)+1) 1 1:=⟨h,iM 2,(mN (.inr rfl) hk).1,(mN (.inr rfl) hk).2.1,hl⟩
theorem LG.start {c:Net} {L:List Evt.Entry} {H:List (Int×Value)} {w:World} (h:Quiet c L H w) (hc:c.ls=0) (hl:L.length≤40):LG c L 0 w:=by
 obtain⟨y1,y2,⟨h1,h1L,h1p⟩,h2,hL⟩:=h
 obtain⟨P,g1,g2,g3⟩:=hL
 refine⟨g3.below,fun _=>⟨c.lL y2,c.x1,y1.fs,y1.nx,y1.nu,H,cn,Hi h1 (by omega) hl,⟨P,g1,g2,?_⟩,.inl ⟨rfl,rfl,y2,h2,rfl⟩⟩⟩
 have e:c.n1=fX 1 c.x1.d c.x1.r (cj 2) 0:=by unfold Net.n1;rw[hc]
 have e2:y1.s=Lg.aI y1.nx y1.nu L:=by unfold ND.s;rw[h1L]
 rw[e,e2,h1p]at g3
 exact g3
theorem LG.step {c:Net} {L:List Evt.Entry} {k:Nat} {w:World} {R:(Nat→Prop)→(Nat→Prop)→World→Prop} {x:NS} {fs:List Dk.ah} {nx:Int} {nu:List Int} {V:Vw} {id ls:Int} {H:List (Int×Value)} (h:Fr R c.a x.nb x.lg x.sb x.d x.r fs nx nu L V id ls c.xb c.nv c.dv c.kn H [] [] w) (hc:c.ls=0) (hl:L.length≤40) (hx:(k=0∧x=c.x1∧∃y2:ND,y2.ok L L∧R=c.lL y2)∨(k=1∧x=c.x2)):LG c L (k+1) w:=by
 have hb:Below c.a.heap.size c.a w:=by obtain⟨P,g1,g2,g3⟩:=h;exact g3.below
 rcases hx with⟨rfl,rfl,y2,⟨h2,h2L,h2p⟩,rfl⟩|⟨rfl,rfl⟩
 ·refine⟨hb,fun _=>⟨gO c.a c.x1.nb c.x1.lg c.x1.sb 4194304 (Lg.aI nx nu L) fs (dH L) (fX id c.x1.d c.x1.r V ls),c.x2,y2.fs,y2.nx,y2.nu,H,cn,Hi h2 (by omega) hl,?_,.inr ⟨rfl,rfl⟩⟩⟩
  have e:c.n2=fX 2 c.x2.d c.x2.r (cj 2) 0:=by unfold Net.n2;rw[hc]
  have e2:y2.s=Lg.aI y2.nx y2.nu L:=by unfold ND.s;rw[h2L]
  have h3:cu (gO c.a c.x2.nb c.x2.lg c.x2.sb 4194304 y2.s y2.fs (dH y2.Lp) c.n2) c.a c.x1.nb c.x1.lg c.x1.sb 4194304 (Lg.aI nx nu L) fs (dH L) (fX id c.x1.d c.x1.r V ls) c.xb c.nv c.dv c.kn H [] [] [] w:=h
  have h4:=h3.swap
  rw[e,e2,h2p]at h4
  exact h4
 ·exact⟨hb,fun hk=>by omega⟩
theorem qO {W:World} {g:Nat} {x y:Int} (h:W.heap[g]?=some (.cells #[.int .i64 x,.int .i64 y] 3 (0,0))):Cells W (.slice (some ⟨g,0,none⟩) 2 2) 1 2 (aD [x,y]) :=
 ⟨rfl,.inr ⟨g,0,2,rfl,fun j u hj=>by rw[Nat.zero_add,aw h];simpa[aD]using hj⟩⟩
set_option maxHeartbeats 64000000 in
set_option maxRecDepth 100000 in
theorem uG (v:Value) (ps:List gF) (un now:Int) (up:Bool) (w:World) (hE:Env w) (hs:jn w v ps) :
 Calls prog 3 #[v,.int .i64 un,.int .i64 now,.bool up] w fun e w'=>e=.returned (.bool true)∧Below w.heap.size w w':=by
 obtain⟨aa,ac,rfl⟩:=um hs.1
 have HSH:=ad (Ab w hE)
 have HE:=ad hE
 have HA:=ad hs
 clear hE hs
 go_enter func3,ntmps3
 go_wp2_with fail
 refine HSH.out.mono ?_
 rintro e w1 ⟨rfl,b1⟩
 have HSM:=ad (Aa (.slice aa ps.length ac) ps w1 (HA.out.next b1))
 have HB1:=ad b1
 clear HSH b1
 go_wp2_with fail
 refine HSM.out.mono ?_
 rintro e w2 ⟨rfl,b2⟩
 have HB2:=ad (Below.up HB1.out ab b2)
 have HBG:=ad (show Calls prog 8 #[.int .i64 2,.int .i64 0] w2 _ from rU 2 (.inr rfl) 0 ⟨by decide,by decide⟩ w2 (HE.out.next HB2.out))
 clear HSM HB1 b2
 go_wp2_with fail
 refine HBG.out.mono ?_
 rintro e w3 ⟨xb,l,na,nc,dv,kn,rfl,hl,hkn,hko,hch⟩
 obtain⟨n1,n2,rfl⟩:∃n1 n2,l=[n1,n2]:=by
  match l,hl with
  |[n1,n2],_=>exact⟨n1,n2,rfl⟩
 have HB3:=ad (Below.up HB2.out ab hch.below)
 obtain⟨c,hca,rfl,hcv,rfl,rfl,rfl,hcl,hq⟩:=hch.Ks hko
 rw[←hcv]at hkn
 obtain⟨kb,ko,nc,hnv⟩:=hq.row hkn
 have HAA:=ad (show jn c.a (.slice aa ps.length ac) ps by rw[hca];exact HA.out.next HB2.out)
 have HKN:=ad (aC hkn hnv)
 have HQ0:=ad hq
 have HCA:=ad (aC hca hcl)
 clear HBG hl hkn hko hch hca hcv hcl hq hnv
 cases hsm:fV ps with
 |false =>
  go_wp2
  go_ret
  exact⟨rfl,HB3.out⟩
 |true =>
  have HSL:=ad (wR hsm)
  by_cases hu0:un<0
  ·go_wp2
   go_ret
   exact⟨rfl,HB3.out⟩
  by_cases hu1:274877906944<un
  ·go_wp2
   go_ret
   exact⟨rfl,HB3.out⟩
  by_cases hn0:now<0
  ·go_wp2
   go_ret
   exact⟨rfl,HB3.out⟩
  have HU:=ad (show(0≤un∧un≤274877906944)∧0≤now by omega)
  clear hsm HB3
  go_wp2_with fail
  go_loopw [12] (fun iv wr=>∃(i:Nat) (L:List Evt.Entry) (H:List (Int×Value)),iv=.int .i64 i∧i≤ps.length∧L.length≤i∧H.length≤i∧Hid (Quiet c L H wr)) (fun iv _=>ps.length-(intOf iv).toNat)
  case atStart=>exact⟨0,[],[],rfl,by omega,by simp,by simp,HQ0⟩
  case round =>
   obtain⟨i,L,H,rfl,hi,hLi,hHi,HQ⟩:=hrel
   obtain⟨wz,rfl⟩:∃wz,wz=wr:=⟨_,rfl⟩
   clear HQ0
   by_cases hp:i<ps.length
   ·have hip:(i:Int)<(ps.length:Int):=by omega
    have hw1:wrap64 ((i:Int)+1)=(i:Int)+1:=IntWalk.wrap64_in _ (by have:=HSL.out.1;omega)
    have HI:=ad (aC hi (aC hp (aC hLi (aC hHi HSL.out.1))))
    obtain⟨⟨S,ex,se,sq,es,rd,fr,ev⟩,hx⟩:∃x,ps[i]=x:=⟨_,rfl⟩
    have hN:=HQ.out.yK HKN.out.1 HKN.out.2
    obtain⟨b,f,cc,hv,k0,k1,k2,k3,k4,_,_,hA⟩:=q_u9 (HAA.out.next hN.2.2.2) i hp hx
    cases hv
    have hA2:=HAA.out.2 ps[i] (List.getElem_mem hp)
    rw[hx]at hA2
    obtain⟨sa,sl,sc,hev⟩:=eS hA2.1
    have hev:ev=.slice sa sl sc:=hev
    subst hev
    have hsm:=HSL.out.2 ps[i] (List.getElem_mem hp)
    rw[hx]at hsm
    obtain⟨FR,hFR⟩:∃FR,IntKind.i64.wrap (1000+se)=FR:=⟨_,rfl⟩
    have HTK:=ad (fun (Z:World) (hZ:Quiet c L H Z)=>Cb (id:=1) (ex:=ex) (se:=se) (sq:=sq) (fr:=FR) (now:=0) hZ (by have:=HI.out;omega) (show S.size≤1000000 from by have:=hsm.1;simp only at this;omega) hA2.1 (by have:=hsm.2.1;simp only at this;omega) hsm.2.2 ⟨by decide,by decide⟩ (fun hf=>by
     have hz:=(Evt.fj se).1 (Evt.iD hf).2.2.1
     rw[←hFR,IntKind.wrap_i64]
     omega))
    have HSY:=ad (fun (v:Value) (Z:World) (hZ:Fv c L H v Z)=>FU hZ (by have:=HI.out;omega))
    have HKC:=ad (fun (Z:World) (hZ:Below c.a.heap.size c.a Z)=>(show Z.cell? ⟨b,f+i*7,none⟩=some (.string S)∧Z.cell? ⟨b,f+i*7+1,none⟩=some (.int .i64 ex)∧Z.cell? ⟨b,f+i*7+2,none⟩=some (.int .i64 se)∧Z.cell? ⟨b,f+i*7+3,none⟩=some (.int .i64 sq)∧Z.cell? ⟨b,f+i*7+4,none⟩=some (.slice sa sl sc)from by
     obtain⟨b2,f2,c2,hv2,r0,r1,r2,r3,r4,_,_,_⟩:=q_u9 (HAA.out.next hZ) i hp hx
     cases hv2
     exact⟨r0,r1,r2,r3,r4⟩))
    have HSS:=ad (fun (Z:World) (hZ:sQ c kb ko nc Z)=>(show Z.cell? ⟨c.xb,0,none⟩=some (.slice (some ⟨kb,ko,none⟩) 2 nc)∧Z.cell? ⟨kb,ko,none⟩=some (.pointer (some ⟨c.x1.nb,0,none⟩))∧Z.cell? ⟨b,f+i*7,none⟩=some (.string S)∧Z.cell? ⟨b,f+i*7+1,none⟩=some (.int .i64 ex)∧Z.cell? ⟨b,f+i*7+2,none⟩=some (.int .i64 se)∧Z.cell? ⟨b,f+i*7+3,none⟩=some (.int .i64 sq)∧Z.cell? ⟨b,f+i*7+4,none⟩=some (.slice sa sl sc)from⟨hZ.1,hZ.2.1,HKC.out Z hZ.2.2.2⟩))
    have HQD:=ad (HQ.out.next (ae wz.heap.size wz).drew)
    have s0:=HSS.out wz hN
    have s1:=HSS.out wz.drew (HQD.out.yK HKN.out.1 HKN.out.2)
    clear hx hA hA2 hsm hi hp hLi hHi hN k0 k1 k2 k3 k4 HQ
    go_upto_region 9 with fail
    go_cut [] (fun wx=>Hid (Fy c L H wx))
    case first =>
     go_region_held3 (fun Z=>Z.cell? ⟨c.xb,0,none⟩=some (.slice (some ⟨kb,ko,none⟩) 2 nc)∧Z.cell? ⟨kb,ko,none⟩=some (.pointer (some ⟨c.x1.nb,0,none⟩))∧Z.cell? ⟨b,f+i*7,none⟩=some (.string S)∧Z.cell? ⟨b,f+i*7+1,none⟩=some (.int .i64 ex)∧Z.cell? ⟨b,f+i*7+2,none⟩=some (.int .i64 se)∧Z.cell? ⟨b,f+i*7+3,none⟩=some (.int .i64 sq)∧Z.cell? ⟨b,f+i*7+4,none⟩=some (.slice sa sl sc))
      (first|with_reducible exact s0|with_reducible exact s1|with_reducible exact s5|with_reducible exact s6)
      (first
       |(go_at_call 10;refine(HTK.out _ HQD.out).mono ?_;rintro ed w5 ⟨v,rfl,hq⟩;have HTQ:=ad hq;have s5:=HSS.out w5 (hq.yK HKN.out.1 HKN.out.2);clear hq)
       |(go_at_call 9;refine(HSY.out _ _ HTQ.out).mono ?_;rintro ed w6 ⟨rfl,hx⟩;have HX:=ad (show Fy c L H w6 from hx);have s6:=HSS.out w6 (HX.out.yK HKN.out.1 HKN.out.2);clear hx))
     all_goals go_wp2
     all_goals go_meet
     all_goals exact HX
    case rest =>
     have HAL:=ad (Fq 0 HKN.out.1 hcut.out (by have:=HI.out;omega) (by have:=HI.out;omega))
     clear hcut HTK HSY HKC HSS HQD s0 s1
     go_wp2_with fail
     refine HAL.out.mono ?_
     rintro ed w7 ⟨rfl,L',H',h1,h2,h3⟩
     have HQ3:=ad h3
     have HLE:=ad (aC h1 h2)
     clear HAL h1 h2 h3
     go_wp2
     try rw[hw1]
     exact⟨⟨i+1,L',H',rfl,HI.out.2.1,by have:=HI.out;have:=HLE.out;omega,by have:=HI.out;have:=HLE.out;omega,HQ3⟩,fg HI.out.2.1⟩
   ·have hpi:¬(i:Int)<(ps.length:Int):=by omega
    have HI:=ad (aC hLi hHi)
    have HIL:=ad (show i≤40 by have:=HSL.out.1;omega)
    clear hi hp hLi hHi
    have HLG0:=ad (LG.start HQ.out HCA.out.2 (by have:=HI.out;have:=HIL.out;omega))
    have HLL:=ad (show L.length≤40 by have:=HI.out;have:=HIL.out;omega)
    clear HQ HI HIL
    go_wp2_with fail
    go_loopw [13] (fun iv wr=>∃k:Nat,iv=.int .i64 k∧k≤2∧Hid (LG c L k wr)) (fun iv _=>2-(intOf iv).toNat)
    case atStart=>exact⟨0,rfl,by omega,HLG0⟩
    case round =>
     obtain⟨k,rfl,hk,HLG⟩:=hrel
     obtain⟨wy,rfl⟩:∃wy,wy=wr:=⟨_,rfl⟩
     clear HLG0
     by_cases hk2:k<2
     ·have hkk:(k:Int)<2:=by omega
      have hk0:(0:Int)≤(k:Int):=by omega
      have hw1:wrap64 ((k:Int)+1)=(k:Int)+1:=IntWalk.wrap64_in _ (by omega)
      have HFV:=ad (mN (.inr rfl) hk2)
      obtain⟨R,x,fs,nx,nu,H2,hR,hg,hF,hcase⟩:=HLG.out.2 hk2
      have hN:sQ c kb ko nc wy:=by
       obtain⟨P,g1,g2,g3⟩:=hF
       exact uH HKN.out.1 HKN.out.2 (g3.bf (c.xb,cH c.nv c.dv H2 [] [] P) (by simp[aU])) (fun p hp=>g3.bf p (aJ _ (aK _ hp))) g3.below
      have n0:wy.cell? ⟨kb,ko+k,none⟩=some (.pointer (some ⟨x.nb,0,none⟩)):=by
       rcases hcase with⟨rfl,rfl,_⟩|⟨rfl,rfl⟩
       ·exact hN.2.1
       ·exact hN.2.2.1
      have x0:=hN.1
      have hT1:=zf un 0 HU.out.1 hF hR hg
      rw[show(cj 2).ep=1 from rfl]at hT1
      have HT1:=ad hT1
      have HC:=ad (aC hR (aC hg hcase))
      have HK2:=ad hk2
      clear hR hg hF hcase hN HLG hk hk2 hT1
      go_wp2_with fail
      refine HT1.out.mono ?_
      rintro ed w5 ⟨v5,rfl,h5⟩
      rw[show max (0:Int) un=un by have:=HU.out;omega]at h5
      have HT2:=ad (AT 2 274877906944 0 ⟨by decide,by decide⟩ ⟨by decide,by decide⟩ (show(2:Int)≠(cj 2).ep by decide) h5 HC.out.1 HC.out.2.1)
      clear HT1 h5 x0 n0
      go_wp2_with fail
      refine HT2.out.mono ?_
      rintro ed w6 ⟨v6,rfl,h6,_⟩
      have HT3:=ad (EY ((k:Int)+1) 1 274877906944 0 ⟨by omega,by omega⟩ ⟨by decide,by decide⟩ ⟨by decide,by decide⟩ (.inr ⟨by decide,HFV.out.1⟩) h6 HC.out.1 HC.out.2.1)
      clear HT2 h6
      go_wp2_with fail
      refine HT3.out.mono ?_
      rintro ed w7 ⟨v7,rfl,h7,_⟩
      have H7:=ad h7
      clear HT3 h7
      go_upto_if 105 with fail
      go_cut [] (fun wx=>∃f2 V2 E2 k2 l2,Hid (Good f2 nx nu L V2 ((k:Int)+1) E2 k2)∧Hid (Fr R c.a x.nb x.lg x.sb x.d x.r f2 nx nu L V2 ((k:Int)+1) l2 c.xb c.nv c.dv c.kn H2 [] [] wx)∧((up=true∧l2=0)∨(up=false∧l2=un)))
      case first =>
       cases up with
       |true =>
        have q1:(((w7.alloc (.cells #[.int .i64 1,.int .i64 2] 3)).alloc (.cells #[.int .i64 1,.int .i64 1] 3)).alloc (.cells #[.int .i64 0,.int .i64 0] 3)).heap[w7.heap.size]?=some (.cells #[.int .i64 1,.int .i64 2] 3 (0,0)):=ax (ay (ae _ _) _) ab (ax (ay (ae _ _) _) ab (heap_alloc_new w7 _))
        have q2:(((w7.alloc (.cells #[.int .i64 1,.int .i64 2] 3)).alloc (.cells #[.int .i64 1,.int .i64 1] 3)).alloc (.cells #[.int .i64 0,.int .i64 0] 3)).heap[w7.heap.size+1]?=some (.cells #[.int .i64 1,.int .i64 1] 3 (0,0)):=ax (ay (ae _ _) _) ab (newAt (heap_alloc_new _ _) (by simp))
        have q3:(((w7.alloc (.cells #[.int .i64 1,.int .i64 2] 3)).alloc (.cells #[.int .i64 1,.int .i64 1] 3)).alloc (.cells #[.int .i64 0,.int .i64 0] 3)).heap[w7.heap.size+1+1]?=some (.cells #[.int .i64 0,.int .i64 0] 3 (0,0)):=newAt (heap_alloc_new _ _) (by simp)
        have hTV:=ID ⟨2,[1,2],[1,1],[0,0]⟩ ⟨some ⟨w7.heap.size,0,none⟩,2,some ⟨w7.heap.size+1,0,none⟩,2,some ⟨w7.heap.size+1+1,0,none⟩,2⟩ 0 ⟨qO q1,qO q2,qO q3,Nat.le_refl 2⟩ (IT 2 ⟨by decide,by decide⟩) (show(cj 2).ep<2 by decide) (show(1:Int)<2 by decide) (by decide) (show 0≤place ⟨2,[1,2],[1,1],[0,0]⟩ ((k:Int)+1)from HFV.out.1) (show since ⟨2,[1,2],[1,1],[0,0]⟩ ((k:Int)+1)=1 from HFV.out.2.1) (by decide) (cu.next H7.out HC.out.1 (ay (ay (ay (ae _ w7) _) _) _)) HC.out.1 HC.out.2.1
        rw[show dS ⟨2,[1,2],[1,1],[0,0]⟩ ⟨some ⟨w7.heap.size,0,none⟩,2,some ⟨w7.heap.size+1,0,none⟩,2,some ⟨w7.heap.size+1+1,0,none⟩,2⟩=.agg #[.int .i64 2,.slice (some ⟨w7.heap.size,0,none⟩) 2 2,.slice (some ⟨w7.heap.size+1,0,none⟩) 2 2,.slice (some ⟨w7.heap.size+1+1,0,none⟩) 2 2]from rfl]at hTV
        have HTV:=ad hTV
        clear q1 q2 q3 hTV
        go_wp2_with fail
        refine HTV.out.mono ?_
        rintro ed w8 ⟨v8,rfl,f2,hg2,h8⟩
        have HG2:=ad hg2
        have H8:=ad h8
        clear HTV hg2 h8
        go_wp2
        go_meet
        exact⟨f2,_,_,_,0,HG2,H8,by simp⟩
       |false =>
        go_wp2
        go_meet
        exact⟨fs,_,_,_,un,ad HC.out.2.1,H7,by simp⟩
      case rest =>
       obtain⟨f2,V2,E2,k2,l2,HG2,HF2,hup⟩:=hcut
       obtain⟨P0,hx0,_⟩:=cu.heard HF2.out
       have y2:wc.cell? ⟨c.xb,2,none⟩=some (.slice P0.ha H2.length P0.hc):=au hx0 rfl
       have f2x:=az hx0 2
       have HRD:=ad (IE 3 now ⟨by decide,by decide⟩ (cu.Jf HF2.out HC.out.1) HC.out.1 HG2.out)
       have HUP:=ad hup
       clear H7 hx0 hup HF2
       go_wp2_with fail
       refine HRD.out.mono ?_
       rintro ed w9 ⟨v9,rfl,er,ve,va,n,vc,hcond,hrd⟩
       have HSY:=ad (Jl ((k:Int)+1) hrd HC.out.1)
       have HCO:=ad hcond
       clear HRD hrd hcond y2 f2x
       go_wp2_with fail
       try rw[hw1]
       refine HSY.out.mono ?_
       rintro ed w10 ⟨rfl,h10⟩
       have HAL:=ad (wE now h10 HC.out.1)
       clear HSY h10
       go_wp2_with fail
       refine HAL.out.mono ?_
       rintro ed w11 ⟨rfl,h11⟩
       obtain⟨P1,hx1,hc1⟩:=h11.heard
       have HRS:=ad (mi (H0:=[]) (by simp) hx1 hc1)
       have H11:=ad h11
       have HX1:=ad hx1
       clear HAL h11 hx1 hc1
       go_wp2_with fail
       refine HRS.out.mono ?_
       rintro ed w12 ⟨rfl,b12⟩
       have bA:Below w12.heap.size w12 (w12.alloc (.cells #[.int .i64 3,.int .i64 er,.int .i64 ve,.slice va n vc] 51)):=ay (ae _ _) _
       have b13:=Below.up b12 ab bA
       have hx2:=ax b13 ab HX1.out
       have hr2:=heap_alloc_new w12 (.cells #[.int .i64 3,.int .i64 er,.int .i64 ve,.slice va n vc] 51)
       have z2:(w12.alloc (.cells #[.int .i64 3,.int .i64 er,.int .i64 ve,.slice va n vc] 51)).cell? ⟨c.xb,2,none⟩=some (.slice P1.ha 1 P1.hc):=au hx2 rfl
       have HFIN:=ad (LG.step (k:=k) (cu.next H11.out HC.out.1 b13) HCA.out.2 HLL.out HC.out.2.2)
       have hk3:k+1≤2:=by have:=HK2.out;omega
       clear HRS b12 bA b13 hx2 H11 HX1 HC HG2
       have hfin:∀(wq:World),LG c L (k+1) wq→(∃k':Nat,Value.int .i64 ((k:Int)+1)=.int .i64 (k':Int)∧k'≤2∧Hid (LG c L k' wq)):=fun wq hq=>⟨k+1,rfl,hk3,ad hq⟩
       rcases HCO.out with⟨rfl,hlt⟩|⟨rfl,hle,rfl,rfl⟩
       ·rcases HUP.out with⟨rfl,rfl⟩|⟨rfl,rfl⟩
        ·exact absurd hlt (by have:=HU.out;omega)
        ·go_wp2
         try rw[hw1]
         exact⟨hfin _ HFIN.out,fg HK2.out⟩
       ·rcases HUP.out with⟨rfl,rfl⟩|⟨rfl,rfl⟩
        ·by_cases hnu:now<un
         ·go_wp2
          try rw[hw1]
          exact⟨hfin _ HFIN.out,fg HK2.out⟩
         ·go_wp2
          try rw[hw1]
          exact⟨hfin _ HFIN.out,fg HK2.out⟩
        ·go_wp2
         try rw[hw1]
         exact⟨hfin _ HFIN.out,fg HK2.out⟩
     ·have hkk:¬(k:Int)<2:=by omega
      have HF:=ad (Below.up HB2.out ab (by rw[←HCA.out.1];exact HLG.out.1))
      clear HLG
      go_wp2
      go_ret
      exact⟨rfl,HF.out⟩
end Go.Proofs.YtmgmknmaepjnoaaGreatDoor
