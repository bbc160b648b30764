/-
  The walk of a log's Append (layer 11). The walks of the searches among a log's parts (layer 11): slices.IndexFunc, slices.ContainsFunc; Truncate.
-/
import Derived.Test.YtmgmknmaepjnoaaGreatDoorLogW2
namespace Go.Proofs.YtmgmknmaepjnoaaGreatDoor
open Go.RowKit Go.Shelf Proofs.Tryz
section
def Lg.BK (k:Nat) (s:Lg.S):Prop:=s.parts.length<=900/\s.es.length+k<=500000/\0<=s.next/\s.next+k<=2147483648/\∀p∈s.parts,0<=p.2/\p.2<=1000000
theorem Lg.BK.bounded {k:Nat} {s:Lg.S} (h:Lg.BK k s):Lg.Bounded s:=⟨by have:=h.1;omega,by have:=h.2.1;omega,h.2.2.1,by have:=h.2.2.2.1;omega,h.2.2.2.2⟩
theorem Lg.Cv {room:Int} {k:Nat} {s s':Lg.S} {fs fs':List Dk.ai} {m:Int} (h:Lg.BK (k+1) s) (hr:Lg.mI room s fs=((fs',s'),m,0)):m=8/\s'.parts≠[]/\s'.es=s.es/\Lg.BK k s'/\s'.next<=s.next+1:=by
 obtain⟨h1,h2,h3,h4,h5⟩:=h;unfold Lg.mI at hr;split at hr
 ·simp at hr
 rename_i h30;split at hr
 ·rename_i hc;simp only[Prod.mk.injEq]at hr;exact absurd hr.2.2 hc
 split at hr
 ·rename_i hc;simp only[Prod.mk.injEq]at hr;exact absurd hr.2.2 hc
 ·simp only[Prod.mk.injEq]at hr;obtain⟨⟨_,rfl⟩,rfl,_⟩:=hr;refine⟨rfl,by simp,rfl,⟨by simp only[List.length_append,List.length_singleton];omega,by simp only;omega,by simp only;omega,by simp only;omega,fun p hp=>?_⟩,Int.le_refl _⟩;rcases aK.1 hp with hp|hp
  ·exact h5 p hp
  ·rw[aN.1 hp];simp only;omega
theorem Lg.BK.less {k j:Nat} {s:Lg.S} (h:Lg.BK k s) (hj:j<=k):Lg.BK j s:=⟨h.1,by have:=h.2.1;omega,h.2.2.1,by have:=h.2.2.2.1;omega,h.2.2.2.2⟩
theorem Lg.Hc {room:Int} {k:Nat} {s s':Lg.S} {fs fs':List Dk.ai} {m:Int} (h:Lg.BK (k+1) s) (hr:Lg.dL room s fs=((fs',s'),m,0)):1<=m/\m<=1000008/\s'.parts≠[]/\s'.es=s.es/\Lg.BK k s':=by
 unfold Lg.dL at hr;split at hr
 ·obtain⟨q1,q2,q3,q4,_⟩:=Lg.Cv h hr;exact⟨by omega,by omega,q2,q3,q4⟩
 ·rename_i p hp;split at hr
  ·rename_i h8;simp only[Prod.mk.injEq]at hr;obtain⟨⟨_,rfl⟩,rfl,_⟩:=hr;have hm:=h.2.2.2.2 p (List.mem_of_getLast? hp);exact⟨by omega,by omega,fun e=>(by rw[e]at hp;cases hp),rfl,h.less (by omega)⟩
  ·obtain⟨q1,q2,q3,q4,_⟩:=Lg.Cv h hr;exact⟨by omega,by omega,q2,q3,q4⟩
theorem Lg.BK.Lb {r k:Nat} {s:Lg.S} {m:List Evt.Entry} (h:Lg.BK k s) (he:s.es.length+m.length+r<=500000) (hk:r<=k):Lg.BK r (s.plus m) :=
 ⟨h.1,by simp only[Lg.S.plus,List.length_append];omega,h.2.2.1,by have:=h.2.2.2.1;simp only[Lg.S.plus];omega,h.2.2.2.2⟩
theorem Lg.IH (room:Int) (k:Nat) (s:Lg.S) (fs:List Dk.ai):Lg.mS room k [] s fs=((fs,s),0):=by
 cases k with
 |zero=>rfl
 |succ k=>rw[Lg.mS,if_pos rfl]
theorem Lg.GF {room:Int} {k c:Nat} {e:List Evt.Entry} {s s1:Lg.S} {fs f1:List Dk.ai} {m:Int} (he:e≠[]) (hr:Lg.dL room s fs=((f1,s1),m,c)) :
 Lg.mS room (k+1) e s fs=if c≠0 then ((f1,s1),c) else if (af.jK room (Lg.jR s1) (e.take (min m.toNat e.length)) f1).2≠0 then (((af.jK room (Lg.jR s1) (e.take (min m.toNat e.length)) f1).1,s1),(af.jK room (Lg.jR s1) (e.take (min m.toNat e.length)) f1).2)
  else Lg.mS room k (e.drop (min m.toNat e.length)) (s1.plus (e.take (min m.toNat e.length))) (af.jK room (Lg.jR s1) (e.take (min m.toNat e.length)) f1).1:=by
 rw[Lg.mS,if_neg he,hr]
theorem Lg.Ie {s:Lg.S} {x y:Int} {n:Nat} (hn:s.parts.length=n+1) (h:s.parts[n]?=some (x,y)):Lg.jR s=x:=by
 unfold Lg.jR;rw[List.getLast?_eq_getElem?,hn,Nat.add_sub_cancel,h]
def oQ:Value->Nat
 |.slice _ l _=>l
 |_=>0
def mw:Value->Prop
 |.slice _ l c=>l<=c
 |_=>True
variable {a w w':World} {lg d:Nat} {room:Int} {s s':Lg.S} {fs fs':List Dk.ai} {T X ft T2 ft2:Nat->Prop} {pv ev lv:Value} {ps qs:List bu}
theorem yW {b o k lc n:Nat} (hk:k<=n) (hn:n<=lc):∃o2,(if lc=k then some (⟨b,o,none⟩:Addr) else some ⟨b,o+k*7,none⟩)=some ⟨b,o2,none⟩/\(o2=o+k*7\/k=n):=by
 by_cases h:lc=k
 ·exact⟨o,by rw[if_pos h],.inr (by omega)⟩
 ·exact⟨o+k*7,by rw[if_neg h],.inl rfl⟩
theorem eP.take {Y:Nat->Prop} {b o c k:Nat} (h:eP Y w (.slice (some ⟨b,o,none⟩) qs.length c) qs) (hk:k<=qs.length) (c':Nat):eP Y w (.slice (some ⟨b,o,none⟩) k c') (qs.take k) :=
 ⟨nG h.cr hk c',fun b' hb' hne=>h.row b' hb' (fun e=>hne (by rw[e,List.take_nil])),fun p hp=>h.out p (List.mem_of_mem_take hp)⟩
theorem eP.drop {Y:Nat->Prop} {b o c k:Nat} (h:eP Y w (.slice (some ⟨b,o,none⟩) qs.length c) qs) (hk:k<=qs.length) (o' c':Nat) (ho:o'=o+k*7\/k=qs.length):eP Y w (.slice (some ⟨b,o',none⟩) (qs.length-k) c') (qs.drop k) :=
 ⟨xo h.cr hk o' c' ho,fun b' hb' hne=>h.row b' (by simpa[Value.ownBlock]using hb') (fun e=>hne (by rw[e];simp)),fun p hp=>h.out p (List.mem_of_mem_drop hp)⟩
theorem eP.gu {Y:Nat->Prop} (h:eP Y w lv qs):∀p∈qs,dp w p.2 p.1.b.events/\l7 p.1/\kT Y p:=fun p hp=>⟨(h.cr.2 p hp).1,(h.cr.2 p hp).2,h.out p hp⟩
theorem eP.less {Y Z:Nat->Prop} (h:eP Y w lv qs) (hz:∀j,Z j->Y j):eP Z w lv qs:=⟨h.cr,fun b hb hne hx=>h.row b hb hne (hz b hx),fun p hp b hb hne hx=>h.out p hp b hb hne (hz b hx)⟩
set_option maxHeartbeats 8000000 in
set_option maxRecDepth 100000 in
theorem yh {c:Nat} (h:Lay a lg d room s fs T X ft pv ev ps w) (hroom:room<=4194304) (hB:Lg.BK qs.length s) (hq:eP X w lv qs) (hcap:mw lv) (hqn:qs.length<=1000) (hr:Lg.fQ room (ag qs) s fs=((fs',s'),c)) :
 Calls prog 109 #[.pointer (some ⟨lg,0,none⟩),lv] w fun e w'=>e=.returned (.int .i64 (c:Int))/\dB a lg d room s' fs' T X w w':=by
 obtain⟨la,lc,rfl⟩:=aJ hq.cr.1;have HLA:=ad (jM h);have HEP:=ad (zY h (by rw[h.len];have:=hB.2.1;omega));have hes:s.es.length<=500000:=by have:=hB.2.1;omega
 have HLay:=ad h;have HQ:=ad hq;have HBK:=ad hB;have HR:=ad hr;clear h hq hB hr;go_enter func109,ntmps109;go_wp2_with fail;refine HLA.out.mono ?_;rintro e w1 ⟨rfl,rfl⟩;go_wp2_with fail;refine HEP.out.mono ?_;rintro e w1 ⟨rfl,b1⟩;have HFO:=ad (nY (.slice la qs.length lc) qs (s.es.length:Int) (Lg.dd s.es) w1 (HLay.out.next b1).env (HQ.out.cr.next b1) (by omega) (by omega) (by omega));go_wp2_with fail;refine HFO.out.mono ?_;rintro e w2 ⟨rfl,b2⟩;have hb2:Below w.heap.size w w2:=Below.up b1 ab b2;cases hf:Evt.follows (ag qs) (s.es.length:Int) (Lg.dd s.es)with
 |false =>
  have HR1:=ad (show fs'=fs/\s'=s/\c=11 by
   have:=HR.out;rw[Lg.fQ,if_neg (by rw[hf];simp)]at this;simp only[Prod.mk.injEq]at this;exact⟨this.1.1.symm,this.1.2.symm,this.2.symm⟩)
  have HB2:=ad hb2;clear hf HR b2 b1 hb2;go_wp2;go_ret;obtain⟨rfl,rfl,rfl⟩:=HR1.out;exact⟨rfl,dB.refl ⟨_,_,_,_,HLay.out⟩ HB2.out⟩
 |true =>
  have HR1:=ad (show Lg.mS room qs.length (ag qs) s fs=((fs',s'),c)by
   have:=HR.out;rw[Lg.fQ,if_pos hf]at this;rw[<-this];simp[ag])
  have HM0:=ad ((du.start HLay.out).next hb2);have HQ0:=ad (HQ.out.next hb2);have hXT:∀j,T j->X j:=HLay.out.cz;clear hf HR b2 b1 hb2 HFO HEP HLA;go_wp2
  go_loopw [1] (fun vv wr=>∃(rs:List bu) (k:Nat) (s1:Lg.S) (f1:List Dk.ai) (T2 ft2:Nat->Prop) (p1 e1:Value) (q1:List bu) (ra:Option Addr) (rc:Nat),vv=.slice ra rs.length rc/\rs.length<=rc/\rs.length<=1000/\rs.length<=k/\Hid (Lg.mS room k (ag rs) s1 f1=((fs',s'),c))/\Hid (Lg.BK rs.length s1) /\
   Hid (du a lg d room T X w s1 f1 T2 ft2 p1 e1 q1 wr)/\Hid (eP (fun j=>X j\/T2 j) wr (.slice ra rs.length rc) rs)) (fun vv _=>oQ vv)
  case atStart=>exact⟨qs,qs.length,s,fs,T,ft,pv,ev,ps,la,lc,rfl,hcap,hqn,ab,HR1,HBK,HM0,ad (HQ0.out.less (fun j hj=>by rcases hj with hj|hj;exact hj;exact hXT j hj))⟩
  case round =>
   obtain⟨rs,k,s1,f1,T2,ft2,p1,e1,q1,ra,rc,rfl,hrc,hr1000,hrk,HA,HK,HM,HP⟩:=hrel;by_cases h0:rs.length=0
   ·have hrs:rs=[]:=aP h0;have HF:=ad (show fs'=f1/\s'=s1/\c=0 by
     have:=HA.out;rw[hrs,show ag ([]:List bu)=[]from rfl,Lg.IH]at this;simp only[Prod.mk.injEq]at this;exact⟨this.1.1.symm,this.1.2.symm,this.2.symm⟩)
    have hz:¬0<rs.length:=by omega
    clear hrs HA;go_wp2;go_ret;obtain⟨rfl,rfl,rfl⟩:=HF.out;exact⟨rfl,HM.out.step⟩
   ·have hz:0<rs.length:=by omega
    obtain⟨k,rfl⟩:∃j,k=j+1:=⟨k-1,by omega⟩;obtain⟨n0,hn0⟩:∃n,rs.length=n+1:=⟨rs.length-1,by omega⟩;obtain⟨⟨⟨f2,s2⟩,m,c2⟩,hRF⟩:∃P,Lg.dL room s1 f1=P:=⟨_,rfl⟩;have hne:ag rs≠[]:=fun e=>by
     have:=congrArg List.length e;simp only[ag,List.length_map,List.length_nil]at this;omega
    have hpl:(ag rs).length=rs.length:=by simp[ag]
    have HS:=ad (HA.out.symm.trans (Lg.GF hne hRF));have HRM:=ad (BH HM.out.lay HK.out.bounded hRF);have HRF:=ad hRF;have HPL:=ad hpl;have HN0:=ad hn0;clear hne HA hRF hpl hn0 h0;go_wp2_with fail;refine HRM.out.mono ?_;rintro e w3 ⟨rfl,T3,⟨ft3,pv3,ev3,ps3,hL3⟩,m3,n3,t3⟩;have hM3:=HM.out.of hL3 m3 n3 t3;have hP3:=HP.out.Kt t3 n3;have HM3:=ad hM3;have HP3:=ad hP3;clear HRM hL3 m3 n3 t3 hM3 hP3 HM HP;by_cases hc2:c2=0
    ·subst hc2;have HS:=ad (HS.out.trans (if_neg (by simp)));obtain⟨q1,q2,q3,q4,q5⟩:=Lg.Hc (k:=n0) (by have:=HK.out;rw[HN0.out]at this;exact this) HRF.out;obtain⟨mn,rfl⟩:∃mn:Nat,m=(mn:Int):=⟨m.toNat,by omega⟩;obtain⟨j,hj⟩:∃j,min mn rs.length=j:=⟨_,rfl⟩;have hj1:1<=j:=by omega
     have hj2:j<=rs.length:=by omega
     have hjm:min (mn:Int) (rs.length:Int)=(j:Int):=by omega
     rw[Int.toNat_natCast,HPL.out,hj]at HS;obtain⟨np,hnp⟩:∃n,s2.parts.length=n+1:=⟨s2.parts.length-1,by have:=List.length_pos_iff.2 q3;omega⟩;obtain⟨⟨x,y⟩,hxy⟩:∃x,s2.parts[np]'(by omega)=x:=⟨_,rfl⟩;obtain⟨b,o,c',hv,z0,z1⟩:=partAt (aj HM3.out.lay.parts) np (by omega) hxy;subst hv;rw[Lg.Ie hnp (show s2.parts[np]?=some (x,y)by rw[aR (by omega),hxy])]at HS;obtain⟨⟨f3,c3⟩,hAD⟩:∃P,af.jK room x (ag (rs.take j)) f2=P:=⟨_,rfl⟩;have htk:(ag rs).take j=ag (rs.take j):=by simp[ag,List.map_take]
     have hdr:(ag rs).drop j=ag (rs.drop j):=by simp[ag,List.map_drop]
     rw[htk,hdr,hAD]at HS;simp only at HS;obtain⟨rb,ro,rfl⟩:∃rb ro,ra=some ⟨rb,ro,none⟩:=by
      rcases HP3.out.cr.1.2 with⟨h0,_⟩|⟨b1,o1,c1,e,_⟩
      ·omega
      ·cases e;exact⟨_,_,rfl⟩
     have hPt:=HP3.out.take hj2 rc;have HADD:=Dj a d room x f2 ft3 (.slice (some ⟨rb,ro,none⟩) j rc) (rs.take j) w3.drew (HM3.out.next (ae _ w3).drew).lay.mr (HM3.out.next (ae _ w3).drew).lay.im hroom (hPt.next (ae _ w3).drew).cr (by rw[List.length_take];omega);rw[hAD]at HADD;have HADD:=ad HADD;obtain⟨d0,d1,d2,d3⟩:=HM3.out.lay.cells;have hcc:=aB d0 (aB d2 z0);have hG1:¬ft3 lg:=HM3.out.lay.tl.2;have hG2:¬ft3 b:=(HM3.out.lay.tp b rfl).2.1;have hw1:IntKind.i64.wrap ((s2.parts.length:Int)-1)=(np:Int):=by
      have:s2.parts.length<=900:=q5.1;rw[IntKind.wrap_i64];omega
     have hw5:((np:Int)).toNat=np:=by omega
     have hlt:(np:Int)<(s2.parts.length:Int):=by omega
     have hlt2:np<s2.parts.length:=by omega
     have hjc:j<=rc:=by omega
     have HQ5:=ad (aB q3 (aB q4 q5));have HDR:=ad hdr;clear hPt d0 d1 d3 q1 q2 q3 q4 q5 hnp hxy hAD htk hdr z1 hj;go_wp2
     go_region_held3 (fun Z=>Z.cell? ⟨lg,0,none⟩=some (.pointer (some ⟨d,0,none⟩))/\Z.cell? ⟨lg,2,none⟩=some (.slice (some ⟨b,o,none⟩) s2.parts.length c')/\Z.cell? ⟨b,o+np*2,none⟩=some (.int .i64 x))
      (first|exact hcc|exact⟨bd hds.choose_spec.2.2 hG1 hcc.1,bd hds.choose_spec.2.2 hG1 hcc.2.1,bd hds.choose_spec.2.2 hG2 hcc.2.2⟩)
      (first|(go_at_call 166;refine HADD.out.mono ?_;rintro e w4 ⟨rfl,hds⟩))
     obtain⟨T4,ft4,hM4,m4,n4,t4⟩:=(HM3.out.next (ae _ w3).drew).JU hds;have hP4:=(HP3.out.next (ae _ w3).drew).Kt t4 n4;have HM4:=ad hM4;have HP4:=ad hP4;clear hds hM4 hP4 m4 n4 t4 HADD hcc HM3 HP3 d2 z0;by_cases hc3:c3=0
     ·subst hc3;have HS:=ad (HS.out.trans (if_neg (by simp)));obtain⟨ea,ec,rfl⟩:=aJ (aj HM4.out.lay.cr);have hL5:=(HM4.out.next (ae _ w4).drew).lay;have hPt:=(HP4.out.next (ae _ w4).drew).take hj2 rc;have hoc:=sO hPt.gu;have hps3:ps3.length<=500000:=by
       have:=HM4.out.lay.len;have h2:=HQ5.out.2.2.2.1;omega
      have hjl:(rs.take j).length=j:=by rw[List.length_take];omega
      have hx:Cells w4.drew (.slice (some ⟨rb,ro,none⟩) j rc) 7 j (aM (rs.take j)):=by
       have:=hPt.cr.1
       rwa [hjl]at this
      have HL5:=ad hL5;have HE5:=ad hPt.gu;have HX5:=ad hx;have HJL:=ad hjl;obtain⟨d0,d1,d2,d3⟩:=HM4.out.lay.cells;clear hL5 hPt hx hjl HADD d0 d1 d2;go_upto_region 11 with fail;go_cut [] (fun wx=>∃v9 T5 ft5,Lay a lg d room (s2.plus (ag (rs.take j))) f3 T5 (fun j=>(X j\/T4 j)\/T5 j) ft5 (.slice (some ⟨b,o,none⟩) s2.parts.length c') v9 (ps3++rs.take j) wx/\(∀j,T4 j->T5 j)/\(∀j,T5 j->T4 j\/w4.drew.heap.size<=j)/\ax T4 w4.drew wx)
      case first =>
       go_region_law (first
        | (refine iy rfl _ _ rfl Gt a.heap.size (.slice ea ps3.length ec) ps3.length (aM ps3) rfl HL5.out.cr _ j (aM (rs.take j)) rfl HX5.out hoc (by omega) HL5.out.base.below.size ?_
           intro v9 wa hown hga hbl;obtain ⟨va9, vc9, rfl⟩ := aJ (aj hown);have HP := ad (HL5.out.CN (qs := rs.take j) HE5.out (by rw [HJL.out]; exact hown) hga hbl);have hlw := HP.out.1.trans HL5.out.log;have d3' : wa.cell? ⟨lg, 3, none⟩ = some (.slice ea ps3.length ec) := aq hlw rfl;have f3' := ay hlw 3;clear hown hga hbl hlw))
       all_goals go_wp2
       all_goals go_meet
       all_goals exact⟨_,HP.out.2⟩
      case rest =>
       obtain⟨v9,T5,ft5,hL6,m6,n6,t6⟩:=hcut;have HM6:=ad ((HM4.out.next (ae _ w4).drew).of hL6 m6 n6 t6);have hP6:=(HP4.out.next (ae _ w4).drew).Kt t6 n6;obtain⟨o2,ho2,hor⟩:=yW (b:=rb) (o:=ro) hj2 hrc;have HP6:=ad (hP6.drop hj2 o2 (rc-j) hor);have hlen:rs.length-j=(rs.drop j).length:=List.length_drop.symm;have HLN:=ad hlen;have HOR:=ad hor;clear hL6 m6 n6 t6 hP6 hlen hor d3;go_wp2;refine⟨⟨rs.drop j,k,s2.plus (ag (rs.take j)),f3,T5,ft5,_,v9,ps3++rs.take j,some ⟨rb,o2,none⟩,rc-j,by rw[HLN.out],by rw[<-HLN.out];omega,by rw[<-HLN.out];omega,by rw[<-HLN.out];omega,ad HS.out.symm,?_,HM6,by rw[<-HLN.out];exact HP6⟩,?_⟩
       ·have h2:(ag (rs.take j)).length=j:=by rw[<-HJL.out];simp[ag]
        have h3:=HK.out.2.1;refine ad (HQ5.out.2.2.Lb ?_ ?_)
        ·rw[h2,HQ5.out.2.1,<-HLN.out];omega
        ·rw[<-HLN.out,HN0.out];omega
       ·simp only[oQ];omega
     ·have HF:=ad (show fs'=f3/\s'=s2/\c=c3 by
       have:=HS.out;rw[if_pos hc3]at this;simp only[Prod.mk.injEq]at this;exact⟨this.1.1,this.1.2,this.2⟩)
      have hcb:((c3:Int) != 0)=true:=by rw[bne_iff_ne];omega
      clear HS;go_wp2;go_ret;obtain⟨rfl,rfl,rfl⟩:=HF.out;exact⟨rfl,HM4.out.step⟩
    ·have HF:=ad (show fs'=f2/\s'=s2/\c=c2 by
      have:=HS.out;rw[if_pos hc2]at this;simp only[Prod.mk.injEq]at this;exact⟨this.1.1,this.1.2,this.2⟩)
     have hcb:((c2:Int) != 0)=true:=by rw[bne_iff_ne];omega
     clear HS;go_wp2;go_ret;obtain⟨rfl,rfl,rfl⟩:=HF.out;exact⟨rfl,HM3.out.step⟩
end
theorem Lg.Ii {last:Int} {ms:List (Int×Int)} {i:Nat} {x y:Int} (hi:i<ms.length) (hx:ms[i]=(x,y)) (hy:y<=last) (h:Lg.cW last ms=i+Lg.cW last (ms.drop i)):Lg.cW last ms=(i+1)+Lg.cW last (ms.drop (i+1)):=by
 rw[h,List.drop_eq_getElem_cons hi,hx];unfold Lg.cW;rw[List.takeWhile_cons,if_pos (by simpa using hy),List.length_cons];omega
theorem Lg.D6 {last:Int} {ms:List (Int×Int)} {i:Nat} {x y:Int} (hi:i<ms.length) (hx:ms[i]=(x,y)) (hy:¬y<=last) (h:Lg.cW last ms=i+Lg.cW last (ms.drop i)):Lg.cW last ms=i:=by
 rw[h,List.drop_eq_getElem_cons hi,hx];unfold Lg.cW;rw[List.takeWhile_cons,if_neg (by simpa using hy),List.length_nil];omega
theorem Lg.F9 {last:Int} {ms:List (Int×Int)} {i:Nat} (hi:ms.length<=i) (h:Lg.cW last ms=i+Lg.cW last (ms.drop i)):Lg.cW last ms=i:=by
 rw[h,List.drop_eq_nil_of_le hi];rfl
set_option maxHeartbeats 1000000 in
theorem AO (bx:Nat) (last x y:Int) (w:World) (hb:w.cell? ⟨bx,0,none⟩=some (.int .i64 last)) :
 Calls prog 219 #[.agg #[.int .i64 x,.int .i64 y],.pointer (some ⟨bx,0,none⟩)] w fun e w'=>e=.returned (.bool (decide (last<y)))/\Below w.heap.size w w':=by
 have ba:Below w.heap.size w (w.alloc (.cells #[.int .i64 x,.int .i64 y] 264)):=(ae _ _).alloc ab _;have hb:=cell_kept ba ab hb;have HB:=ad ba;clear ba;go_enter func219,ntmps219;go_wp2;go_ret;exact⟨rfl,HB.out⟩
set_option maxHeartbeats 1000000 in
theorem DL (bx:Nat) (n x y:Int) (w:World) (hb:w.cell? ⟨bx,0,none⟩=some (.int .i64 n)) :
 Calls prog 151 #[.agg #[.int .i64 x,.int .i64 y],.pointer (some ⟨bx,0,none⟩)] w fun e w'=>e=.returned (.bool (x==n))/\Below w.heap.size w w':=by
 have ba:Below w.heap.size w (w.alloc (.cells #[.int .i64 x,.int .i64 y] 264)):=(ae _ _).alloc ab _;have hb:=cell_kept ba ab hb;have HB:=ad ba;clear ba;go_enter func151,ntmps151;go_wp2;go_ret;exact⟨rfl,HB.out⟩
set_option maxHeartbeats 2000000 in
set_option maxRecDepth 100000 in
theorem yk (v:Value) (ms:List (Int×Int)) (bx:Nat) (last:Int) (w:World) (hc:Cells w v 2 ms.length (aY ms)) (hn:ms.length<=1000000) (hb:w.cell? ⟨bx,0,none⟩=some (.int .i64 last)) :
 Calls prog 201 #[v,.func (.func 219) #[] #[.pointer (some ⟨bx,0,none⟩)]] w fun e w'=>∃r:Int,e=.returned (.int .i64 r)/\(Lg.cW last ms<ms.length/\r=(Lg.cW last ms:Int)\/Lg.cW last ms=ms.length/\r = -1)/\Below w.heap.size w w':=by
 obtain⟨va,vc,rfl⟩:=aJ hc;have HC:=ad hc;have HBX:=ad hb;clear hc hb;go_enter func201,ntmps201;go_wp2
 go_loopw [8] (fun lv wr=>∃i:Nat,lv=.int .i64 i/\i<=ms.length/\Below w.heap.size w wr/\Hid (Lg.cW last ms=i+Lg.cW last (ms.drop i))) (fun lv _=>ms.length-(intOf lv).toNat)
 case atStart=>exact⟨0,rfl,by omega,ae _ _,ad (by simp)⟩
 case round =>
  obtain⟨i,rfl,hi,hbw,HK⟩:=hrel;by_cases hp:i<ms.length
  ·obtain⟨⟨x,y⟩,hx⟩:∃x,ms[i]=x:=⟨_,rfl⟩;obtain⟨b,o,c,hv,q0,q1⟩:=partAt HC.out i hp hx;cases hv;have q0:=cell_kept hbw ab q0;have q1:=cell_kept hbw ab q1;have HF:=ad (AO bx last x y wr (cell_kept hbw ab HBX.out));have HX:=ad hx;have HBW:=ad hbw;clear hx hbw;go_wp2_with fail;refine HF.out.mono ?_;rintro e w1 ⟨rfl,b1⟩;have hb1:=Below.up HBW.out ab b1;by_cases hy:last<y
   ·have HE:=ad (Lg.D6 hp HX.out (by omega) HK.out);have HB1:=ad hb1;clear hb1 b1 HF HK HX;go_wp2;go_ret;exact⟨_,rfl,.inl ⟨by rw[HE.out];omega,by rw[HE.out]⟩,HB1.out⟩
   ·have HE:=ad (Lg.Ii hp HX.out (by omega) HK.out);clear b1 HF HK HX;go_wp2;exact⟨⟨i+1,by go_num,by omega,hb1,HE⟩,by simp[intOf];omega⟩
  ·have HE:=ad (Lg.F9 (by omega) HK.out);obtain rfl:i=ms.length:=by omega
   clear HK;go_wp2;go_ret;exact⟨-1,rfl,.inr ⟨HE.out,rfl⟩,hbw⟩
set_option maxHeartbeats 2000000 in
set_option maxRecDepth 100000 in
theorem Af (v:Value) (ms:List (Int×Int)) (bx:Nat) (n:Int) (w:World) (hc:Cells w v 2 ms.length (aY ms)) (hn:ms.length<=1000000) (hb:w.cell? ⟨bx,0,none⟩=some (.int .i64 n)) :
 Calls prog 201 #[v,.func (.func 151) #[] #[.pointer (some ⟨bx,0,none⟩)]] w fun e w'=>∃r:Int,e=.returned (.int .i64 r)/\Hid (decide (0<=r)=ms.any fun p=>p.1==n)/\Below w.heap.size w w':=by
 obtain⟨va,vc,rfl⟩:=aJ hc;have HC:=ad hc;have HBX:=ad hb;clear hc hb;go_enter func201,ntmps201;go_wp2
 go_loopw [8] (fun lv wr=>∃i:Nat,lv=.int .i64 i/\i<=ms.length/\Below w.heap.size w wr/\Hid ((ms.any fun p=>p.1==n)=(ms.drop i).any fun p=>p.1==n)) (fun lv _=>ms.length-(intOf lv).toNat)
 case atStart=>exact⟨0,rfl,by omega,ae _ _,ad (by simp)⟩
 case round =>
  obtain⟨i,rfl,hi,hbw,HK⟩:=hrel;by_cases hp:i<ms.length
  ·obtain⟨⟨x,y⟩,hx⟩:∃x,ms[i]=x:=⟨_,rfl⟩;obtain⟨b,o,c,hv,q0,q1⟩:=partAt HC.out i hp hx;cases hv;have q0:=cell_kept hbw ab q0;have q1:=cell_kept hbw ab q1;have HF:=ad (DL bx n x y wr (cell_kept hbw ab HBX.out));have HX:=ad (show(ms.any fun p=>p.1==n)=((x==n)||(ms.drop (i+1)).any fun p=>p.1==n)by rw[HK.out,List.drop_eq_getElem_cons hp,hx];rfl);have HBW:=ad hbw;clear hx hbw HK;go_wp2_with fail;refine HF.out.mono ?_;rintro e w1 ⟨rfl,b1⟩;have hb1:=Below.up HBW.out ab b1;cases hy:x==n with
   |true =>
    have HE:=ad (show(ms.any fun p=>p.1==n)=true by rw[HX.out,hy];rfl);have HB1:=ad hb1;clear hb1 b1 HF HX hy;go_wp2;go_ret;exact⟨_,rfl,ad (by rw[HE.out];simp),HB1.out⟩
   |false =>
    have HE:=ad (show(ms.any fun p=>p.1==n)=(ms.drop (i+1)).any fun p=>p.1==n by rw[HX.out,hy];rfl);clear b1 HF HX hy;go_wp2;exact⟨⟨i+1,by go_num,by omega,hb1,HE⟩,by simp[intOf];omega⟩
  ·have HE:=ad (show(ms.any fun p=>p.1==n)=false by rw[HK.out,List.drop_eq_nil_of_le (by omega)];rfl);obtain rfl:i=ms.length:=by omega
   clear HK;go_wp2;go_ret;exact⟨-1,rfl,ad (by rw[HE.out];rfl),hbw⟩
set_option maxHeartbeats 1000000 in
theorem uY (v:Value) (ms:List (Int×Int)) (bx:Nat) (n:Int) (w:World) (hc:Cells w v 2 ms.length (aY ms)) (hn:ms.length<=1000000) (hb:w.cell? ⟨bx,0,none⟩=some (.int .i64 n)) :
 Calls prog 150 #[v,.func (.func 151) #[] #[.pointer (some ⟨bx,0,none⟩)]] w fun e w'=>e=.returned (.bool (ms.any fun p=>p.1==n))/\Below w.heap.size w w':=by
 have HI:=ad (Af v ms bx n w hc hn hb);clear hc hb;go_enter func150,ntmps150;go_wp2_with fail;refine HI.out.mono ?_;rintro e w1 ⟨r,rfl,HR,b1⟩;have HB:=ad b1;clear b1 HI;go_wp2;go_ret;exact⟨by rw[<-HR.out];rfl,HB.out⟩
end Go.Proofs.YtmgmknmaepjnoaaGreatDoor
