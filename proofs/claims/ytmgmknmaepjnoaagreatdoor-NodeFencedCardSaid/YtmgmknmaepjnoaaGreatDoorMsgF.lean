/-
  Messages: the parts of Logs, Have, View; the kinds.
-/
import Derived.Test.YtmgmknmaepjnoaaGreatDoorMsgB
import Derived.Test.YtmgmknmaepjnoaaGreatDoorNodT
namespace Go.Proofs.YtmgmknmaepjnoaaGreatDoor
open Go.RowKit Go.Shelf Proofs.Tryz
theorem Ej (v0 v1 v2 v3 v4 v5 v6:Value) (w:World):(Instr.field 77 (.agg #[v0,v1,v2,v3,v4,v5,v6]) 6).run prog w=.ok v6 w:=by kernel_rfl
theorem Ek (v0 v1 v2 v3:Value) (w:World):(Instr.field 75 (.agg #[v0,v1,v2,v3]) 3).run prog w=.ok v3 w:=by kernel_rfl
def oy (qs:List bu):Bool:=decide (qs.length<=8)&&(ag qs).all Evt.bC
set_option maxHeartbeats 16000000 in
set_option maxRecDepth 100000 in
theorem uj {a:World} (x0 x1 x2 x3 x4 x5:Int) (va:Option Addr) (vc:Nat) (qs:List bu) (HK:fO 77 (.agg #[.int .i64 x0,.int .i64 x1,.int .i64 x2,.int .i64 x3,.int .i64 x4,.int .i64 x5,.slice va qs.length vc]) 7) (hE:Env a) (hc:dk a (.slice va qs.length vc) qs) (hn:qs.length<=40) :
 jF 77 (.agg #[.int .i64 x0,.int .i64 x1,.int .i64 x2,.int .i64 x3,.int .i64 x4,.int .i64 x5,.slice va qs.length vc]) a (oy qs):=by
 intro w hw;obtain⟨kf,HM,HM2,HK⟩:=HK;have HK:=ad HK;have hA:=CC;have hF:=Ej;have HB0:=ad ((ae _ w).alloc ab (.cells #[.pointer none,.slice none 0 0] 169));have HPB:=ad (fun W (hb:Below w.heap.size w W)=>DA (.slice va qs.length vc) qs W ((hE.next hw).next hb) ((hc.next hw).next hb) hn);obtain⟨B,hB⟩:∃B,(ag qs).all Evt.bC=B:=⟨_,rfl⟩;unfold oy;rw[hB]at HPB ⊢;clear hw hE hc hB;go_enter func81,ntmps81;go_wp2_with fail;refine(HK.out _).mono ?_;rintro e w1 ⟨rfl,hb⟩;have HB:=ad (HB0.out.trans (hb.mono (by simp)));clear hb HK HM HM2;go_wp2_with fail;refine(HPB.out w1 HB.out).mono ?_;rintro e w2 ⟨r,rfl,hr,hrs,hb2⟩;have HB2:=ad (Below.up HB.out ab hb2);clear hb2 hr HB HB0;by_cases h8:qs.length<=8
 ·have h8i:(qs.length:Int)<=8:=by omega
  have HD:=ad (show(decide (qs.length<=8)&&B)=B by rw[decide_eq_true h8];rfl);go_wp2_with fail;refine(HPB.out w2 HB2.out).mono ?_;rintro e w3 ⟨r2,rfl,hr2,hrs2,hb3⟩;have HB3:=ad (Below.up HB2.out ab hb3);have hre:=hr2.out;clear hb3 hr2 HB2 HPB;cases B with
  |true =>
   have h0:r2.toList.isEmpty=false:=by
    rw[Lib.toList_data];cases h:r2.data.toList with
    |nil=>rw[h]at hre;cases hre
    |cons x r=>rfl
   clear hre;go_wp2
   (try simp only[Exit.inBlock,Exit.then])
   go_ret2
   exact⟨r,by rw[HD.out];rfl,by omega,HB3.out⟩
  |false =>
   have h0:r2.toList.isEmpty=true:=by
    rw[Lib.toList_data];cases h:r2.data.toList with
    |nil=>rfl
    |cons x r=>rw[h]at hre;cases hre
   clear hre;go_wp2
   (try simp only[Exit.inBlock,Exit.then])
   go_ret2
   exact⟨r,by rw[HD.out];rfl,by omega,HB3.out⟩
 ·have h8i:¬(qs.length:Int)<=8:=by omega
  have HD:=ad (show(decide (qs.length<=8)&&B)=false by rw[decide_eq_false h8];rfl);clear HPB;go_wp2
  (try simp only[Exit.inBlock,Exit.then])
  go_ret2
  exact⟨r,by first|rfl|(rw[HD.out];rfl),by omega,HB2.out⟩
theorem Iq (w:World):Calls prog 179 #[.slice none 0 0,.func (.func 126) #[] #[]] w fun e w'=>e=.returned (.int .i64 (-1))/\w=w':=by
 go_enter func179,ntmps179;go_wp2
 go_loopw [8] (fun lv wr=>lv=.int .i64 0/\w=wr) (fun _ _=>0)
 case atStart=>exact⟨rfl,rfl⟩
 case round =>
  obtain⟨rfl,rfl⟩:=hrel;go_wp2;go_ret;exact⟨rfl,rfl⟩
theorem IB (w:World):Calls prog 125 #[.slice none 0 0,.func (.func 126) #[] #[]] w fun e w'=>e=.returned (.bool false)/\Below w.heap.size w w':=by
 go_enter func125,ntmps125;go_wp2_with fail;refine(Iq w).mono ?_;rintro e w1 ⟨rfl,rfl⟩;go_wp2;go_ret;exact⟨rfl,ae _ _⟩
set_option maxHeartbeats 16000000 in
set_option maxRecDepth 100000 in
theorem DI {a:World} (x0 x1 x2:Int) (HK:fO 75 (.agg #[.int .i64 x0,.int .i64 x1,.int .i64 x2,.slice none 0 0]) 6) :
 jF 75 (.agg #[.int .i64 x0,.int .i64 x1,.int .i64 x2,.slice none 0 0]) a true:=by
 intro w _;obtain⟨kf,HM,HM2,HK⟩:=HK;have HK:=ad HK;have hA:=JF;have hF:=Ek;have HBL0:=ad (iK w);have HB0:=ad ((ae _ w).alloc ab (.cells #[.pointer none,.slice none 0 0] 169));have h6:=Num.ct _ (Num.cB ((0:Nat):Int));obtain⟨X,hX,hXl,hXs⟩:=bf (Num.put (Num.held ((0:Nat):Int)));have HNP:=ad (fun Z=>by have:=dF ((0:Nat):Int) Z;rw[hX]at this;exact this);clear hX;go_enter func81,ntmps81;go_wp2_with fail;refine(HK.out _).mono ?_;rintro e w1 ⟨rfl,hb⟩;have HB:=ad (HB0.out.trans (hb.mono (by simp)));have HBL:=ad (fP.next HBL0.out hb);clear hb HK HM HM2;go_wp2_with fail;refine(HNP.out _).mono ?_;rintro e w2 ⟨rfl,b2⟩;have HI2:=ad (fP.next HBL.out b2);have HB2:=ad (Below.up HB.out ab b2);have hs2:=HB2.out.size;clear b2 HNP HBL HB;go_wp2_with fail;refine(writeString _ _ [] X w2 HI2.out (by simp;omega) hs2).mono ?_;rintro e w3 ⟨rfl,h3,b3,_⟩;have HB3:=ad (HB2.out.trans b3);have H3:=ad h3;clear h3 b3 hs2 HI2;go_wp2
 go_loopw [77] (fun lv wr=>lv=.int .i64 0/\w3=wr) (fun _ _=>0)
 case atStart=>exact⟨rfl,rfl⟩
 case round =>
  obtain⟨rfl,rfl⟩:=hrel;go_wp2_with fail;refine(iL _ _ _ _ H3.out HB3.out.size).mono ?_;rintro e w4 ⟨rfl,b4⟩;obtain⟨Y,hY,hYl,hYs⟩:=bf ([]++X.data.toList);have hYs:Y.size<=1000000000:=by rw[hYs,List.nil_append,<-Lib.size_eq];omega
  rw[hY];have HB4:=ad (HB3.out.trans b4);clear b4 hY hYl;go_wp2_with fail;refine(IB w4).mono ?_;rintro e w5 ⟨rfl,b5⟩;have HB5:=ad (Below.up HB4.out ab b5);clear b5;go_wp2
  (try simp only[Exit.inBlock,Exit.then])
  go_ret2
  exact⟨Y,rfl,hYs,HB5.out⟩
def cE (l:List Int):Bool:=decide (l.length<=6)&&l.all bF
def rI (w:World) (b:Nat) (vs:List Value):Prop:=w.heap[b]?=some (.cells vs.toArray 32 (0,0))
set_option maxHeartbeats 32000000 in
set_option maxRecDepth 100000 in
theorem o4 {a:World} (V:Vw) (A:q_gk) (HK:fO 47 (dw V A) 4) (hV:fE a V A) (h1:V.ch.length<=100) (h2:V.si.length<=100) (h3:V.bo.length<=100) :
 jF 47 (dw V A) a (cE V.ch&&cE V.si&&cE V.bo):=by
 obtain⟨ep,ch,si,bo⟩:=V;obtain⟨ca,cc,sa,sc,ba,bc⟩:=A;intro w hw;obtain⟨kf,HM,HM2,HK⟩:=HK;have HK:=ad HK;have hA:=JD;have HBL0:=ad (iK w);have HB0:=ad ((ae _ w).alloc ab (.cells #[.pointer none,.slice none 0 0] 169));have HV:=ad (hV.next hw);clear hV hw;go_enter func81,ntmps81;go_wp2_with fail;refine(HK.out _).mono ?_;rintro e w1 ⟨rfl,hb⟩;have HB:=ad (HB0.out.trans (hb.mono (by simp)));have HBL:=ad (fP.next HBL0.out hb);clear hb HK HM HM2;obtain⟨L3,hL3⟩:∃L3,[ch,si,bo]=L3:=⟨_,rfl⟩;obtain⟨S3,hS3⟩:∃S3,[Value.slice ca ch.length cc,.slice sa si.length sc,.slice ba bo.length bc]=S3:=⟨_,rfl⟩;have HG:=ad (show ∀i,i<3->∃(l:List Int) (a:Option Addr) (c:Nat),L3[i]?=some l/\S3[i]?=some (.slice a l.length c)/\Cells w (.slice a l.length c) 1 l.length (aE l)/\l.length<=100 by
  intro i hi;rw[<-hL3,<-hS3]
  match i,hi with
  |0,_=>exact⟨_,_,_,rfl,rfl,HV.out.1,h1⟩
  |1,_=>exact⟨_,_,_,rfl,rfl,HV.out.2.1,h2⟩
  |2,_=>exact⟨_,_,_,rfl,rfl,HV.out.2.2.1,h3⟩)
 have HOK:=ad (show(cE ch&&cE si&&cE bo)=L3.all cE by rw[<-hL3];simp[Bool.and_assoc]);have HL3:=ad (show L3.length=3 by rw[<-hL3];rfl);obtain⟨W,hW⟩:∃W,((w1.alloc (.cells #[.int .i64 ep,.slice ca ch.length cc,.slice sa si.length sc,.slice ba bo.length bc] 47)).alloc (.cells #[.slice ca ch.length cc,.slice sa si.length sc,.slice ba bo.length bc] 32))=W:=⟨_,rfl⟩;have bW:Below w1.heap.size w1 W:=by rw[<-hW];exact an (an (ae _ w1) _) _
 have HR3:=ad (show rI W (w1.heap.size+1) S3 by
  rw[<-hW,<-hS3];have:=heap_alloc_new (w1.alloc (.cells #[.int .i64 ep,.slice ca ch.length cc,.slice sa si.length sc,.slice ba bo.length bc] 47)) (.cells #[.slice ca ch.length cc,.slice sa si.length sc,.slice ba bo.length bc] 32);rw[World.size_alloc]at this;exact this)
 have HBW:=ad (aB (Below.up HB.out ab bW) (fP.next HBL.out bW));have hne:w.heap.size≠w1.heap.size+1:=by
  have:=HB.out.size;omega
 have HNE:=ad hne;have HW:=ad hW;clear hL3 hS3 hW bW hne HB HBL HB0 HBL0 HV h1 h2 h3;unfold dw;go_wp2;rw[HW.out]
 go_loopw [6,34] (fun ok lv wr=>∃(i:Nat) (acc:List UInt8) (okv:Bool),lv=.int .i64 i/\i<=3/\ok=.bool okv/\Hid (okv=(L3.take i).all cE)/\Hid (fP w.heap.size w.heap.size acc wr)/\Below w.heap.size w wr/\Hid (rI wr (w1.heap.size+1) S3)/\acc.length<=i*700) (fun _ lv _=>3-(intOf lv).toNat)
 case atStart=>exact⟨0,[],true,rfl,by omega,rfl,ad rfl,ad HBW.out.2,HBW.out.1,HR3,by simp⟩
 case round =>
  obtain⟨i,acc,okv,rfl,hi,rfl,HO,HI,hbw,HRW,hal⟩:=hrel;have hbs:=hbw.size;by_cases hp:i<3
  ·obtain⟨l,la,lc,g1,g2,g3,g4⟩:=HG.out i hp;have hcell:wr.cell? ⟨w1.heap.size+1,i,none⟩=some (.slice la l.length lc):=by
    rw[aw HRW.out];show S3.toArray[i]?=_;rw[List.getElem?_toArray];exact g2
   have HO2:=ad (show(okv&&cE l)=(L3.take (i+1)).all cE by
    rw[HO.out,List.take_add_one,g1,List.all_append];simp)
   have HCL:=ad g3;have h6:=Num.ct _ (Num.cB (l.length:Int));obtain⟨X,hX,hXl,hXs⟩:=bf (Num.put (Num.held (l.length:Int)));have HNP:=ad (fun Z=>by have:=dF (l.length:Int) Z;rw[hX]at this;exact this);have HBR:=ad hbw;clear hX g1 g2 g3 HO hbw;go_wp2_with fail;refine(HNP.out _).mono ?_;rintro e w2 ⟨rfl,b2⟩;have HI2:=ad (fP.next HI.out b2);have HB2:=ad (Below.up HBR.out ab b2);have HR2:=ad (show rI w2 (w1.heap.size+1) S3 from au b2 ab HRW.out);have hs2:=HB2.out.size;clear b2 HNP HI HRW HBR hcell;go_wp2_with fail;refine(writeString _ _ acc X w2 HI2.out (by omega) hs2).mono ?_;rintro e w3 ⟨rfl,h3,b3,k3⟩;have HB3:=ad (HB2.out.trans b3);have H3:=ad h3;have HR3':=ad (show rI w3 (w1.heap.size+1) S3 from k3 _ _ HR2.out (by simp only[ne_eq,Option.some.injEq];exact fun e=>HNE.out e.symm) (fun c fz e=>by simp only[Obj.cells.injEq]at e;exact absurd e.2.1 (by decide)));have hal3:(acc++X.data.toList).length=acc.length+X.size:=by rw[List.length_append,Lib.size_eq]
   clear h3 b3 k3 hs2 HI2 HB2 HR2;go_wp2
   go_loopw [44] (fun lv wr=>∃(k:Nat) (acc2:List UInt8),lv=.int .i64 k/\k<=l.length/\Hid (fP w.heap.size w.heap.size acc2 wr)/\Below w.heap.size w wr/\Hid (rI wr (w1.heap.size+1) S3)/\acc2.length<=i*700+6+k*6) (fun lv _=>l.length-(intOf lv).toNat)
   case atStart=>exact⟨0,_,rfl,by omega,H3,HB3.out,HR3',by omega⟩
   case round =>
    obtain⟨k,acc2,rfl,hk,HI,hbw,HRW,hal2⟩:=hrel;have hbs:=hbw.size;by_cases hp2:k<l.length
    ·obtain⟨b',o',c',hv,hcell⟩:=lM (Cells.next HCL.out hbw) k hp2;cases hv;obtain⟨x,hx⟩:∃x,l[k]=x:=⟨_,rfl⟩;rw[hx]at hcell;have h6:=Num.ct _ (Num.cB x);obtain⟨X2,hX,hXl,hXs⟩:=bf (Num.put (Num.held x));have HNP:=ad (fun Z=>by have:=dF x Z;rw[hX]at this;exact this);have HBR:=ad hbw;clear hX hx hbw;go_wp2_with fail;refine(HNP.out _).mono ?_;rintro e w4 ⟨rfl,b4⟩;have HI4:=ad (fP.next HI.out b4);have HB4:=ad (Below.up HBR.out ab b4);have HR4:=ad (show rI w4 (w1.heap.size+1) S3 from au b4 ab HRW.out);have hs4:=HB4.out.size;clear b4 HNP HI HRW HBR hcell;go_wp2_with fail;refine(writeString _ _ acc2 X2 w4 HI4.out (by omega) hs4).mono ?_;rintro e w5 ⟨rfl,h5,b5,k5⟩;have HB5:=ad (HB4.out.trans b5);have H5:=ad h5;have HR5:=ad (show rI w5 (w1.heap.size+1) S3 from k5 _ _ HR4.out (by simp only[ne_eq,Option.some.injEq];exact fun e=>HNE.out e.symm) (fun c fz e=>by simp only[Obj.cells.injEq]at e;exact absurd e.2.1 (by decide)));have hal5:(acc2++X2.data.toList).length=acc2.length+X2.size:=by rw[List.length_append,Lib.size_eq]
     clear h5 b5 k5 hs4 HI4 HB4 HR4;go_wp2;exact⟨⟨k+1,_,by go_num,by omega,H5,HB5.out,HR5,by omega⟩,by simp[intOf];omega⟩
    ·obtain rfl:k=l.length:=by omega
     have HCW:=ad (Gz _ l wr (Cells.next HCL.out hbw) (by omega));have HNB:=ad (zJ l);have HBR:=ad hbw;clear hbw;cases okv with
     |false =>
      have HO3:=ad (show false=(L3.take (i+1)).all cE by rw[<-HO2.out];rfl);clear HCW HO2;go_wp2;exact⟨⟨i+1,_,false,by go_num,by omega,rfl,HO3,HI,HBR.out,HRW,by omega⟩,by simp[intOf];omega⟩
     |true =>
      by_cases h6l:l.length<=6
      ·have h6i:(l.length:Int)<=6:=by omega
       obtain⟨nb,hnb⟩:∃nb,(l.any fun n=>!bF n)=nb:=⟨_,rfl⟩;rw[hnb]at HCW;have HO3:=ad (show(!nb)=(L3.take (i+1)).all cE by
        rw[<-HO2.out,<-hnb,<-HNB.out];unfold cE;rw[decide_eq_true h6l];rfl)
       clear HO2 hnb;go_wp2_with fail;refine HCW.out.mono ?_;rintro e w6 ⟨rfl,b6⟩;have HI6:=ad (fP.next HI.out b6);have HB6:=ad (Below.up HBR.out ab b6);have HR6:=ad (show rI w6 (w1.heap.size+1) S3 from au b6 ab HRW.out);clear b6 HCW HI HBR HRW;go_wp2;exact⟨⟨i+1,_,!nb,by go_num,by omega,rfl,HO3,HI6,HB6.out,HR6,by omega⟩,by simp[intOf];omega⟩
      ·have h6i:¬(l.length:Int)<=6:=by omega
       have HO3:=ad (show false=(L3.take (i+1)).all cE by
        rw[<-HO2.out];unfold cE;rw[decide_eq_false h6l];rfl)
       clear HCW HO2;go_wp2;exact⟨⟨i+1,_,false,by go_num,by omega,rfl,HO3,HI,HBR.out,HRW,by omega⟩,by simp[intOf];omega⟩
  ·obtain rfl:i=3:=by omega
   have HE:=ad (show okv=(cE ch&&cE si&&cE bo)by
    rw[HOK.out,HO.out,List.take_of_length_le (by rw[HL3.out];omega)])
   go_wp2_with fail;refine(iL _ _ _ _ HI.out hbs).mono ?_;rintro e w4 ⟨rfl,b4⟩;obtain⟨Y,hY,hYl,hYs⟩:=bf acc;have hYs:Y.size<=1000000000:=by omega
   rw[hY];have HB4:=ad (hbw.trans b4);clear b4 hY hYl hbw;go_wp2
   (try simp only[Exit.inBlock,Exit.then])
   go_ret2
   exact⟨Y,by rw[<-HE.out];rfl,hYs,HB4.out⟩
theorem kO (x0:Int) (x1:Int):fO 45 (.agg #[.int .i64 x0,.int .i64 x1]) 3:=by
 refine⟨333,fun _=>by kernel_rfl,fun _=>by kernel_rfl,fun w=>?_⟩;go_enter func333,ntmps333;go_wp2;go_ret;exact⟨rfl,an (ae _ w) _⟩
theorem um (x0:Int) (x1:Int):iW 45 (.agg #[.int .i64 x0,.int .i64 x1]) [x0,x1]:=fun w=>xZ x0 x1 w
theorem nP (x0:Int) (x1:Int) (w:World):Calls prog 13 #[.iface 45 (.agg #[.int .i64 x0,.int .i64 x1])] w fun e w'=>e=.returned (.bool ([x0,x1].all bF&&true))/\Below w.heap.size w w' :=
 dK (c:=3) w (um x0 x1) (gA (kO x0 x1) (by unfold kH;omega) w) (kO x0 x1) (by simp)
theorem BZ (x0:Int) (x1:Int) (w:World):Calls prog 69 #[.iface 45 (.agg #[.int .i64 x0,.int .i64 x1])] w fun e w'=>e=.returned (.int .i64 (if ([x0,x1].all bF&&true)=true then x0 else 0))/\Below w.heap.size w w' :=
 fV (c:=3) w (um x0 x1) (gA (kO x0 x1) (by unfold kH;omega) w) (kO x0 x1) (by simp) (by decide)
theorem jm (x0:Int) (x1:Option Addr) (y1 z1:Nat) (x2:Option Addr) (y2 z2:Nat) (x3:Option Addr) (y3 z3:Nat):fO 47 (.agg #[.int .i64 x0,.slice x1 y1 z1,.slice x2 y2 z2,.slice x3 y3 z3]) 4:=by
 refine⟨334,fun _=>by kernel_rfl,fun _=>by kernel_rfl,fun w=>?_⟩;go_enter func334,ntmps334;go_wp2;go_ret;exact⟨rfl,an (ae _ w) _⟩
theorem qQ (x0:Int) (x1:Option Addr) (y1 z1:Nat) (x2:Option Addr) (y2 z2:Nat) (x3:Option Addr) (y3 z3:Nat):iW 47 (.agg #[.int .i64 x0,.slice x1 y1 z1,.slice x2 y2 z2,.slice x3 y3 z3]) [x0]:=fun w=>zD x0 x1 y1 z1 x2 y2 z2 x3 y3 z3 w
theorem rh (x0:Int) (x1:Int) (x2:Int) (x3:Option Addr) (y3 z3:Nat):fO 75 (.agg #[.int .i64 x0,.int .i64 x1,.int .i64 x2,.slice x3 y3 z3]) 6:=by
 refine⟨337,fun _=>by kernel_rfl,fun _=>by kernel_rfl,fun w=>?_⟩;go_enter func337,ntmps337;go_wp2;go_ret;exact⟨rfl,an (ae _ w) _⟩
theorem wS (x0:Int) (x1:Int) (x2:Int) (x3:Option Addr) (y3 z3:Nat):iW 75 (.agg #[.int .i64 x0,.int .i64 x1,.int .i64 x2,.slice x3 y3 z3]) [x0,x1,x2]:=fun w=>zH x0 x1 x2 x3 y3 z3 w
theorem jn (x0:Int) (x1:Int) (x2:Int) (x3:Int) (x4:Int) (x5:Int) (x6:Option Addr) (y6 z6:Nat):fO 77 (.agg #[.int .i64 x0,.int .i64 x1,.int .i64 x2,.int .i64 x3,.int .i64 x4,.int .i64 x5,.slice x6 y6 z6]) 7:=by
 refine⟨338,fun _=>by kernel_rfl,fun _=>by kernel_rfl,fun w=>?_⟩;go_enter func338,ntmps338;go_wp2;go_ret;exact⟨rfl,an (ae _ w) _⟩
theorem nC (x0:Int) (x1:Int) (x2:Int) (x3:Int) (x4:Int) (x5:Int) (x6:Option Addr) (y6 z6:Nat):iW 77 (.agg #[.int .i64 x0,.int .i64 x1,.int .i64 x2,.int .i64 x3,.int .i64 x4,.int .i64 x5,.slice x6 y6 z6]) [x0,x1,x2,x3,x4,x5]:=fun w=>zG x0 x1 x2 x3 x4 x5 x6 y6 z6 w
theorem mO (x0:Int) (x1:Int) (x2:Int):fO 79 (.agg #[.int .i64 x0,.int .i64 x1,.int .i64 x2]) 8:=by
 refine⟨339,fun _=>by kernel_rfl,fun _=>by kernel_rfl,fun w=>?_⟩;go_enter func339,ntmps339;go_wp2;go_ret;exact⟨rfl,an (ae _ w) _⟩
theorem zC (x0:Int) (x1:Int) (x2:Int):iW 79 (.agg #[.int .i64 x0,.int .i64 x1,.int .i64 x2]) [x0,x1,x2]:=fun w=>Bv x0 x1 x2 w
theorem wM (x0:Int) (x1:Int) (x2:Int) (w:World):Calls prog 13 #[.iface 79 (.agg #[.int .i64 x0,.int .i64 x1,.int .i64 x2])] w fun e w'=>e=.returned (.bool ([x0,x1,x2].all bF&&true))/\Below w.heap.size w w' :=
 dK (c:=8) w (zC x0 x1 x2) (gA (mO x0 x1 x2) (by unfold kH;omega) w) (mO x0 x1 x2) (by simp)
theorem xn (x0:Int) (x1:Int) (x2:Int) (w:World):Calls prog 69 #[.iface 79 (.agg #[.int .i64 x0,.int .i64 x1,.int .i64 x2])] w fun e w'=>e=.returned (.int .i64 (if ([x0,x1,x2].all bF&&true)=true then x0 else 0))/\Below w.heap.size w w' :=
 fV (c:=8) w (zC x0 x1 x2) (gA (mO x0 x1 x2) (by unfold kH;omega) w) (mO x0 x1 x2) (by simp) (by decide)
theorem pk (x0:Int) (x1:Int) (x2:Int) (x3:Int):fO 81 (.agg #[.int .i64 x0,.int .i64 x1,.int .i64 x2,.int .i64 x3]) 9:=by
 refine⟨340,fun _=>by kernel_rfl,fun _=>by kernel_rfl,fun w=>?_⟩;go_enter func340,ntmps340;go_wp2;go_ret;exact⟨rfl,an (ae _ w) _⟩
theorem zB (x0:Int) (x1:Int) (x2:Int) (x3:Int):iW 81 (.agg #[.int .i64 x0,.int .i64 x1,.int .i64 x2,.int .i64 x3]) [x0,x1,x2,x3]:=fun w=>Bu x0 x1 x2 x3 w
theorem Fu (x0:Int) (x1:Int) (x2:Int) (x3:Int) (w:World):Calls prog 13 #[.iface 81 (.agg #[.int .i64 x0,.int .i64 x1,.int .i64 x2,.int .i64 x3])] w fun e w'=>e=.returned (.bool ([x0,x1,x2,x3].all bF&&true))/\Below w.heap.size w w' :=
 dK (c:=9) w (zB x0 x1 x2 x3) (gA (pk x0 x1 x2 x3) (by unfold kH;omega) w) (pk x0 x1 x2 x3) (by simp)
theorem Gp (x0:Int) (x1:Int) (x2:Int) (x3:Int) (w:World):Calls prog 69 #[.iface 81 (.agg #[.int .i64 x0,.int .i64 x1,.int .i64 x2,.int .i64 x3])] w fun e w'=>e=.returned (.int .i64 (if ([x0,x1,x2,x3].all bF&&true)=true then x0 else 0))/\Below w.heap.size w w' :=
 fV (c:=9) w (zB x0 x1 x2 x3) (gA (pk x0 x1 x2 x3) (by unfold kH;omega) w) (pk x0 x1 x2 x3) (by simp) (by decide)
theorem nF (x0:Int) (x1:Int) (x2:Int) (x3:Int):fO 83 (.agg #[.int .i64 x0,.int .i64 x1,.int .i64 x2,.int .i64 x3]) 10:=by
 refine⟨341,fun _=>by kernel_rfl,fun _=>by kernel_rfl,fun w=>?_⟩;go_enter func341,ntmps341;go_wp2;go_ret;exact⟨rfl,an (ae _ w) _⟩
theorem wR (x0:Int) (x1:Int) (x2:Int) (x3:Int):iW 83 (.agg #[.int .i64 x0,.int .i64 x1,.int .i64 x2,.int .i64 x3]) [x0,x1,x2,x3]:=fun w=>zE x0 x1 x2 x3 w
theorem Du (x0:Int) (x1:Int) (x2:Int) (x3:Int) (w:World):Calls prog 13 #[.iface 83 (.agg #[.int .i64 x0,.int .i64 x1,.int .i64 x2,.int .i64 x3])] w fun e w'=>e=.returned (.bool ([x0,x1,x2,x3].all bF&&true))/\Below w.heap.size w w' :=
 dK (c:=10) w (wR x0 x1 x2 x3) (gA (nF x0 x1 x2 x3) (by unfold kH;omega) w) (nF x0 x1 x2 x3) (by simp)
theorem Eo (x0:Int) (x1:Int) (x2:Int) (x3:Int) (w:World):Calls prog 69 #[.iface 83 (.agg #[.int .i64 x0,.int .i64 x1,.int .i64 x2,.int .i64 x3])] w fun e w'=>e=.returned (.int .i64 (if ([x0,x1,x2,x3].all bF&&true)=true then x0 else 0))/\Below w.heap.size w w' :=
 fV (c:=10) w (wR x0 x1 x2 x3) (gA (nF x0 x1 x2 x3) (by unfold kH;omega) w) (nF x0 x1 x2 x3) (by simp) (by decide)
theorem sG (x0:Int) (x1:ByteArray) (x2:Int) (x3:Int) (x4:Int) (x5:Option Addr) (y5 z5:Nat):fO 42 (.agg #[.int .i64 x0,.string x1,.int .i64 x2,.int .i64 x3,.int .i64 x4,.slice x5 y5 z5]) 11:=by
 refine⟨332,fun _=>by kernel_rfl,fun _=>by kernel_rfl,fun w=>?_⟩;go_enter func332,ntmps332;go_wp2;go_ret;exact⟨rfl,an (ae _ w) _⟩
theorem Bt (x0:Int) (x1:ByteArray) (x2:Int) (x3:Int) (x4:Int) (x5:Option Addr) (y5 z5:Nat):iW 42 (.agg #[.int .i64 x0,.string x1,.int .i64 x2,.int .i64 x3,.int .i64 x4,.slice x5 y5 z5]) [x0]:=fun w=>vy x0 x1 x2 x3 x4 x5 y5 z5 w
theorem xf (x0:Int) (x1:ByteArray) (x2:Int):fO 49 (.agg #[.int .i64 x0,.string x1,.int .i64 x2]) 12:=by
 refine⟨335,fun _=>by kernel_rfl,fun _=>by kernel_rfl,fun w=>?_⟩;go_enter func335,ntmps335;go_wp2;go_ret;exact⟨rfl,an (ae _ w) _⟩
theorem FO (x0:Int) (x1:ByteArray) (x2:Int):iW 49 (.agg #[.int .i64 x0,.string x1,.int .i64 x2]) [x0]:=fun w=>zF x0 x1 x2 w
end Go.Proofs.YtmgmknmaepjnoaaGreatDoor
