/-
  Messages: the parts of Logs, Have, View; the kinds.
-/
import Derived.Test.YtmgmknmaepjnoaaGreatDoorMsgB
import Derived.Test.YtmgmknmaepjnoaaGreatDoorNodT
namespace Go.Proofs.YtmgmknmaepjnoaaGreatDoor
open Go.RowKit Go.Shelf Proofs.Tryz
theorem Df (v0 v1 v2 v3 v4 v5 v6:Value) (w:World):(Instr.field 77 (.agg #[v0,v1,v2,v3,v4,v5,v6]) 6).run prog w=.ok v6 w:=by kernel_rfl
def qt (qs:List bu):Bool:=decide (qs.length≤8)&&(ag qs).all Evt.bB
set_option maxHeartbeats 16000000 in
set_option maxRecDepth 100000 in
theorem CG {a:World} (x0 x1 x2 x3 x4 x5:Int) (va:Option Addr) (vc:Nat) (qs:List bu) (HK:gX 77 (.agg #[.int .i64 x0,.int .i64 x1,.int .i64 x2,.int .i64 x3,.int .i64 x4,.int .i64 x5,.slice va qs.length vc]) 7) (hE:Env a) (hc:dK a (.slice va qs.length vc) qs) (hn:qs.length≤40) :
 jW 77 (.agg #[.int .i64 x0,.int .i64 x1,.int .i64 x2,.int .i64 x3,.int .i64 x4,.int .i64 x5,.slice va qs.length vc]) a (qt qs):=by
 intro w hw
 obtain⟨kf,HM,HM2,HK⟩:=HK
 have HK:=ad HK
 have hA:=BA
 have hF:=Df
 have HB0:=ad ((ae _ w).alloc ab (.cells #[.pointer none,.slice none 0 0] 169))
 have HPB:=ad (fun W (hb:Below w.heap.size w W)=>Cy (.slice va qs.length vc) qs W ((hE.next hw).next hb) ((hc.next hw).next hb) hn)
 obtain⟨B,hB⟩:∃B,(ag qs).all Evt.bB=B:=⟨_,rfl⟩
 unfold qt
 rw[hB]at HPB ⊢
 clear hw hE hc hB
 go_enter func81,ntmps81
 go_wp2_with fail
 refine(HK.out _).mono ?_
 rintro e w1 ⟨rfl,hb⟩
 have HB:=ad (HB0.out.trans (hb.mono (by simp)))
 clear hb HK HM HM2
 go_wp2_with fail
 refine(HPB.out w1 HB.out).mono ?_
 rintro e w2 ⟨r,rfl,hr,hrs,hb2⟩
 have HB2:=ad (Below.up HB.out ab hb2)
 clear hb2 hr HB HB0
 by_cases h8:qs.length≤8
 ·have h8i:(qs.length:Int)≤8:=by omega
  have HD:=ad (show(decide (qs.length≤8)&&B)=B by rw[decide_eq_true h8];rfl)
  go_wp2_with fail
  refine(HPB.out w2 HB2.out).mono ?_
  rintro e w3 ⟨r2,rfl,hr2,hrs2,hb3⟩
  have HB3:=ad (Below.up HB2.out ab hb3)
  have hre:=hr2.out
  clear hb3 hr2 HB2 HPB
  cases B with
  |true =>
   have h0:r2.toList.isEmpty=false:=by
    rw[Lib.toList_data]
    cases h:r2.data.toList with
    |nil=>rw[h]at hre;cases hre
    |cons x r=>rfl
   clear hre
   go_wp2
   (try simp only[Exit.inBlock,Exit.then])
   go_ret2
   exact⟨r,by rw[HD.out];rfl,by omega,HB3.out⟩
  |false =>
   have h0:r2.toList.isEmpty=true:=by
    rw[Lib.toList_data]
    cases h:r2.data.toList with
    |nil=>rfl
    |cons x r=>rw[h]at hre;cases hre
   clear hre
   go_wp2
   (try simp only[Exit.inBlock,Exit.then])
   go_ret2
   exact⟨r,by rw[HD.out];rfl,by omega,HB3.out⟩
 ·have h8i:¬(qs.length:Int)≤8:=by omega
  have HD:=ad (show(decide (qs.length≤8)&&B)=false by rw[decide_eq_false h8];rfl)
  clear HPB
  go_wp2
  (try simp only[Exit.inBlock,Exit.then])
  go_ret2
  exact⟨r,by first|rfl|(rw[HD.out];rfl),by omega,HB2.out⟩
def dB (l:List Int):Bool:=decide (l.length≤6)&&l.all cp
def qS (w:World) (b:Nat) (vs:List Value):Prop:=w.heap[b]?=some (.cells vs.toArray 32 (0,0))
set_option maxHeartbeats 32000000 in
set_option maxRecDepth 100000 in
theorem CE {a:World} (V:Vw) (A:iy) (HK:gX 47 (dS V A) 4) (hV:gD a V A) (h1:V.ch.length≤100) (h2:V.si.length≤100) (h3:V.bo.length≤100) :
 jW 47 (dS V A) a (dB V.ch&&dB V.si&&dB V.bo):=by
 obtain⟨ep,ch,si,bo⟩:=V
 obtain⟨ca,cc,sa,sc,ba,bc⟩:=A
 intro w hw
 obtain⟨kf,HM,HM2,HK⟩:=HK
 have HK:=ad HK
 have hA:=Is
 have HBL0:=ad (jd w)
 have HB0:=ad ((ae _ w).alloc ab (.cells #[.pointer none,.slice none 0 0] 169))
 have HV:=ad (hV.next hw)
 clear hV hw
 go_enter func81,ntmps81
 go_wp2_with fail
 refine(HK.out _).mono ?_
 rintro e w1 ⟨rfl,hb⟩
 have HB:=ad (HB0.out.trans (hb.mono (by simp)))
 have HBL:=ad (fR.next HBL0.out hb)
 clear hb HK HM HM2
 obtain⟨L3,hL3⟩:∃L3,[ch,si,bo]=L3:=⟨_,rfl⟩
 obtain⟨S3,hS3⟩:∃S3,[Value.slice ca ch.length cc,.slice sa si.length sc,.slice ba bo.length bc]=S3:=⟨_,rfl⟩
 have HG:=ad (show ∀i,i<3→∃(l:List Int) (a:Option Addr) (c:Nat),L3[i]?=some l∧S3[i]?=some (.slice a l.length c)∧Cells w (.slice a l.length c) 1 l.length (aD l)∧l.length≤100 by
  intro i hi
  rw[←hL3,←hS3]
  match i,hi with
  |0,_=>exact⟨_,_,_,rfl,rfl,HV.out.1,h1⟩
  |1,_=>exact⟨_,_,_,rfl,rfl,HV.out.2.1,h2⟩
  |2,_=>exact⟨_,_,_,rfl,rfl,HV.out.2.2.1,h3⟩)
 have HOK:=ad (show(dB ch&&dB si&&dB bo)=L3.all dB by rw[←hL3];simp[Bool.and_assoc])
 have HL3:=ad (show L3.length=3 by rw[←hL3];rfl)
 obtain⟨W,hW⟩:∃W,((w1.alloc (.cells #[.int .i64 ep,.slice ca ch.length cc,.slice sa si.length sc,.slice ba bo.length bc] 47)).alloc (.cells #[.slice ca ch.length cc,.slice sa si.length sc,.slice ba bo.length bc] 32))=W:=⟨_,rfl⟩
 have bW:Below w1.heap.size w1 W:=by rw[←hW];exact ay (ay (ae _ w1) _) _
 have HR3:=ad (show qS W (w1.heap.size+1) S3 by
  rw[←hW,←hS3]
  have:=heap_alloc_new (w1.alloc (.cells #[.int .i64 ep,.slice ca ch.length cc,.slice sa si.length sc,.slice ba bo.length bc] 47)) (.cells #[.slice ca ch.length cc,.slice sa si.length sc,.slice ba bo.length bc] 32)
  rw[World.size_alloc]at this
  exact this)
 have HBW:=ad (aC (Below.up HB.out ab bW) (fR.next HBL.out bW))
 have hne:w.heap.size≠w1.heap.size+1:=by
  have:=HB.out.size
  omega
 have HNE:=ad hne
 have HW:=ad hW
 clear hL3 hS3 hW bW hne HB HBL HB0 HBL0 HV h1 h2 h3
 unfold dS
 go_wp2
 rw[HW.out]
 go_loopw [6,34] (fun ok lv wr=>∃(i:Nat) (acc:List UInt8) (okv:Bool),lv=.int .i64 i∧i≤3∧ok=.bool okv∧Hid (okv=(L3.take i).all dB)∧Hid (fR w.heap.size w.heap.size acc wr)∧Below w.heap.size w wr∧Hid (qS wr (w1.heap.size+1) S3)∧acc.length≤i*700) (fun _ lv _=>3-(intOf lv).toNat)
 case atStart=>exact⟨0,[],true,rfl,by omega,rfl,ad rfl,ad HBW.out.2,HBW.out.1,HR3,by simp⟩
 case round =>
  obtain⟨i,acc,okv,rfl,hi,rfl,HO,HI,hbw,HRW,hal⟩:=hrel
  have hbs:=hbw.size
  by_cases hp:i<3
  ·obtain⟨l,la,lc,g1,g2,g3,g4⟩:=HG.out i hp
   have hcell:wr.cell? ⟨w1.heap.size+1,i,none⟩=some (.slice la l.length lc):=by
    rw[aw HRW.out]
    show S3.toArray[i]?=_
    rw[List.getElem?_toArray];exact g2
   have HO2:=ad (show(okv&&dB l)=(L3.take (i+1)).all dB by
    rw[HO.out,List.take_add_one,g1,List.all_append];simp)
   have HCL:=ad g3
   have h6:=Num.cr _ (Num.cB (l.length:Int))
   obtain⟨X,hX,hXl,hXs⟩:=bh (Num.put (Num.held (l.length:Int)))
   have HNP:=ad (fun Z=>by have:=dL (l.length:Int) Z;rw[hX]at this;exact this)
   have HBR:=ad hbw
   clear hX g1 g2 g3 HO hbw
   go_wp2_with fail
   refine(HNP.out _).mono ?_
   rintro e w2 ⟨rfl,b2⟩
   have HI2:=ad (fR.next HI.out b2)
   have HB2:=ad (Below.up HBR.out ab b2)
   have HR2:=ad (show qS w2 (w1.heap.size+1) S3 from ax b2 ab HRW.out)
   have hs2:=HB2.out.size
   clear b2 HNP HI HRW HBR hcell
   go_wp2_with fail
   refine(writeString _ _ acc X w2 HI2.out (by omega) hs2).mono ?_
   rintro e w3 ⟨rfl,h3,b3,k3⟩
   have HB3:=ad (HB2.out.trans b3)
   have H3:=ad h3
   have HR3':=ad (show qS w3 (w1.heap.size+1) S3 from k3 _ _ HR2.out (by simp only[ne_eq,Option.some.injEq];exact fun e=>HNE.out e.symm) (fun c fz e=>by simp only[Obj.cells.injEq]at e;exact absurd e.2.1 (by decide)))
   have hal3:(acc++X.data.toList).length=acc.length+X.size:=by rw[List.length_append,Lib.size_eq]
   clear h3 b3 k3 hs2 HI2 HB2 HR2
   go_wp2
   go_loopw [44] (fun lv wr=>∃(k:Nat) (acc2:List UInt8),lv=.int .i64 k∧k≤l.length∧Hid (fR w.heap.size w.heap.size acc2 wr)∧Below w.heap.size w wr∧Hid (qS wr (w1.heap.size+1) S3)∧acc2.length≤i*700+6+k*6) (fun lv _=>l.length-(intOf lv).toNat)
   case atStart=>exact⟨0,_,rfl,by omega,H3,HB3.out,HR3',by omega⟩
   case round =>
    obtain⟨k,acc2,rfl,hk,HI,hbw,HRW,hal2⟩:=hrel
    have hbs:=hbw.size
    by_cases hp2:k<l.length
    ·obtain⟨b',o',c',hv,hcell⟩:=lx (Cells.next HCL.out hbw) k hp2
     cases hv
     obtain⟨x,hx⟩:∃x,l[k]=x:=⟨_,rfl⟩
     rw[hx]at hcell
     have h6:=Num.cr _ (Num.cB x)
     obtain⟨X2,hX,hXl,hXs⟩:=bh (Num.put (Num.held x))
     have HNP:=ad (fun Z=>by have:=dL x Z;rw[hX]at this;exact this)
     have HBR:=ad hbw
     clear hX hx hbw
     go_wp2_with fail
     refine(HNP.out _).mono ?_
     rintro e w4 ⟨rfl,b4⟩
     have HI4:=ad (fR.next HI.out b4)
     have HB4:=ad (Below.up HBR.out ab b4)
     have HR4:=ad (show qS w4 (w1.heap.size+1) S3 from ax b4 ab HRW.out)
     have hs4:=HB4.out.size
     clear b4 HNP HI HRW HBR hcell
     go_wp2_with fail
     refine(writeString _ _ acc2 X2 w4 HI4.out (by omega) hs4).mono ?_
     rintro e w5 ⟨rfl,h5,b5,k5⟩
     have HB5:=ad (HB4.out.trans b5)
     have H5:=ad h5
     have HR5:=ad (show qS w5 (w1.heap.size+1) S3 from k5 _ _ HR4.out (by simp only[ne_eq,Option.some.injEq];exact fun e=>HNE.out e.symm) (fun c fz e=>by simp only[Obj.cells.injEq]at e;exact absurd e.2.1 (by decide)))
     have hal5:(acc2++X2.data.toList).length=acc2.length+X2.size:=by rw[List.length_append,Lib.size_eq]
     clear h5 b5 k5 hs4 HI4 HB4 HR4
     go_wp2
     exact⟨⟨k+1,_,by go_num,by omega,H5,HB5.out,HR5,by omega⟩,by simp[intOf];omega⟩
    ·obtain rfl:k=l.length:=by omega
     have HCW:=ad (Fi _ l wr (Cells.next HCL.out hbw) (by omega))
     have HNB:=ad (yH l)
     have HBR:=ad hbw
     clear hbw
     cases okv with
     |false =>
      have HO3:=ad (show false=(L3.take (i+1)).all dB by rw[←HO2.out];rfl)
      clear HCW HO2
      go_wp2
      exact⟨⟨i+1,_,false,by go_num,by omega,rfl,HO3,HI,HBR.out,HRW,by omega⟩,by simp[intOf];omega⟩
     |true =>
      by_cases h6l:l.length≤6
      ·have h6i:(l.length:Int)≤6:=by omega
       obtain⟨nb,hnb⟩:∃nb,(l.any fun n=>!cp n)=nb:=⟨_,rfl⟩
       rw[hnb]at HCW
       have HO3:=ad (show(!nb)=(L3.take (i+1)).all dB by
        rw[←HO2.out,←hnb,←HNB.out]
        unfold dB
        rw[decide_eq_true h6l];rfl)
       clear HO2 hnb
       go_wp2_with fail
       refine HCW.out.mono ?_
       rintro e w6 ⟨rfl,b6⟩
       have HI6:=ad (fR.next HI.out b6)
       have HB6:=ad (Below.up HBR.out ab b6)
       have HR6:=ad (show qS w6 (w1.heap.size+1) S3 from ax b6 ab HRW.out)
       clear b6 HCW HI HBR HRW
       go_wp2
       exact⟨⟨i+1,_,!nb,by go_num,by omega,rfl,HO3,HI6,HB6.out,HR6,by omega⟩,by simp[intOf];omega⟩
      ·have h6i:¬(l.length:Int)≤6:=by omega
       have HO3:=ad (show false=(L3.take (i+1)).all dB by
        rw[←HO2.out]
        unfold dB
        rw[decide_eq_false h6l];rfl)
       clear HCW HO2
       go_wp2
       exact⟨⟨i+1,_,false,by go_num,by omega,rfl,HO3,HI,HBR.out,HRW,by omega⟩,by simp[intOf];omega⟩
  ·obtain rfl:i=3:=by omega
   have HE:=ad (show okv=(dB ch&&dB si&&dB bo)by
    rw[HOK.out,HO.out,List.take_of_length_le (by rw[HL3.out];omega)])
   go_wp2_with fail
   refine(je _ _ _ _ HI.out hbs).mono ?_
   rintro e w4 ⟨rfl,b4⟩
   obtain⟨Y,hY,hYl,hYs⟩:=bh acc
   have hYs:Y.size≤1000000000:=by omega
   rw[hY]
   have HB4:=ad (hbw.trans b4)
   clear b4 hY hYl hbw
   go_wp2
   (try simp only[Exit.inBlock,Exit.then])
   go_ret2
   exact⟨Y,by rw[←HE.out];rfl,hYs,HB4.out⟩
theorem ku (x0:Int) (x1:Int):gX 45 (.agg #[.int .i64 x0,.int .i64 x1]) 3:=by
 refine⟨333,fun _=>by kernel_rfl,fun _=>by kernel_rfl,fun w=>?_⟩
 go_enter func333,ntmps333
 go_wp2
 go_ret
 exact⟨rfl,ay (ae _ w) _⟩
theorem tC (x0:Int) (x1:Int):kE 45 (.agg #[.int .i64 x0,.int .i64 x1]) [x0,x1]:=fun w=>wY x0 x1 w
theorem nA (x0:Int) (x1:Int) (w:World):Calls prog 13 #[.iface 45 (.agg #[.int .i64 x0,.int .i64 x1])] w fun e w'=>e=.returned (.bool ([x0,x1].all cp&&true))∧Below w.heap.size w w' :=
 gz (c:=3) w (tC x0 x1) (kU (ku x0 x1) (by unfold pZ;omega) w) (ku x0 x1) (by simp)
theorem AX (x0:Int) (x1:Int) (w:World):Calls prog 69 #[.iface 45 (.agg #[.int .i64 x0,.int .i64 x1])] w fun e w'=>e=.returned (.int .i64 (if ([x0,x1].all cp&&true)=true then x0 else 0))∧Below w.heap.size w w' :=
 mx (c:=3) w (tC x0 x1) (kU (ku x0 x1) (by unfold pZ;omega) w) (ku x0 x1) (by simp) (by decide)
theorem vM (x0:Int) (x1:Option Addr) (y1 z1:Nat) (x2:Option Addr) (y2 z2:Nat) (x3:Option Addr) (y3 z3:Nat):gX 47 (.agg #[.int .i64 x0,.slice x1 y1 z1,.slice x2 y2 z2,.slice x3 y3 z3]) 4:=by
 refine⟨334,fun _=>by kernel_rfl,fun _=>by kernel_rfl,fun w=>?_⟩
 go_enter func334,ntmps334
 go_wp2
 go_ret
 exact⟨rfl,ay (ae _ w) _⟩
theorem Ez (x0:Int) (x1:Option Addr) (y1 z1:Nat) (x2:Option Addr) (y2 z2:Nat) (x3:Option Addr) (y3 z3:Nat):kE 47 (.agg #[.int .i64 x0,.slice x1 y1 z1,.slice x2 y2 z2,.slice x3 y3 z3]) [x0]:=fun w=>yD x0 x1 y1 z1 x2 y2 z2 x3 y3 z3 w
theorem mZ (x0:Int) (x1:Int) (x2:Int) (x3:Int) (x4:Int) (x5:Int) (x6:Option Addr) (y6 z6:Nat):gX 77 (.agg #[.int .i64 x0,.int .i64 x1,.int .i64 x2,.int .i64 x3,.int .i64 x4,.int .i64 x5,.slice x6 y6 z6]) 7:=by
 refine⟨338,fun _=>by kernel_rfl,fun _=>by kernel_rfl,fun w=>?_⟩
 go_enter func338,ntmps338
 go_wp2
 go_ret
 exact⟨rfl,ay (ae _ w) _⟩
theorem vD (x0:Int) (x1:Int) (x2:Int) (x3:Int) (x4:Int) (x5:Int) (x6:Option Addr) (y6 z6:Nat):kE 77 (.agg #[.int .i64 x0,.int .i64 x1,.int .i64 x2,.int .i64 x3,.int .i64 x4,.int .i64 x5,.slice x6 y6 z6]) [x0,x1,x2,x3,x4,x5]:=fun w=>yF x0 x1 x2 x3 x4 x5 x6 y6 z6 w
theorem mz (x0:Int) (x1:Int) (x2:Int):gX 79 (.agg #[.int .i64 x0,.int .i64 x1,.int .i64 x2]) 8:=by
 refine⟨339,fun _=>by kernel_rfl,fun _=>by kernel_rfl,fun w=>?_⟩
 go_enter func339,ntmps339
 go_wp2
 go_ret
 exact⟨rfl,ay (ae _ w) _⟩
theorem yC (x0:Int) (x1:Int) (x2:Int):kE 79 (.agg #[.int .i64 x0,.int .i64 x1,.int .i64 x2]) [x0,x1,x2]:=fun w=>Au x0 x1 x2 w
theorem Ei (x0:Int) (x1:Int) (x2:Int) (w:World):Calls prog 13 #[.iface 79 (.agg #[.int .i64 x0,.int .i64 x1,.int .i64 x2])] w fun e w'=>e=.returned (.bool ([x0,x1,x2].all cp&&true))∧Below w.heap.size w w' :=
 gz (c:=8) w (yC x0 x1 x2) (kU (mz x0 x1 x2) (by unfold pZ;omega) w) (mz x0 x1 x2) (by simp)
theorem E9 (x0:Int) (x1:Int) (x2:Int) (w:World):Calls prog 69 #[.iface 79 (.agg #[.int .i64 x0,.int .i64 x1,.int .i64 x2])] w fun e w'=>e=.returned (.int .i64 (if ([x0,x1,x2].all cp&&true)=true then x0 else 0))∧Below w.heap.size w w' :=
 mx (c:=8) w (yC x0 x1 x2) (kU (mz x0 x1 x2) (by unfold pZ;omega) w) (mz x0 x1 x2) (by simp) (by decide)
theorem rI (x0:Int) (x1:ByteArray) (x2:Int) (x3:Int) (x4:Int) (x5:Option Addr) (y5 z5:Nat):gX 42 (.agg #[.int .i64 x0,.string x1,.int .i64 x2,.int .i64 x3,.int .i64 x4,.slice x5 y5 z5]) 11:=by
 refine⟨332,fun _=>by kernel_rfl,fun _=>by kernel_rfl,fun w=>?_⟩
 go_enter func332,ntmps332
 go_wp2
 go_ret
 exact⟨rfl,ay (ae _ w) _⟩
theorem As (x0:Int) (x1:ByteArray) (x2:Int) (x3:Int) (x4:Int) (x5:Option Addr) (y5 z5:Nat):kE 42 (.agg #[.int .i64 x0,.string x1,.int .i64 x2,.int .i64 x3,.int .i64 x4,.slice x5 y5 z5]) [x0]:=fun w=>uF x0 x1 x2 x3 x4 x5 y5 z5 w
theorem vN (x0:Int) (x1:ByteArray) (x2:Int):gX 49 (.agg #[.int .i64 x0,.string x1,.int .i64 x2]) 12:=by
 refine⟨335,fun _=>by kernel_rfl,fun _=>by kernel_rfl,fun w=>?_⟩
 go_enter func335,ntmps335
 go_wp2
 go_ret
 exact⟨rfl,ay (ae _ w) _⟩
theorem EA (x0:Int) (x1:ByteArray) (x2:Int):kE 49 (.agg #[.int .i64 x0,.string x1,.int .i64 x2]) [x0]:=fun w=>yE x0 x1 x2 w
end Go.Proofs.YtmgmknmaepjnoaaGreatDoor
