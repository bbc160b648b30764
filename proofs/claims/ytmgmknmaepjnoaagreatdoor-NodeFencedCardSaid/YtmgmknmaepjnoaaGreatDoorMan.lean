/-
  The walks of manifest (layer 10): Right, write, Save, Load (of what is right).
-/
import Derived.Test.YtmgmknmaepjnoaaGreatDoorAt
namespace Go.Proofs.YtmgmknmaepjnoaaGreatDoor
open Go.RowKit Go.Shelf Proofs.Tryz
theorem D8 {w:World} {v:Value} {l:List Int} (h:Cells w v 1 l.length (aE l)) (i:Nat) (hi:i<l.length) :
 ∃b o c,v=.slice (some ⟨b,o,none⟩) l.length c/\w.cell? ⟨b,o+i,none⟩=some (.int .i64 l[i]):=by
 rcases h.2 with⟨h0,_⟩|⟨b,o,c,h1,h2⟩
 ·omega
 ·exact⟨b,o,c,h1,h2 i _ (by simp[aE,aR hi])⟩
theorem aJ {w:World} {v:Value} {sz n:Nat} {xs:List Value} (h:Cells w v sz n xs):∃va vc,v=.slice va n vc:=by
 rcases cC h with⟨h0,a,c,rfl⟩|⟨b,o,c,rfl⟩
 ·exact⟨a,c,by rw[h0]⟩
 ·exact⟨_,_,rfl⟩
theorem al.Ig {m n:Int} {l:List Int} (h:¬n<=m):al.dM m (n::l)=al.dM n l:=by rw[al.dM,if_neg h]
theorem al.D5 {m n:Int} {l:List Int} (h:n<=m):al.dM m (n::l)=none:=by rw[al.dM,if_pos h]
theorem al.Dt {next:Int} {l:List Int} (h:al.dM 0 l=none):al.right next l=false:=by unfold al.right;rw[h]
theorem al.Ds {next m:Int} {l:List Int} (h:al.dM 0 l=some m):al.right next l=(decide (m<next)&&decide (next<=1073741824)&&decide (l.length<=30)):=by unfold al.right;rw[h]
theorem al.oT {next m:Int} {l:List Int} {a b c r:Bool} (h:al.dM 0 l=some m) (ha:decide (m<next)=a) (hb:decide (next<=1073741824)=b) (hc:decide (l.length<=30)=c) (hr:(a&&b&&c)=r):al.right next l=r:=by
 rw[al.Ds h,ha,hb,hc,hr]
set_option maxHeartbeats 2000000 in
theorem qV (next:Int) (v:Value) (segs:List Int) (w:World) (hc:Cells w v 1 segs.length (aE segs)) (hn:segs.length<=1000000) :
 Calls prog 192 #[.agg #[.int .i64 next,v]] w fun e w'=>e=.returned (.bool (al.right next segs))/\Below w.heap.size w w':=by
 obtain⟨va,vc,rfl⟩:=aJ hc;obtain⟨W,hW⟩:∃W,W=w.alloc (.cells #[.int .i64 next,.slice va segs.length vc] 253):=⟨_,rfl⟩;have sb:W.heap[w.heap.size]?=some (.cells #[.int .i64 next,.slice va segs.length vc] 253 (0,0)):=by rw[hW];exact heap_alloc_new w _
 have hb:Below w.heap.size w W:=by rw[hW];exact(ae _ w).alloc ab _
 have HC:=ad (hc.next hb);have HB:=ad hb;have HW:=ad hW;have m0:W.cell? ⟨w.heap.size,0,none⟩=some (.int .i64 next):=aq sb rfl;have m1:W.cell? ⟨w.heap.size,1,none⟩=some (.slice va segs.length vc):=aq sb rfl;clear hc hb hW sb;go_enter func192,ntmps192;go_wp2;rw[<-HW.out]
 go_loopw [3,9] (fun la lv wr=>∃(i:Nat) (m:Int),la=.int .i64 m/\lv=.int .i64 i/\i<=segs.length/\wr=W/\Hid (al.dM 0 segs=al.dM m (segs.drop i))) (fun _ lv _=>segs.length-(intOf lv).toNat)
 case atStart=>exact⟨0,0,rfl,rfl,by omega,rfl,ad rfl⟩
 case round =>
  obtain⟨i,m,rfl,rfl,hi,rfl,HL⟩:=hrel;by_cases hp:i<segs.length
  ·obtain⟨b,o,c,hv,k0⟩:=D8 HC.out i hp;cases hv;obtain⟨x,hx⟩:∃x,segs[i]=x:=⟨_,rfl⟩;have hd:segs.drop i=x::segs.drop (i+1):=by rw[<-hx];exact List.drop_eq_getElem_cons hp
   rw[hx]at k0;by_cases hle:x<=m
   ·have HR:=ad (al.Dt (next:=next) (show al.dM 0 segs=none by rw[HL.out,hd,al.D5 hle]));clear hx hd HL;go_wp2;go_ret;exact⟨by rw[HR.out];rfl,HB.out⟩
   ·have HN:=ad (show al.dM 0 segs=al.dM x (segs.drop (i+1))by rw[HL.out,hd,al.Ig hle]);clear hx hd HL;go_wp2;exact⟨⟨i+1,x,rfl,by go_num,by omega,trivial,HN⟩,by simp[intOf];omega⟩
  ·have HS:=ad (show al.dM 0 segs=some m by rw[HL.out,List.drop_eq_nil_of_le (by omega)];rfl);clear HL;by_cases h1:m<next
   ·by_cases h2:next<=1073741824
    ·by_cases h3:segs.length<=30
     ·have HR:=ad (al.oT HS.out (decide_eq_true h1) (decide_eq_true h2) (decide_eq_true h3) rfl);have h3':(segs.length:Int)<=30:=by omega
      clear HS;go_wp2;go_ret;exact⟨by rw[HR.out];rfl,HB.out⟩
     ·have HR:=ad (al.oT HS.out (decide_eq_true h1) (decide_eq_true h2) (decide_eq_false h3) rfl);have h3':¬(segs.length:Int)<=30:=by omega
      clear HS;go_wp2;go_ret;exact⟨by rw[HR.out];rfl,HB.out⟩
    ·have HR:=ad (al.oT (r:=false) HS.out (decide_eq_true h1) (decide_eq_false h2) rfl (by simp));clear HS;go_wp2;go_ret;exact⟨by rw[HR.out];rfl,HB.out⟩
   ·have HR:=ad (al.oT (r:=false) HS.out (decide_eq_false h1) rfl rfl (by simp));clear HS;go_wp2;go_ret;exact⟨by rw[HR.out];rfl,HB.out⟩
set_option maxHeartbeats 4000000 in
theorem qU (a:World) (d:Nat) (room:Int) (fs:List Dk.ai) (ft:Nat->Prop) (nm s:ByteArray) (w:World) (hA:fF a w ft) (h:bw w d room fs ft) (hn:nm.size<=1000000000) (hs:s.size<=1000000000000) :
 Calls prog 158 #[.pointer (some ⟨d,0,none⟩),.string nm,.string s] w fun e w'=>e=.returned (.int .i64 ((al.fT room nm.data.toList s fs).2:Nat))/\DStep d room (al.fT room nm.data.toList s fs).1 ft w w':=by
 have HDL:=ad (dO d room fs ft ⟨#[116,101,109,112]⟩ w h (by decide));have HA:=ad hA;obtain⟨F1,hF1⟩:∃F1,(Dk.delete af.bQ fs).1=F1:=⟨_,rfl⟩;obtain⟨⟨F2,c2⟩,hF2⟩:∃P,Dk.append room af.bQ s F1=P:=⟨_,rfl⟩;have HC:=ad (show al.fT room nm.data.toList s fs=if c2=0 then Dk.rename af.bQ nm.data.toList (Dk.sync af.bQ F2).1 else ((Dk.delete af.bQ F2).1,c2)by rw[al.fT,hF1,hF2]);clear hA h;go_enter func158,ntmps158;go_wp2_with fail;refine HDL.out.mono ?_;rintro e w1 ⟨rfl,ft1,hd1,hf1,ht1⟩;rw[show(Dk.delete (⟨#[116,101,109,112]⟩:ByteArray).data.toList fs).1=F1 from hF1]at hd1;have HA1:=ad (HA.out.cJ ht1 hf1);have HT1:=ad (aB ht1 hf1);have HAP:=ad (iD d room F1 ft1 ⟨#[116,101,109,112]⟩ s w1 HA1.out.fW hd1 (by decide) hs);clear HDL hd1 hf1 ht1;go_wp2_with fail;refine HAP.out.mono ?_;rintro e w2 ⟨rfl,ft2,hd2,hf2,ht2⟩;rw[show Dk.append room (⟨#[116,101,109,112]⟩:ByteArray).data.toList s F1=(F2,c2)from hF2]at hd2 ⊢;have HA2:=ad (HA1.out.cJ ht2 hf2);have HT2:=ad (aB ht2 hf2);clear hF1 hF2 HAP;simp only at hd2 ⊢;by_cases h0:c2=0
 ·subst h0;have HC:=ad (HC.out.trans (if_pos rfl));have HS:=ad (gN d room F2 ft2 ⟨#[116,101,109,112]⟩ w2 hd2 (by decide));clear hd2 hf2 ht2;go_wp2_with fail;refine HS.out.mono ?_;rintro e w3 ⟨rfl,ft3,hd3,hf3,ht3⟩;have HA3:=ad (HA2.out.cJ ht3 hf3);have HT3:=ad (aB ht3 hf3);have HR:=ad (iC d room _ ft3 ⟨#[116,101,109,112]⟩ nm w3 HA3.out.fW hd3 (by decide) hn);clear hd3 hf3 ht3 HS;go_wp2_with fail;refine HR.out.mono ?_;rintro e w4 ⟨rfl,hds⟩;have HD:=ad (DStep.trans HT1.out.1 HT1.out.2 (DStep.trans HT2.out.1 HT2.out.2 (DStep.trans HT3.out.1 HT3.out.2 hds)));clear hds HR;go_wp2;go_ret;exact⟨by rw[HC.out];rfl,by rw[HC.out];exact HD.out⟩
 ·have HC:=ad (HC.out.trans (if_neg h0));have hc0:((c2:Int) != 0)=true:=by rw[bne_iff_ne];omega
  have HS:=ad (dO d room F2 ft2 ⟨#[116,101,109,112]⟩ w2 hd2 (by decide));clear hd2 hf2 ht2 h0;go_wp2_with fail;refine HS.out.mono ?_;rintro e w3 ⟨rfl,hds⟩;have HD:=ad (DStep.trans HT1.out.1 HT1.out.2 (DStep.trans HT2.out.1 HT2.out.2 hds));clear hds HS;go_wp2;go_ret;exact⟨by rw[HC.out];rfl,by rw[HC.out];exact HD.out⟩
theorem nM (B b:Nat) (l:List UInt8) (n:Int) (w:World) (h:fP B b l w) (hl:l.length<=1000000) (hB:B<=w.heap.size) :
 Calls prog 195 #[.int .i64 n,.pointer (some ⟨b,0,none⟩)] w fun e w'=>e=.returned (.tuple #[])/\fP B b (l++Num.put (Num.held n)) w'/\Below B w w':=by
 have HP:=ad (dF n w);have HB:=ad h;have hp6:=Num.ct _ (Num.cB n);obtain⟨S,hS⟩:∃S:ByteArray,S=⟨(Num.put (Num.held n)).toArray⟩:=⟨_,rfl⟩;have hSl:S.data.toList=Num.put (Num.held n):=by rw[hS]
 have hSs:S.size<=6:=by rw[Lib.size_eq,hSl];exact hp6
 rw[<-hS]at HP;rw[<-hSl];clear h hS hSl hp6;go_enter func195,ntmps195;go_wp2_with fail;refine HP.out.mono ?_;rintro e w1 ⟨rfl,b1⟩;have HW:=ad (writeString B b l S w1 (HB.out.next b1) (by omega) (Nat.le_trans hB b1.size));have HB1:=ad (b1.mono hB);clear HP b1;go_wp2_with fail;refine HW.out.mono ?_;rintro e w2 ⟨rfl,h2,h3,_⟩;have HX:=ad (aB h2 (HB1.out.trans h3));clear h2 h3 HW;go_wp2;go_end0;exact⟨rfl,HX.out.1,HX.out.2⟩
def al.mW (next:Int) (segs:List Int) (i:Nat):List UInt8:=Num.put (Num.held next)++(Num.put (Num.held segs.length)++(segs.take i).flatMap fun n=>Num.put (Num.held n))
theorem al.GJ {next:Int} {segs:List Int} {i:Nat} {x:Int} (hi:i<segs.length) (hx:segs[i]=x):al.mW next segs i++Num.put (Num.held x)=al.mW next segs (i+1):=by
 subst hx;unfold al.mW;rw[List.take_succ_eq_append_getElem hi,List.flatMap_append];simp[List.append_assoc]
theorem al.AH (next:Int) (segs:List Int) (i:Nat) (hn:segs.length<=30):(al.mW next segs i).length<=200:=by
 have h:=(al.pM next (segs.take i)).1;have h2:=Num.ct _ (Num.cB segs.length);have h3:=Num.ct _ (Num.cB (segs.take i).length);have h5:(segs.take i).length<=segs.length:=(by rw[List.length_take];omega);have h6:∀x,(Num.put x).length>=1:=fun x=>List.length_pos_iff.2 (Num.FB x);have:=h6 (Num.held (segs.take i).length);unfold al.body at h;simp only[List.length_append]at h;simp only[al.mW,List.length_append];omega
theorem al.AI (next:Int) (segs:List Int):al.mW next segs segs.length=al.body next segs:=by unfold al.mW al.body;rw[List.take_length]
theorem al.BV {next:Int} {segs:List Int} (hn:segs.length<=30) {r:ByteArray} {c:Nat} (h:Frm.put (al.body next segs)=(r.data.toList,c)):r=al.bytes next segs:=by
 obtain⟨h1,h2⟩:=al.pM next segs
 unfold Frm.put at h;rw[if_neg h2,if_neg (by omega)]at h;have:=(Prod.mk.inj h).1;exact sd this.symm
theorem al.y8 {next:Int} {segs:List Int} (h:al.right next segs=true):segs.length<=30:=(al.dC h).2.2.1
set_option maxHeartbeats 4000000 in
theorem sE (a:World) (d:Nat) (room next:Int) (v:Value) (segs:List Int) (fs:List Dk.ai) (ft:Nat->Prop) (w:World) (hA:fF a w ft) (h:bw w d room fs ft) (hc:Cells w v 1 segs.length (aE segs)) (hn:segs.length<=1000000) :
 Calls prog 146 #[.pointer (some ⟨d,0,none⟩),.agg #[.int .i64 next,v]] w fun e w'=>e=.returned (.int .i64 ((al.save room next segs fs).2:Nat))/\DStep d room (al.save room next segs fs).1 ft w w':=by
 obtain⟨va,vc,rfl⟩:=aJ hc;obtain⟨W,hW⟩:∃W,W=w.alloc (.cells #[.int .i64 next,.slice va segs.length vc] 253):=⟨_,rfl⟩;have sb:W.heap[w.heap.size]?=some (.cells #[.int .i64 next,.slice va segs.length vc] 253 (0,0)):=by rw[hW];exact heap_alloc_new w _
 have hb:Below w.heap.size w W:=by rw[hW];exact(ae _ w).alloc ab _
 have HC:=ad (hc.next hb);have HB:=ad hb;have HW:=ad hW;have HWs:=ad (show W.heap.size=w.heap.size+1 by rw[hW];simp);have HA:=ad hA;have HD:=ad h;have m0:W.cell? ⟨w.heap.size,0,none⟩=some (.int .i64 next):=aq sb rfl;have m1:W.cell? ⟨w.heap.size,1,none⟩=some (.slice va segs.length vc):=aq sb rfl;have HR:=ad (qV next (.slice va segs.length vc) segs W HC.out hn);clear hA h hc hb hW sb;go_enter func146,ntmps146;go_wp2_with fail;rw[<-HW.out];refine HR.out.mono ?_;rintro e w1 ⟨rfl,b1⟩;cases hr:al.right next segs with
 |false =>
  have HN:=ad (show al.save room next segs fs=(fs,1)by rw[al.save,hr];rfl);have HB1:=ad (Below.up HB.out ab b1);clear hr b1 HR;go_wp2;go_ret;exact⟨by rw[HN.out];rfl,by rw[HN.out];exact DStep.aI HD.out HB1.out⟩
 |true =>
  have HN:=ad (show al.save room next segs fs=al.fT room al.file (al.bytes next segs) fs by rw[al.save,hr];rfl);have h30:=al.y8 hr;have hb1:=Below.up HB.out ab b1;have hlt:w.heap.size<w1.heap.size:=by have h1:=b1.size;have h2:=HWs.out;omega
  have n0:=cell_kept b1 ab m0;have n1:=cell_kept b1 ab m1;have hC1:=HC.out.next b1;obtain⟨W2,hW2⟩:∃W2,W2=w1.alloc (.cells #[.pointer none,.slice none 0 0] 169):=⟨_,rfl⟩;have hbl:fP w1.heap.size w1.heap.size [] W2:=by rw[hW2];exact iK w1
  have hb2:Below w1.heap.size w1 W2:=by rw[hW2];exact(ae _ w1).alloc ab _
  have HW2:=ad hW2;have HP1:=ad (nM w1.heap.size w1.heap.size [] next W2 hbl (by simp) hb2.size);have hbL:=(ae _ w1).alloc ab (.cells #[.pointer none,.slice none 0 0] 169);have n0L:=cell_kept hbL ab n0;have n0':=cell_kept hb2 ab n0;have n1':=cell_kept hb2 ab n1;have HB1:=ad hb1;have HB2:=ad hb2;have HC1:=ad hC1;clear hr b1 HR hW2 hbl hb1 hb2 hC1 m0 m1 n0 n1 hbL;go_wp2_with fail;rw[<-HW2.out];refine HP1.out.mono ?_;rintro e w3 ⟨rfl,hl3,b3⟩;have HP2:=ad (nM w1.heap.size w1.heap.size _ segs.length w3 hl3 (by have:=Num.ct _ (Num.cB next);simp;omega) (Nat.le_trans HB2.out.size b3.size));have hB3:=HB2.out.trans b3;have q0:w3.cell? ⟨w.heap.size,0,none⟩=some (.int .i64 next):=(b3.cell (p:=⟨w.heap.size,0,none⟩) hlt).trans n0';have q1:w3.cell? ⟨w.heap.size,1,none⟩=some (.slice va segs.length vc):=(b3.cell (p:=⟨w.heap.size,1,none⟩) hlt).trans n1';have HB3:=ad hB3;clear HP1 hl3 b3 n0' n1' hB3;go_wp2_with fail;refine HP2.out.mono ?_;rintro e w4 ⟨rfl,hl4,b4⟩;have hB4:=HB3.out.trans b4;have r1:w4.cell? ⟨w.heap.size,1,none⟩=some (.slice va segs.length vc):=(b4.cell (p:=⟨w.heap.size,1,none⟩) hlt).trans q1;have HL4:=ad (show fP w1.heap.size w1.heap.size (al.mW next segs 0) w4 by simpa[al.mW]using hl4);have HB4:=ad hB4;clear HP2 hl4 b4 q0 q1 hB4;go_wp2
  go_loopw [27] (fun lv wr=>∃i:Nat,lv=.int .i64 i/\i<=segs.length/\fP w1.heap.size w1.heap.size (al.mW next segs i) wr/\Below w1.heap.size w1 wr) (fun lv _=>segs.length-(intOf lv).toNat)
  case atStart=>exact⟨0,rfl,by omega,HL4.out,HB4.out⟩
  case round =>
   obtain⟨i,rfl,hi,hl,hbw⟩:=hrel;have HLi:=ad hl;have HBi:=ad hbw;clear hl hbw;by_cases hp:i<segs.length
   ·obtain⟨b,o,c,hv,k0⟩:=D8 HC1.out i hp;cases hv;have k0:=cell_kept HBi.out ab k0;obtain⟨x,hx⟩:∃x,segs[i]=x:=⟨_,rfl⟩;rw[hx]at k0;have HX:=ad (al.GJ hp hx (next:=next));have HPi:=ad (nM w1.heap.size w1.heap.size _ x wr HLi.out (by have:=al.AH next segs i h30;omega) HBi.out.size);clear hx;go_wp2_with fail;refine HPi.out.mono ?_;rintro e w5 ⟨rfl,hl5,b5⟩;rw[HX.out]at hl5;have HY:=ad (aB hl5 (HBi.out.trans b5));clear hl5 b5 HPi;go_wp2;exact⟨⟨i+1,by go_num,by omega,HY.out.1,HY.out.2⟩,by simp[intOf];omega⟩
   ·obtain rfl:i=segs.length:=by omega
    have HS:=ad (iL w1.heap.size w1.heap.size _ wr HLi.out HBi.out.size);obtain⟨SB,hSB⟩:∃SB:ByteArray,SB=⟨(al.mW next segs segs.length).toArray⟩:=⟨_,rfl⟩;have hSBl:SB.data.toList=al.body next segs:=by rw[hSB];exact al.AI next segs
    have hSs:SB.size<=1000:=by have:=al.AH next segs segs.length h30;rw[al.AI]at this;rw[Lib.size_eq,hSBl];omega
    rw[<-hSB]at HS;have HSL:=ad hSBl;clear hSB hSBl;go_wp2_with fail;refine HS.out.mono ?_;rintro e w5 ⟨rfl,b5⟩;have HF:=ad (iB SB w5 (by omega));have HB5:=ad (HBi.out.trans b5);clear HS b5;go_wp2_with fail;refine HF.out.mono ?_;rintro e w6 ⟨r,c,rfl,hF,hr8,b6⟩;have HRB:=ad (al.BV h30 (by rw[<-HSL.out];exact hF.out));have hB6:Below w.heap.size w w6:=(HB1.out.trans (HB5.out.mono (by have:=HB1.out.size;exact this))).trans (b6.mono (Nat.le_trans HB1.out.size HB5.out.size));have HWR:=ad (qU a d room fs ft ⟨#[109,97,110,105,102,101,115,116]⟩ r w6 (HA.out.next hB6) (HD.out.next hB6) (by decide) (by omega));have HB6:=ad hB6;clear HF hF b6 hB6;go_wp2_with fail;refine HWR.out.mono ?_;rintro e w7 ⟨rfl,hds⟩;have HDS:=ad (DStep.under HB6.out hds);have HEQ:=ad (show al.fT room (⟨#[109,97,110,105,102,101,115,116]⟩:ByteArray).data.toList r fs=al.save room next segs fs by rw[HN.out,HRB.out];rfl);clear hds HWR;rw[HEQ.out]at HDS ⊢;go_wp2;go_ret;exact⟨rfl,HDS.out⟩
theorem al.yH {n:Nat} {l:List UInt8} {xs:List Int} {st:List UInt8×Nat}:∀{c:Nat},c≠0->al.iU n (l,c)=(xs,st)->st.2≠0:=by
 intro c hc h;cases n with
 |zero=>rw[al.iU]at h;cases h;exact hc
 |succ n=>rw[al.iU,if_pos hc]at h;cases h;exact hc
theorem al.Cj {n:Nat} {l:List UInt8} {xs:List Int} {st:List UInt8×Nat} (h:al.iU (n+1) (l,0)=(xs,st)) (h0:st.2=0):∃k r ys,Num.take l=(k,r,0)/\xs=(k:Int)::ys/\al.iU n (r,0)=(ys,st):=by
 rw[al.iU,if_neg (by simp)]at h;obtain⟨⟨k,r,c⟩,ht⟩:∃t,Num.take l=t:=⟨_,rfl⟩;have e:al.tk (l,0)=(k,r,c):=by unfold al.tk;simp only;rw[ht];simp
 rw[e]at h;simp only[Prod.mk.injEq]at h;by_cases hc:c=0
 ·subst hc;exact⟨k,r,(al.iU n (r,0)).1,ht,h.1.symm,Prod.ext rfl h.2⟩
 ·have:=al.yH (n:=n) (l:=r) (xs:=(al.iU n (r,c)).1) (st:=st) hc (Prod.ext rfl h.2);exact absurd h0 this
theorem al.Ck:∀{n:Nat} {l:List UInt8} {xs:List Int} {st:List UInt8×Nat},al.iU n (l,0)=(xs,st)->st.2=0->xs.length=n
 |0,l,xs,st,h,_=>by rw[al.iU]at h;cases h;rfl
 |n+1,l,xs,st,h,h0=>by
  obtain⟨k,r,ys,_,rfl,h2⟩:=al.Cj h h0;rw[List.length_cons,al.Ck h2 h0]
theorem al.FJ {s:List UInt8} {next:Int} {segs:List Int} (h:al.parse s=((next,segs),0)) :
 ∃l0 n l1 l2,Frm.take s=(l0,[],0)/\Num.take l0=(n,l1,0)/\next=(n:Int)/\Num.take l1=(segs.length,l2,0)/\al.iU segs.length (l2,0)=(segs,[],0)/\al.right next segs=true:=by
 unfold al.parse at h;simp only at h;split at h
 ·rename_i hc;simp only[Prod.mk.injEq,and_true]at h;obtain⟨h1,h2⟩:=h;obtain⟨c1,c2,c3,c4⟩:=hc;obtain⟨⟨l0,r,c⟩,hf⟩:∃t,Frm.take s=t:=⟨_,rfl⟩;rw[hf]at h1 h2 c1 c2 c3 c4;simp only at h1 h2 c1 c2 c3 c4;subst c3;obtain⟨⟨n,l1,k1⟩,hn⟩:∃t,Num.take l0=t:=⟨_,rfl⟩;have ea:al.tk (l0,c)=(n,l1,if c=0 then k1 else c):=by unfold al.tk;simp only;rw[hn]
  rw[ea]at h1 h2 c1 c2 c4;simp only at h1 h2 c1 c2 c4;obtain⟨⟨m,l2,k2⟩,hm⟩:∃t,Num.take l1=t:=⟨_,rfl⟩;have eb:al.tk (l1,if c=0 then k1 else c)=(m,l2,if (if c=0 then k1 else c)=0 then k2 else (if c=0 then k1 else c)):=by unfold al.tk;simp only;rw[hm]
  rw[eb]at h2 c1 c2 c4;simp only at h2 c1 c2 c4;obtain⟨⟨xs,l3,k3⟩,hx⟩:∃t,al.iU m (l2,if (if c=0 then k1 else c)=0 then k2 else (if c=0 then k1 else c))=t:=⟨_,rfl⟩;rw[hx]at h2 c1 c2 c4;simp only at h2 c1 c2 c4;subst c1 c2 h2;have e2:(if (if c=0 then k1 else c)=0 then k2 else (if c=0 then k1 else c))=0:=by
   by_cases e:(if (if c=0 then k1 else c)=0 then k2 else (if c=0 then k1 else c))=0
   ·exact e
   ·exact absurd rfl (al.yH (st:=([],0)) e hx)
  rw[e2]at hx;have e1:(if c=0 then k1 else c)=0:=by
   by_cases e:(if c=0 then k1 else c)=0
   ·exact e
   ·rw[if_neg e]at e2;exact e2
  rw[if_pos e1]at e2;have e0:c=0:=by
   by_cases e:c=0
   ·exact e
   ·rw[if_neg e]at e1;exact e1
  rw[if_pos e0]at e1;subst e0 e1 e2;have hl:=al.Ck hx rfl;rw[<-hl]at hx hm;exact⟨l0,n,l1,l2,hf,hn,h1.symm,hm,hx,by rw[<-h1];exact c4⟩
 ·cases h
def jE (b:Nat) (S:ByteArray) (w:World):Prop:=w.heap[b]?=some (.cells #[.string S] 9 (0,0))
def jg (b:Nat) (c:Int) (w:World):Prop:=w.heap[b]?=some (.cells #[.int .i64 c] 97 (0,0))
def cp (b:Nat) (next:Int) (v:Value) (w:World):Prop:=w.heap[b]?=some (.cells #[.int .i64 next,v] 253 (0,0))
theorem cp.cells {b:Nat} {n:Int} {v:Value} {w:World} (h:cp b n v w):w.cell? ⟨b,0,none⟩=some (.int .i64 n)/\w.cell? ⟨b,1,none⟩=some v/\w.frozen? ⟨b,0,none⟩=false/\w.frozen? ⟨b,1,none⟩=false:=by
 refine⟨?_,?_,ay h 0,ay h 1⟩ <;> (rw[aw h];rfl)
theorem cp.next {b:Nat} {n:Int} {v:Value} {w w':World} (h:cp b n v w) (hb:Below w.heap.size w w'):cp b n v w':=au hb ab h
theorem cp.kept {b:Nat} {n:Int} {v:Value} {w w':World} {r:Option Nat} (h:cp b n v w) (hg:w.grownBy w' r) (hr:some b≠r):cp b n v w':=(hg.block b (aA.1 h).1 hr).trans h
set_option maxHeartbeats 2000000 in
theorem qw (bl be:Nat) (S:ByteArray) (n:Nat) (r:List UInt8) (w:World) (hne:be≠bl) (hl:jE bl S w) (he:jg be 0 w) (hS:S.size<=1000000000000) (hT:Num.take S.data.toList=(n,r,0)) :
 Calls prog 191 #[.pointer (some ⟨bl,0,none⟩),.pointer (some ⟨be,0,none⟩)] w fun e w'=>∃R:ByteArray,e=.returned (.int .i64 n)/\Hid (R.data.toList=r)/\R.size<=S.size/\jE bl R w'/\jg be 0 w'/\w.grownBy w' (some bl):=by
 have HT:=ad hT;have k0:w.cell? ⟨bl,0,none⟩=some (.string S):=aq hl rfl;have HN:=ad (fS S w hS);have HL:=ad hl;have HE:=ad he;clear hl he hT;go_enter func191,ntmps191;go_wp2_with fail;refine HN.out.mono ?_;rintro e w1 ⟨k,R,c,rfl,hR,b1⟩;obtain⟨e1,e2,e3⟩:k=n/\R.data.toList=r/\c=0:=by have:=hR.out;rw[HT.out]at this;simp only[Prod.mk.injEq]at this;exact⟨this.1.symm,this.2.1.symm,this.2.2.symm⟩
 subst e1 e3;have hRs:R.size<=S.size:=by
  have h1:=(Num.fH S.data.toList).2.1;rw[HT.out,<-e2]at h1;rw[Lib.size_eq,Lib.size_eq];exact h1
 have hl1:jE bl S w1:=au b1 ab HL.out;have he1:jg be 0 w1:=au b1 ab HE.out;have kl:=show w1.cell? ⟨bl,0,none⟩=some (.string S)from aq hl1 rfl;have fl:=ay hl1 0;have fe:=ay he1 0;have hl2:jE bl R (w1.setCell ⟨bl,0,none⟩ (.string R)):=av (i:=0) hl1 (.string R);have he2:jg be 0 (w1.setCell ⟨bl,0,none⟩ (.string R)):=(Below.heap_setCell _ _ _ be hne).trans he1;have c2:(w1.setCell ⟨bl,0,none⟩ (.string R)).cell? ⟨be,0,none⟩=some (.int .i64 0):=aq he2 rfl;have fe2:=ay he2 0;have he3:jg be 0 ((w1.setCell ⟨bl,0,none⟩ (.string R)).setCell ⟨be,0,none⟩ (.int .i64 0)):=av (i:=0) he2 (.int .i64 0);have hl3:jE bl R ((w1.setCell ⟨bl,0,none⟩ (.string R)).setCell ⟨be,0,none⟩ (.int .i64 0)):=(Below.heap_setCell _ _ _ bl (fun h=>hne h.symm)).trans hl2;have hg:w.grownBy ((w1.setCell ⟨bl,0,none⟩ (.string R)).setCell ⟨be,0,none⟩ (.int .i64 0)) (some bl):=by
  refine⟨b1.os,b1.tape,b1.output,by have:=b1.size;simp;omega,fun j hj hr=>?_⟩;have hjb:j≠bl:=fun e=>hr (by rw[e]);by_cases hje:j=be
  ·rw[hje,he3,HE.out]
  ·rw[Below.heap_setCell _ _ _ j hje,Below.heap_setCell _ _ _ j hjb];exact b1.block j hj
 have HX:=ad (aB hl3 (aB he3 hg));have HR2:=ad e2;clear HT HN HL HE hR b1 hl1 he1 hl2 he2 he3 hl3 hg e2;go_wp2;go_ret;exact⟨R,rfl,HR2,hRs,HX.out.1,HX.out.2.1,HX.out.2.2⟩
theorem KC:fh prog 32 3 1:=by
 have h:(prog.info? 3).map (fun i=>(i.zero,i.size,i.bytes))=some (some (.int .i64 0),1,8):=by kernel_rfl
 obtain⟨i0,hi,hz0,hz1,hz2⟩:=info_parts h;exact⟨underlying32,⟨i0,_,8,hi,hz0,hz1,hz2,rfl,by omega⟩,by omega⟩
theorem tq:(prog.info? 253).map (·.size)=some 2:=by kernel_rfl
theorem mG {w:World} {B e sz n b ty:Nat} {v:Value} {xs:List Value} {c:Array Value} {fr:Nat×Nat} (h:w.ownsRow B e sz v n xs) (hb:w.heap[b]?=some (.cells c ty fr)) (hne:ty≠e):v.ownBlock≠some b:=by
 rcases h.2 with⟨rfl,_⟩|⟨g,cap,cur,rfl,_,hg,_⟩
 ·simp[Value.ownBlock]
 ·intro e';simp only[Value.ownBlock,Option.some.injEq]at e';subst e';rw[hg]at hb;cases hb;exact hne rfl
theorem mH {w w':World} {B e sz n b ty:Nat} {v:Value} {xs:List Value} {c:Array Value} {fr:Nat×Nat} (h:w.ownsRow B e sz v n xs) (hb:w.heap[b]?=some (.cells c ty fr)) (hne:ty≠e) (hg:w.grownBy w' (some b)):w'.ownsRow B e sz v n xs :=
 h.kept hg (.inr (mG h hb hne))
theorem uZ (w:World) (e:TypeId) (c:Value):Cells (w.alloc (.cells #[c] e)) (.slice (some ⟨w.heap.size,0,none⟩) 1 1) 1 1 [c]:=by
 refine⟨rfl,.inr ⟨w.heap.size,0,1,rfl,fun j u hj=>?_⟩⟩
 match j with
 |0 =>
  simp only[List.getElem?_cons_zero,Option.some.injEq]at hj;subst hj;rw[aw (heap_alloc_new w (.cells #[c] e))];rfl
 |j+1=>simp at hj
theorem dN {w w0 w':World} {B b:Nat} (h:Below B w w0) (hB:B<=w0.heap.size) (hb:B<=b) (hg:w0.grownBy w' (some b)):Below B w w':=h.grown hg hB (fun k hk=>by cases hk;exact hb)
structure jQ (w:World) (R E L M:Nat) (next:Int) (segs:List Int) (i:Nat) (S:ByteArray) (V:Value) (wr:World):Prop where
 str:jE L S wr
 err:jg E 0 wr
 pW:cp M next V wr
 res:cp R 0 (.slice none 0 0) wr
 row:wr.ownsRow w.heap.size 3 1 V i (aE (segs.take i))
 iU:al.iU (segs.length-i) (S.data.toList,0)=(segs.drop i,[],0)
 small:S.size<=1000000000000
 below:Below w.heap.size w wr
 ne:E≠L/\M≠L/\R≠L/\R≠M/\E≠M
 ge:w.heap.size<=L/\w.heap.size<=M/\w.heap.size<=R
theorem jQ.drew {w wr:World} {R E L M i:Nat} {next:Int} {segs:List Int} {S:ByteArray} {V:Value} (h:jQ w R E L M next segs i S V wr):jQ w R E L M next segs i S V wr.drew :=
 ⟨h.str,h.err,h.pW,h.res,h.row,h.iU,h.small,h.below.drew,h.ne,h.ge⟩
theorem jQ.take {w wr w':World} {R E L M i:Nat} {next:Int} {segs:List Int} {S R':ByteArray} {V:Value} (h:jQ w R E L M next segs i S V wr) (_:jE L R' w') (_:jg E 0 w') (hg:wr.grownBy w' (some L)) :
 w'.ownsRow w.heap.size 3 1 V i (aE (segs.take i))/\cp M next V w'/\cp R 0 (.slice none 0 0) w'/\Below w.heap.size w w' :=
 ⟨mH h.row h.str (by decide) hg,(hg.block M (aA.1 h.pW).1 (by simp;exact h.ne.2.1)).trans h.pW,(hg.block R (aA.1 h.res).1 (by simp;exact h.ne.2.2.1)).trans h.res,
  dN h.below h.below.size h.ge.1 hg⟩
theorem jQ.step {w wr w' wa:World} {R E L M i:Nat} {next:Int} {segs:List Int} {S R':ByteArray} {V v':Value} {o:Obj} (h:jQ w R E L M next segs i S V wr) (hs:jE L R' w') (he:jg E 0 w') (hg:wr.grownBy w' (some L)) (hR:R'.size<=S.size)
 (hown:wa.ownsRow w.heap.size 3 1 v' (i+1) (aE (segs.take (i+1)))) (hga:(w'.alloc o).grownBy wa V.ownBlock) (ht:al.iU (segs.length-(i+1)) (R'.data.toList,0)=(segs.drop (i+1),[],0)) :
 cp M next V wa/\jQ w R E L M next segs (i+1) R' v' (wa.setCell ⟨M,1,none⟩ v'):=by
 obtain⟨q1,q2,q3,q4⟩:=h.take hs he hg;have ba:Below w'.heap.size w' (w'.alloc o):=(ae _ w').alloc ab _;have o1:=bX q1 ba;have m1:cp M next V (w'.alloc o):=au ba ab q2
 have r1:cp R 0 (.slice none 0 0) (w'.alloc o):=au ba ab q3;have s1:jE L R' (w'.alloc o):=au ba ab hs;have e1:jg E 0 (w'.alloc o):=au ba ab he;have lt:∀{b:Nat} {o':Obj},(w'.alloc o).heap[b]?=some o'->b<(w'.alloc o).heap.size:=fun hh=>(aA.1 hh).1;have m2:cp M next V wa:=(hga.block M (lt m1) (mG o1 m1 (by decide)).symm).trans m1
 have r2:cp R 0 (.slice none 0 0) wa:=(hga.block R (lt r1) (mG o1 r1 (by decide)).symm).trans r1;have s2:jE L R' wa:=(hga.block L (lt s1) (mG o1 s1 (by decide)).symm).trans s1;have e2:jg E 0 wa:=(hga.block E (lt e1) (mG o1 e1 (by decide)).symm).trans e1;have b1:Below w.heap.size w (w'.alloc o):=q4.alloc q4.size _;have b2:Below w.heap.size w wa:=b1.grown hga b1.size (fun k hk=>(o1.lt k hk).1);have hg3:=az wa M 1 v';have other:∀j,j≠M->(wa.setCell ⟨M,1,none⟩ v').heap[j]?=wa.heap[j]?:=fun j hj=>Below.heap_setCell _ ⟨M,1,none⟩ _ j hj;refine⟨m2,⟨(other L h.ne.2.1.symm).trans s2,(other E h.ne.2.2.2.2).trans e2,av (i:=1) m2 v',(other R h.ne.2.2.2.1).trans r2,mH hown m2 (by decide) hg3,ht,Nat.le_trans hR h.small,dN b2 b2.size h.ge.2.1 hg3,h.ne,h.ge⟩⟩
set_option maxHeartbeats 8000000 in
set_option maxRecDepth 100000 in
theorem BD (d:Nat) (room next:Int) (segs:List Int) (fs:List Dk.ai) (ft:Nat->Prop) (w:World) (h:bw w d room fs ft) (hroom:room<=4194304) (hl:al.load fs=((next,segs),0)) :
 Calls prog 144 #[.pointer (some ⟨d,0,none⟩)] w fun e w'=>∃v,e=.returned (.tuple #[.agg #[.int .i64 next,v],.int .i64 0])/\Hid (w'.ownsRow w.heap.size 3 1 v segs.length (aE segs))/\Below w.heap.size w w':=by
 have hb0:Below w.heap.size w (w.alloc (.cells #[.int .i64 0,.slice none 0 0] 253)):=(ae _ _).alloc ab _;have hr0:cp w.heap.size 0 (.slice none 0 0) (w.alloc (.cells #[.int .i64 0,.slice none 0 0] 253)):=heap_alloc_new w _;obtain⟨W0,hW0⟩:∃W0,W0=w.alloc (.cells #[.int .i64 0,.slice none 0 0] 253):=⟨_,rfl⟩;rw[<-hW0]at hb0 hr0;have hW0s:W0.heap.size=w.heap.size+1:=by rw[hW0];simp
 have HRD:=ad (gO d room fs ft ⟨#[109,97,110,105,102,101,115,116]⟩ W0 (h.next hb0) (by decide));obtain⟨⟨s,c⟩,hrd⟩:∃t,Dk.read al.file fs=t:=⟨_,rfl⟩;rw[show Dk.read (⟨#[109,97,110,105,102,101,115,116]⟩:ByteArray).data.toList fs=(s,c)from hrd]at HRD;have hld:al.load fs=if c=0 then al.parse s.data.toList else ((1,[]),0):=by rw[al.load,hrd]
 have hss:s.size<=4194304:=by
  have:=kg h hroom al.file
  rwa [hrd]at this
 rw[hl]at hld;have HW0:=ad hW0;have HB0:=ad hb0;have HR0:=ad hr0;clear h hl hrd hb0 hr0 hW0;go_enter func144,ntmps144;go_wp2_with fail;rw[<-HW0.out];refine HRD.out.mono ?_;rintro e w1 ⟨rfl,hw1⟩;obtain rfl:=hw1;simp only;by_cases hc0:c=0
 ·subst hc0;rw[if_pos rfl]at hld;obtain⟨l0,n,l1,l2,hf,hn,hnext,hm,hx,hright⟩:=al.FJ hld.symm;have h30:=al.y8 hright;have hb1:Below w.heap.size w (W0.alloc (.cells #[.int .i64 0] 97)):=HB0.out.alloc HB0.out.size _;have hr1:cp w.heap.size 0 (.slice none 0 0) (W0.alloc (.cells #[.int .i64 0] 97)):=cp.next HR0.out ((ae _ _).alloc ab _);have he1:jg (w.heap.size+1) 0 (W0.alloc (.cells #[.int .i64 0] 97)):=by
   have:=heap_alloc_new W0 (.cells #[.int .i64 0] 97)
   rwa [hW0s]at this
  obtain⟨W1,hW1⟩:∃W1,W1=W0.alloc (.cells #[.int .i64 0] 97):=⟨_,rfl⟩;rw[<-hW1]at hb1 hr1 he1;have HW1:=ad hW1;have HFT:=ad (lY s W1 (by omega));have H1:=ad (aB hb1 (aB hr1 he1));have HF:=ad hf;have HX:=ad hx;have HN:=ad hn;have HM:=ad hm;have HNX:=ad hnext;have HRT:=ad hright;have HWS:=ad hW0s;clear hW1 hb1 hr1 he1 hf hx hn hm hld HRD hright hnext hW0s;go_wp2_with fail;rw[<-HW1.out,HWS.out];refine HFT.out.mono ?_;rintro e w2 ⟨A,r,c,rfl,hA,b2⟩;obtain⟨e1,e2,e3⟩:A.data.toList=l0/\r.data.toList=[]/\c=0:=by have:=hA.out;rw[HF.out]at this;simp only[Prod.mk.injEq]at this;exact⟨this.1.symm,this.2.1.symm,this.2.2.symm⟩
  obtain rfl:r=⟨#[]⟩:=sd e2;subst e3;have hA9:A.size<=8000:=by
   have h1:=Frm.fH s.data.toList;rw[HF.out]at h1;rw[Lib.size_eq,e1];exact(h1.2.2 rfl).2.1
  rw[<-e1]at HN;clear hA e2 HFT;have hs2:w.heap.size+2<=w2.heap.size:=by
   have h1:=b2.size;rw[HW1.out,World.size_alloc,HWS.out]at h1;exact h1
  have ba:Below w2.heap.size w2 (w2.alloc (.cells #[.string A] 9)):=(ae _ _).alloc ab _;have he2:jg (w.heap.size+1) 0 (w2.alloc (.cells #[.string A] 9)):=au ba ab (au b2 ab H1.out.2.2);have hr2:cp w.heap.size 0 (.slice none 0 0) (w2.alloc (.cells #[.string A] 9)):=au ba ab (au b2 ab H1.out.2.1);have hl2:jE w2.heap.size A (w2.alloc (.cells #[.string A] 9)):=heap_alloc_new w2 _;have ce2:(w2.alloc (.cells #[.string A] 9)).cell? ⟨w.heap.size+1,0,none⟩=some (.int .i64 0):=aq he2 rfl;have cf2:=ay he2 0;have hb2:Below w.heap.size w (w2.alloc (.cells #[.string A] 9)):=(Below.up H1.out.1 ab b2).alloc (by omega) _;have he3:jg (w.heap.size+1) 0 ((w2.alloc (.cells #[.string A] 9)).setCell ⟨w.heap.size+1,0,none⟩ (.int .i64 0)):=av (i:=0) he2 (.int .i64 0);have hg3:=az (w2.alloc (.cells #[.string A] 9)) (w.heap.size+1) 0 (.int .i64 0);have hr3:=cp.kept hr2 hg3 (by simp);have hl3:jE w2.heap.size A ((w2.alloc (.cells #[.string A] 9)).setCell ⟨w.heap.size+1,0,none⟩ (.int .i64 0)):=(Below.heap_setCell _ ⟨w.heap.size+1,0,none⟩ _ w2.heap.size (show w2.heap.size≠w.heap.size+1 by omega)).trans hl2;have hb3:=dN hb2 (by have:=hb2.size;exact this) (by omega) hg3;obtain⟨W3,hW3⟩:∃W3,W3=(w2.alloc (.cells #[.string A] 9)).setCell ⟨w.heap.size+1,0,none⟩ (.int .i64 0):=⟨_,rfl⟩;rw[<-hW3]at he3 hr3 hl3 hb3;have HT1:=ad (qw w2.heap.size (w.heap.size+1) A n l1 W3 (by omega) hl3 he3 (by omega) HN.out);have H3:=ad (aB hr3 hb3);have HL3:=ad hl3;have HW3:=ad hW3;clear b2 ba he2 hr2 hl2 hb2 he3 hg3 hr3 hl3 hb3 hW3 e1 HN HF H1;go_wp2_with fail;rw[<-HW3.out];refine HT1.out.mono ?_;rintro e w4 ⟨R1,rfl,hR1,hRs1,hl4,he4,hg4⟩;have hr4:cp w.heap.size 0 (.slice none 0 0) w4:=cp.kept H3.out.1 hg4 (by simp;omega);have hb4:=dN H3.out.2 H3.out.2.size (by omega) hg4;have bm:Below w4.heap.size w4 (w4.alloc (.cells #[.int .i64 n,.slice none 0 0] 253)):=(ae _ _).alloc ab _;have hs4:w2.heap.size<w4.heap.size:=(aA.1 hl4).1;obtain⟨W5,hW5⟩:∃W5,W5=w4.alloc (.cells #[.int .i64 n,.slice none 0 0] 253):=⟨_,rfl⟩;have hm5:cp w4.heap.size n (.slice none 0 0) W5:=by rw[hW5];exact heap_alloc_new w4 _
  rw[<-hW5]at bm;have hl5:jE w2.heap.size R1 W5:=au bm ab hl4;have he5:jg (w.heap.size+1) 0 W5:=au bm ab he4;have hr5:cp w.heap.size 0 (.slice none 0 0) W5:=au bm ab hr4;have hb5:=Below.up hb4 ab bm;have HT2:=ad (qw w2.heap.size (w.heap.size+1) R1 segs.length l2 W5 (by omega) hl5 he5 (by omega) (by rw[hR1.out];exact HM.out));have H5:=ad (aB hr5 (aB hm5 hb5));have HW5:=ad hW5;have hs5:=bm.size;clear hl4 he4 hg4 hr4 hb4 bm hW5 hm5 hl5 he5 hr5 hb5 HT1 H3 HL3 HM hR1;go_wp2_with fail;rw[<-HW5.out];refine HT2.out.mono ?_;rintro e w6 ⟨R2,rfl,hR2,hRs2,hl6,he6,hg6⟩;have hr6:cp w.heap.size 0 (.slice none 0 0) w6:=cp.kept H5.out.1 hg6 (by simp;omega);have hm6:cp w4.heap.size n (.slice none 0 0) w6:=cp.kept H5.out.2.1 hg6 (by simp;omega);have hb6:=dN H5.out.2.2 H5.out.2.2.size (by omega) hg6;have HL0:=ad (show jQ w w.heap.size (w.heap.size+1) w2.heap.size w4.heap.size n segs 0 R2 (.slice none 0 0) w6 from
   ⟨hl6,he6,hm6,hr6,World.ownsRow_nil _ _ _ _,by rw[hR2.out];exact HX.out,by omega,hb6,⟨by omega,by omega,by omega,by omega,by omega⟩,⟨by omega,by omega,ab⟩⟩)
  have hLM:w.heap.size+1<w2.heap.size/\w2.heap.size<w4.heap.size:=⟨by omega,hs4⟩;clear hl6 he6 hg6 hr6 hm6 hb6 H5 HT2 hR2 hRs2 hRs1 hs5 hs4 hs2 HX HW5 HW3 HW1 HW0 HB0 HR0;generalize hE:w.heap.size+1=E at HL0 hLM ⊢;generalize hLL:w2.heap.size=L at HL0 hLM ⊢;generalize hMM:w4.heap.size=M at HL0 hLM ⊢;go_wp2
  go_loopw [11] (fun lv wr=>∃(i:Nat) (S:ByteArray) (V:Value),lv=.int .i64 i/\i<=segs.length/\jQ w w.heap.size E L M n segs i S V wr) (fun lv _=>segs.length-(intOf lv).toNat)
  case atStart=>exact⟨0,R2,_,rfl,by omega,HL0.out⟩
  case round =>
   obtain⟨i,S,V,rfl,hi,hA⟩:=hrel;obtain⟨Va,Vc,rfl⟩:=aJ (aj hA.row);have ce:wr.cell? ⟨E,0,none⟩=some (.int .i64 0):=aq hA.err rfl;obtain⟨c0,c1,f0,f1⟩:=cp.cells hA.pW;have HA:=ad hA;by_cases hp:i<segs.length
   ·obtain⟨x,hx⟩:∃x,segs[i]=x:=⟨_,rfl⟩;have htk:=hA.iU;rw[show segs.length-i=(segs.length-(i+1))+1 by omega,List.drop_eq_getElem_cons hp,hx]at htk;obtain⟨k,r',ys,t1,t2,t3⟩:=al.Cj htk rfl;obtain⟨rfl,rfl⟩:x=(k:Int)/\segs.drop (i+1)=ys:=by
     simp only[List.cons.injEq]at t2;exact t2
    have HT:=ad (qw L E S k r' wr.drew hA.ne.1 hA.drew.str hA.drew.err hA.small t1);have HTK:=ad t3;have HS:=ad (show aE (segs.take i)++[.int .i64 (k:Int)]=aE (segs.take (i+1))by
     rw[List.take_succ_eq_append_getElem hp,hx];simp[aE])
    clear hA htk t1 t2 t3 hx;go_wp2
    go_region_law (first
     | (refine tS rfl _ _ rfl KC w.heap.size (.slice Va i Vc) i (aE (segs.take i)) rfl HO.out _ 1 [.int .i64 (k : Int)] rfl (uZ w' 3 _) (by simp [Value.oneCell']) (by omega) HBB.out.size ?_
        intro v' wa hown hga _;obtain ⟨va', vc', rfl⟩ := aJ (aj hown);have HST := ad (HA.out.drew.step hl' he' hg' hRs' (by rw [<- HS.out]; exact hown) hga (by rw [hR'.out]; exact HTK.out));obtain ⟨g0, g1, g2, g3⟩ := cp.cells HST.out.1)
     | (go_simp; go_at_call 191; refine HT.out.mono ?_; rintro e w' ⟨R', rfl, hR', hRs', hl', he', hg'⟩
        have hq := HA.out.drew.take hl' he' hg';obtain ⟨y0, y1, y2, y3⟩ := cp.cells hq.2.1;obtain ⟨z0, z1, z2, z3⟩ := cp.cells (cp.next hq.2.1 ((ae _ w').alloc ab (.cells #[.int .i64 (k : Int)] 3)));have HBB := ad (hq.2.2.2.alloc hq.2.2.2.size (.cells #[.int .i64 (k : Int)] 3));have HO := ad (bX hq.1 ((ae _ w').alloc ab (.cells #[.int .i64 (k : Int)] 3)))))
    all_goals go_wp2
    all_goals exact⟨⟨i+1,R',_,by go_num,by omega,HST.out.2⟩,by simp[intOf];omega⟩
   ·obtain rfl:i=segs.length:=by omega
    have hS:S=⟨#[]⟩:=by
     have:=hA.iU;rw[Nat.sub_self,al.iU,List.drop_length]at this;simp only[Prod.mk.injEq,and_true,true_and]at this;exact sd this
    subst hS;have cl:wr.cell? ⟨L,0,none⟩=some (.string ⟨#[]⟩):=aq hA.str rfl;obtain⟨d0,d1,g0,g1⟩:=cp.cells hA.res;have hrow:=hA.row;rw[List.take_length]at hrow;have HRR:=qV n (.slice Va segs.length Vc) segs wr (aj hrow) (by omega);rw[show al.right (n:Int) segs=true by rw[<-HNX.out];exact HRT.out]at HRR;have HRR:=ad HRR;have HRW:=ad hrow;clear hA hrow;go_wp2_with fail;refine HRR.out.mono ?_;rintro e w7 ⟨rfl,b7⟩;have m7:cp M n (.slice Va segs.length Vc) w7:=au b7 ab HA.out.pW;have r7:cp w.heap.size 0 (.slice none 0 0) w7:=au b7 ab HA.out.res;obtain⟨a0,a1,a2,a3⟩:=cp.cells m7;obtain⟨x0,x1,x2,x3⟩:=cp.cells r7;have hp2:=av (i:=1) (av (i:=0) r7 (.int .i64 n)) (.slice Va segs.length Vc);have HP:=ad (show((w7.setCell ⟨w.heap.size,0,none⟩ (.int .i64 n)).setCell ⟨w.heap.size,1,none⟩ (.slice Va segs.length Vc)).heap[w.heap.size]?=some (.cells #[.int .i64 n,(.slice Va segs.length Vc)] 253 (0,0))from hp2);have hg2:=aF (az w7 w.heap.size 0 (.int .i64 n)) (az _ w.heap.size 1 (.slice Va segs.length Vc));have HO2:=ad (mH (bX HRW.out b7) r7 (by decide) hg2);have hb7:=Below.up HA.out.below ab b7;have HB2:=ad (dN hb7 hb7.size ab hg2);clear b7 m7 r7 hp2 hg2 hb7 HRR d0 d1 g0 g1 c0 c1 f0 f1 ce cl;go_wp2
    (try simp only[Exit.inBlock,Exit.then])
    refine bodyPost_ret (aO rfl _ _ w.heap.size _ _ _ _ rfl HP.out underlying253 rfl tq) rfl ?_;exact⟨_,by rw[HNX.out];rfl,ad HO2.out,HB2.out⟩
 ·rw[if_neg hc0]at hld;simp only[Prod.mk.injEq,and_true]at hld;obtain⟨rfl,rfl⟩:=hld;have hcb:((c:Int) != 0)=true:=by rw[bne_iff_ne];omega
  have hcz:¬(c:Int)=0:=by omega
  have be:Below W0.heap.size W0 (W0.alloc (.cells #[.int .i64 c] 97)):=(ae _ _).alloc ab _;have r1:cp w.heap.size 0 (.slice none 0 0) (W0.alloc (.cells #[.int .i64 c] 97)):=cp.next HR0.out be;obtain⟨x0,x1,x2,x3⟩:=cp.cells r1;have hp2:=av (i:=1) (av (i:=0) r1 (.int .i64 1)) (.slice none 0 0);have HP:=ad (show(((W0.alloc (.cells #[.int .i64 c] 97)).setCell ⟨w.heap.size,0,none⟩ (.int .i64 1)).setCell ⟨w.heap.size,1,none⟩ (.slice none 0 0)).heap[w.heap.size]?=some (.cells #[.int .i64 1,.slice none 0 0] 253 (0,0))from hp2);have hg2:=aF (az (W0.alloc (.cells #[.int .i64 c] 97)) w.heap.size 0 (.int .i64 1)) (az _ w.heap.size 1 (.slice none 0 0));have hb1:Below w.heap.size w (W0.alloc (.cells #[.int .i64 c] 97)):=HB0.out.alloc HB0.out.size _;have HB2:=ad (dN hb1 hb1.size ab hg2);clear be r1 hp2 hg2 hb1 hW0s HW0 HB0 hc0 HRD;go_wp2
  (try simp only[Exit.inBlock,Exit.then])
  refine bodyPost_ret (aO rfl _ _ w.heap.size _ _ _ _ rfl HP.out underlying253 rfl tq) rfl ?_;exact⟨_,rfl,ad (World.ownsRow_nil _ _ _ _),HB2.out⟩
section
attribute [local go_sem] Oper.semAt_some
theorem EG (B:Nat) (t:TypeId):Own (fun (s:List (ByteArray×Nat)) W=>Boxed W B t (.int .i64 ((gX s:Nat):Int))):=by
 rintro s X Y row ha hg hrow;refine ha.kept hg (fun e'=>?_);obtain⟨o,ho,hc⟩:=hrow B e'.symm;rw[show X.heap[B]?=_ from ha]at ho;cases ho;cases hc
set_option maxRecDepth 100000 in
set_option maxHeartbeats 2000000 in
theorem Dl (s:ByteArray) (w:World) (hs:s.size<=1073741824) :
 Calls prog 189 #[.string s] w fun e w'=>∃(v:Value) (at_:Nat),e=.returned (.tuple #[v,.int .i64 (at_:Int)])/\at_+(Frm.scan s.data.toList).2.length=s.size/\w'.ownsRow w.heap.size 9 1 v (Frm.scan s.data.toList).1.length (strCells (Frm.scan s.data.toList).1)/\Below w.heap.size w w':=by
 refine(callsIn_wide (n:=6)).1 ?_;obtain⟨i0,z0,by0,hi,hz0,hz1,hz2,hz3,hz4⟩:=GX.info;refine callsIn_of_wp_marks func189 rfl trivial ?_ rfl;simp only[ntmps189,List.size_toArray,List.length_cons,List.length_nil,Nat.reduceAdd,Nat.reduceSub,Array.replicate_succ,Array.replicate_zero,List.push_toArray,List.append_toArray,List.nil_append,List.cons_append]
 gi_wp2
 refine⟨trivial,(callsIn_wide.2 (uN s _)).mono ?_⟩;rintro e w' ⟨rfl,rfl⟩
 gi_wp2
 have bO:=((Boxed.new w 260 (.slice none 0 0)).alloc (.cells #[.int .i64 0] 3)).alloc (.cells #[.string s] 9);have bA:=(Boxed.new (w.alloc (.cells #[.slice none 0 0] 260)) 3 (.int .i64 0)).alloc (.cells #[.string s] 9);have bN:=Boxed.new ((w.alloc (.cells #[.slice none 0 0] 260)).alloc (.cells #[.int .i64 0] 3)) 9 (.string s);rw[World.size_alloc]at bA;rw[World.size_alloc,World.size_alloc]at bN;have hB0:Below w.heap.size w (((w.alloc (.cells #[.slice none 0 0] 260)).alloc (.cells #[.int .i64 0] 3)).alloc (.cells #[.string s] 9)):=(((ae _ w).alloc ab _).alloc (by simp) _).alloc (by simp;omega) _;obtain⟨W0,hW0⟩:∃W0,(((w.alloc (.cells #[.slice none 0 0] 260)).alloc (.cells #[.int .i64 0] 3)).alloc (.cells #[.string s] 9))=W0:=⟨_,rfl⟩;have hsz0:W0.heap.size=w.heap.size+3:=by rw[<-hW0];simp
 rw[hW0]at bO bA bN hB0 ⊢;clear hW0;refine wpIn_rangeFunc_ownF rfl (by omega) (gf:=255) (lb:=#[.pointer (some ⟨w.heap.size+1+1,0,none⟩)]) rfl trivial (enters_of func255 (by kernel_rfl) rfl)
  (rm 5 (by omega) (w.heap.size+1+1) s (by omega) W0 bN.cell) sI (fun W l o o' _ h1 h2 _=>sJ _ W l o o' h1 h2) (ae _ _) (fun _=>rfl)
  (fun pre W=>(∃v,Boxed W w.heap.size 260 v/\W.ownsRow (w.heap.size+3) 9 1 v (fg pre).length (strCells (fg pre))/\True)/\(Boxed W (w.heap.size+1) 3 (.int .i64 ((gX pre:Nat):Int)))/\Below w.heap.size W0 W)
  (fun _ _ _=>False)
  (OwnFrom.and (Own.from (holdsRow_own (w.heap.size+3) w.heap.size 260 9 1 (fun pre=>(fg pre).length) (fun pre=>strCells (fg pre)) (fun _ _=>True)) _) (OwnFrom.and (Own.from (EG _ _) _) (ownFrom_below (by omega) (by omega))))
  (fun _ _ _ _ _ hs _ _=>hs)
  ⟨⟨_,bO,World.ownsRow_nil _ _ _ _,trivial⟩,bA,ae _ _⟩
  (fun x=>{tmps:=#[.string s,undef,.slice none 0 0,.int .i64 0,.pointer (some ⟨w.heap.size,0,none⟩),.pointer (some ⟨w.heap.size+1,0,none⟩),.string x.1,.int .i64 x.2,.string s,.func (.func 255) #[] #[.pointer (some ⟨w.heap.size+1+1,0,none⟩)],.string x.1,.int .i64 x.2,undef,undef,undef,undef,undef,undef,undef],defers:=[]}) ?assign ?body ?done ?stop
 case assign =>
  intro l x W K hK
  gi_wp2
  exact hK
 case body =>
  rintro l pre x W ⟨⟨v,hv,hrow,_⟩,ha,hB⟩ hlt;have hc:=hv.cell;have hca:=ha.cell;have hpl:(fg pre).length<=pre.length:=by simp[fg]
  have hBs:w.heap.size+3<=W.heap.size:=by have:=hB.size;omega
  gi_wp2_with (gi_at_builtin;refine wpListIn_append_own _ rfl _ _ 260 rfl (w.heap.size+3) 9 i0 z0 1 by0 underlying260 hi hz0 hz1 hz2 hz3 (by decide) v _ _ rfl (hrow.alloc _) ⟨W.heap.size,0,none⟩ 1 1 [.string x.1] rfl rfl (lQ W [.string x.1] _) (by simp[Value.oneCell']) (by unfold maxLen;omega) (Nat.le_trans (Nat.mul_le_mul_left _ hz4) (by omega)) (by simp;omega) ?_;intro v' w1 hown' hgrow _;obtain⟨g',cap',rfl⟩:=ownsRow_succ hown';have hv1:=(hv.alloc (.cells #[.string x.1] 9)).kept hgrow (hv.not_row (by decide) hrow);have hc1:=hv1.cell;have hf1:=hv1.frozen;have ha1:=(ha.alloc (.cells #[.string x.1] 9)).kept hgrow (ha.not_row (by decide) hrow);have hc2:=ha1.cell;have hf2:=ha1.frozen)
  obtain⟨_,hv2,_,hk2,hb2⟩:=hv.appended (by decide) (bV hrow (by omega)) (Nat.le_trans (by omega) hBs) ab (bV hown' (by omega)) hgrow;have hr2:=hown'.kept (grownBy_setCell' w1 w.heap.size (.slice (some ⟨g',0,none⟩) ((fg pre).length+1) cap')) (.inr (hv1.not_row (by decide) hown').symm);have ha2:=ha1.kept (grownBy_setCell' w1 w.heap.size (.slice (some ⟨g',0,none⟩) ((fg pre).length+1) cap')) (by simp);refine⟨hk2.trans (KeepsOthers.setCell _ _ _),fun u hu=>?_,⟨⟨_,hv2.kept (grownBy_setCell' _ (w.heap.size+1) _) (by simp),?_,trivial⟩,by rw[rf];exact ha2.set _,?_⟩⟩
  ·have h1:=(hgrow.cell ((World.grownBy_alloc W _ none).cell hu (by simp)) (fun e=>by have:=(hrow.lt _ e.symm).1;simp only at this;omega):w1.cell? ⟨w.heap.size+1+1,0,none⟩=some u);exact(grownBy_setCell' _ (w.heap.size+1) _).cell ((grownBy_setCell' w1 w.heap.size _).cell h1 (by simp;omega)) (by simp)
  ·have hr3:=hr2.kept (grownBy_setCell' _ (w.heap.size+1) (.int .i64 x.2)) (.inr (ha2.not_row (by decide) hr2).symm);rw[ph];simpa[strCells]using hr3
  ·exact(hB.trans hb2).setCell (p:=⟨w.heap.size+1,0,none⟩) (by simp) _
 case done =>
  rintro D ys W hD ⟨hl1,hl2⟩ ⟨⟨v,hv,hrow,_⟩,ha,hB⟩ hK;have hc:=hv.cell;have hca:=ha.cell
  gi_wp2
  gi_region
  gi_wp2
  have hK':W.drew.heap[D]?=some (.deferred (some [])):=hK;refine⟨by simp,.inl ⟨_,_,rfl,run_takeDeferred hK',?_⟩⟩;refine⟨.tuple #[v,.int .i64 ((gX ys:Nat):Int)],?_,v,gX ys,rfl,hl2,?_,?_⟩
  ·simp[results,Tryz.f189,go_sem]
  ·rw[<-hl1];exact bV (ownsRow_putObj (hrow.kept (bZ ((ae _ W).drew)) (by cases v.ownBlock <;> simp)) _ hK' rfl) (by omega)
  ·exact(hB0.trans hB.drew).trans (belowK_b (w:=w) ab W.drew D _ _ (by omega) hK' rfl rfl)
 case stop =>
  rintro D c pre W _ _ h _;exact h.elim
theorem Ey {w:World} {v:Value} {sz n:Nat} {xs:List Value} (h:Cells w v sz n xs):∃va vc,v=.slice va n vc:=by
 rcases cC h with⟨h0,a,c,rfl⟩|⟨b,o,c,rfl⟩
 ·exact⟨a,c,by rw[h0]⟩
 ·exact⟨_,_,rfl⟩
theorem Mb {i n:Nat} (h:i<n):(i:Int)<(n:Int):=by omega
set_option maxHeartbeats 4000000 in
set_option maxRecDepth 100000 in
theorem pV (a:World) (d:Nat) (room:Int) (fs:List Dk.ai) (ft:Nat->Prop) (w:World) (_hA:fF a w ft) (h:bw w d room fs ft) (hroom:room<=4194304) :
 Calls prog 140 #[.pointer (some ⟨d,0,none⟩)] w fun e w'=>e=.returned (.tuple #[.int .i64 (al.cx fs).1,.int .i64 ((al.cx fs).2.1:Nat),.bool (al.cx fs).2.2])/\Below w.heap.size w w':=by
 obtain⟨s,hs⟩:∃s,(Dk.read al.mark fs).1=s:=⟨_,rfl⟩;obtain⟨c0,hc0⟩:∃c,(Dk.read al.mark fs).2=c:=⟨_,rfl⟩;have hss:s.size<=4194304:=by rw[<-hs];exact kg h hroom al.mark
 have HRD:=gO d room fs ft ⟨#[101,112,111,99,104]⟩ w h (by decide);rw[show(Dk.read (⟨#[101,112,111,99,104]⟩:ByteArray).data.toList fs).1=s from hs,show(Dk.read (⟨#[101,112,111,99,104]⟩:ByteArray).data.toList fs).2=c0 from hc0]at HRD;have HRD:=ad HRD;have HEP:=ad (show al.cx fs=al.rq s.data.toList by unfold al.cx;rw[hs]);have HSC:=ad (Dl s w (by omega));have hmem:=Frm.mC _ s.data.toList ab;have hcnt:=Frm.l' _ s.data.toList ab;rw[<-Lib.size_eq]at hcnt;obtain⟨L,hL⟩:∃L,(Frm.scan s.data.toList).1=L:=⟨_,rfl⟩;obtain⟨r,hr⟩:∃r,(Frm.scan s.data.toList).2=r:=⟨_,rfl⟩;have HEP:=ad (show al.cx fs=((al.ig 0 L).1,(al.ig 0 L).2.1,(al.ig 0 L).2.2&&r.isEmpty)by rw[HEP.out,al.rq,hL,hr]);rw[hL,hr]at HSC;rw[hL]at hmem hcnt;have HM:=ad hmem;have hLn:L.length<=480000:=by omega
 clear hs hc0 hL hr hmem hcnt h _hA;go_enter func140,ntmps140;go_wp2_with fail;refine HRD.out.mono ?_;rintro e w1 ⟨rfl,rfl⟩;go_wp2_with fail;refine HSC.out.mono ?_;rintro e w2 ⟨v,at_,rfl,hat,own,b2⟩;have HCL:=ad (aj own);obtain⟨sa,sc,rfl⟩:=Ey HCL.out;have HAT:=ad hat;have hatn:at_<=4194304:=by omega
 clear HRD HSC own hat;go_wp2
 go_loopw [9,27] (fun lv iv wr=>∃(i:Nat) (last:Int),lv=.int .i64 last/\iv=.int .i64 (i:Int)/\i<=L.length/\0<=last/\last<=274877906944/\Below w2.heap.size w2 wr/\Hid (al.ig 0 L=((al.ig last (L.drop i)).1,(al.ig last (L.drop i)).2.1+i,(al.ig last (L.drop i)).2.2))) (fun _ iv _=>L.length-(intOf iv).toNat)
 case atStart=>exact⟨0,0,rfl,rfl,Nat.zero_le _,by omega,by omega,ae _ _,ad rfl⟩
 case round =>
  obtain⟨i,last,rfl,rfl,hi,hl0,hl1,hbr,hinv⟩:=hrel;by_cases hgo:i<L.length
  ·have hgoI:=Mb hgo;obtain⟨b,o,c,hv,hr0⟩:=tR (Cells.next HCL.out hbr) i hgo;cases hv;obtain⟨row,hrow⟩:∃row,L[i]=row:=⟨_,rfl⟩;rw[hrow]at hr0;have hrl:=HM.out row (by rw[<-hrow];exact List.getElem_mem _);obtain⟨rs,hrs,hrd,hrz⟩:=bf row;rw[hrs]at hr0;have hz8:rs.size<=8000:=by omega
   have HD:=ad (show L.drop i=row::L.drop (i+1)by rw[List.drop_eq_getElem_cons hgo,hrow]);have HRD:=ad hrd;have HTK:=ad (fS rs wr (by omega));have HBR:=ad hbr;clear hrow hrs hrz hrl hbr hrd;go_wp2_with fail;refine HTK.out.mono ?_;rintro e w3 ⟨n,q,c1,rfl,HT,b3⟩;have HB3:=ad (HBR.out.trans (b3.mono HBR.out.size));have HOK:=ad (show al.qP last row=((c1==0)&&q.data.toList.isEmpty&&decide (last<(n:Int))&&decide ((n:Int)<=274877906944))by
    unfold al.qP;rw[<-HRD.out,HT.out])
   have HNX:=ad (show((Num.take row).1:Int)=(n:Int)by rw[<-HRD.out,HT.out]);have HBAD:=ad (fun (hb:al.qP last row=false)=>(show al.cx fs=(last,i,false)by
    rw[HEP.out,hinv.out,HD.out,al.Ap hb];simp))
   have HGO:=ad (fun (hb:al.qP last row=true)=>(show al.ig 0 L=((al.ig (n:Int) (L.drop (i+1))).1,(al.ig (n:Int) (L.drop (i+1))).2.1+(i+1),(al.ig (n:Int) (L.drop (i+1))).2.2)by
    rw[hinv.out,HD.out,al.Ar hb,HNX.out];simp only[Prod.mk.injEq,true_and,and_true];omega))
   have HBW:=ad (b2.trans (HB3.out.mono b2.size));clear HTK HT hinv HD HRD HBR b3 hr0;by_cases hc1:¬c1=0
   ·have hcb:((c1:Int) != 0)=true:=by simp;omega
    have HF:=ad (HBAD.out (by rw[HOK.out];simp;omega));clear HBAD HGO HOK HNX;go_wp2
    go_ret3
    exact⟨by rw[HF.out];rfl,HBW.out⟩
   have hc1:=Classical.not_not.mp hc1;subst hc1;cases hre:q.toList.isEmpty with
   |false =>
    have HF:=ad (HBAD.out (by rw[HOK.out];rw[<-Lib.toList_data,hre];simp));clear HBAD HGO HOK HNX;go_wp2
    go_ret3
    exact⟨by rw[HF.out];rfl,HBW.out⟩
   |true =>
   by_cases hn1:(n:Int)<=last
   ·have HF:=ad (HBAD.out (by rw[HOK.out];rw[decide_eq_false (show ¬last<(n:Int)by omega)];simp));clear HBAD HGO HOK HNX;go_wp2
    go_ret3
    exact⟨by rw[HF.out];rfl,HBW.out⟩
   by_cases hn2:274877906944<n
   ·have hn2i:(n:Int) > 274877906944:=by omega
    have HF:=ad (HBAD.out (by rw[HOK.out];rw[decide_eq_false (show ¬(n:Int)<=274877906944 by omega)];simp));clear HBAD HGO HOK HNX;go_wp2
    go_ret3
    exact⟨by rw[HF.out];rfl,HBW.out⟩
   have HG:=ad (HGO.out (by
    rw[HOK.out,<-Lib.toList_data,hre,decide_eq_true (show last<(n:Int)by omega),decide_eq_true (show(n:Int)<=274877906944 by omega)];rfl))
   clear HBAD HGO HOK HNX HEP;go_wp2;exact⟨⟨i+1,(n:Int),rfl,by go_num,hgo,by omega,by omega,HB3.out,HG⟩,by simp[intOf];omega⟩
  ·have hgoI:¬(i:Int)<(L.length:Int):=by omega
   have HFIN:=ad (show al.cx fs=(last,L.length,decide (at_=s.size))by
    have e:i=L.length:=by omega
    have h1:=hinv.out;rw[e,List.drop_length]at h1;rw[HEP.out,h1];have h2:=HAT.out;simp only[al.ig,Nat.zero_add,Bool.true_and,Prod.mk.injEq,true_and];rw[Bool.eq_iff_iff,List.isEmpty_iff,decide_eq_true_eq];exact⟨fun e=>by rw[e]at h2;simpa using h2,fun e=>aP (by omega)⟩)
   have HBW:=ad (b2.trans (hbr.mono b2.size));obtain⟨bb,hbb⟩:∃bb,decide (at_=s.size)=bb:=⟨_,rfl⟩;have hbq:((at_:Int)==(s.size:Int))=bb:=by rw[<-hbb,Bool.eq_iff_iff,beq_iff_eq,decide_eq_true_eq];omega
   rw[hbb]at HFIN;clear hinv hbr hbb;go_wp2
   go_ret3
   exact⟨by rw[HFIN.out];rfl,HBW.out⟩
theorem zU (a:World) (d:Nat) (room:Int) (fs:List Dk.ai) (ft:Nat->Prop) (w:World) (hA:fF a w ft) (h:bw w d room fs ft) (hroom:room<=4194304) :
 Calls prog 90 #[.pointer (some ⟨d,0,none⟩)] w fun e w'=>e=.returned (.int .i64 (al.cx fs).1)/\Below w.heap.size w w':=by
 have HE:=ad (pV a d room fs ft w hA h hroom);clear hA h;go_enter func90,ntmps90;go_wp2_with fail;refine HE.out.mono ?_;rintro e w1 ⟨rfl,b1⟩;go_wp2;go_ret;exact⟨rfl,b1⟩
set_option maxHeartbeats 4000000 in
set_option maxRecDepth 100000 in
theorem qW (a:World) (d:Nat) (room e:Int) (fs:List Dk.ai) (ft:Nat->Prop) (w:World) (hA:fF a w ft) (h:bw w d room fs ft) (hroom:room<=4194304) :
 Calls prog 103 #[.pointer (some ⟨d,0,none⟩),.int .i64 e] w fun r w'=>r=.returned (.int .i64 ((al.jj room e fs).2:Nat))/\DStep d room (al.jj room e fs).1 ft w w':=by
 have HE:=ad (pV a d room fs ft w hA h hroom);have HRF:=ad (show al.jj room e fs=if e<1\/274877906944<e then (fs,1) else
  if e<(al.cx fs).1 then (fs,10) else
  if e=(al.cx fs).1 then Dk.sync al.mark fs else
  if (al.lC room e fs).2=0 then Dk.sync al.mark (al.lC room e fs).1 else al.lC room e fs from rfl)
 have HKF:=ad (show al.lC room e fs=if (al.cx fs).2.2=true/\(al.cx fs).2.1<=20 then Dk.append room al.mark (al.ey e) fs else al.fT room al.mark (al.ey e) fs from rfl);obtain⟨now,many,alone,hep⟩:∃n m b,al.cx fs=(n,m,b):=⟨_,_,_,rfl⟩;rw[hep]at HE HRF HKF;simp only at HE HRF HKF;have HD:=ad h;have HA:=ad hA;clear hep h hA;go_enter func103,ntmps103;go_wp2_with fail;refine HE.out.mono ?_;rintro r w1 ⟨rfl,b1⟩;have HB1:=ad b1;clear HE b1;by_cases h1:e<1
 ·have HR:=ad (HRF.out.trans (if_pos (.inl h1)));clear HRF HKF;go_wp2;go_ret;exact⟨by rw[HR.out];rfl,by rw[HR.out];exact DStep.aI HD.out HB1.out⟩
 by_cases h2:274877906944<e
 ·have HR:=ad (HRF.out.trans (if_pos (.inr h2)));clear HRF HKF;go_wp2;go_ret;exact⟨by rw[HR.out];rfl,by rw[HR.out];exact DStep.aI HD.out HB1.out⟩
 replace HRF:=ad (HRF.out.trans (if_neg (by omega)));by_cases h3:e<now
 ·have HR:=ad (HRF.out.trans (if_pos h3));clear HRF HKF;go_wp2;go_ret;exact⟨by rw[HR.out];rfl,by rw[HR.out];exact DStep.aI HD.out HB1.out⟩
 replace HRF:=ad (HRF.out.trans (if_neg h3));by_cases h4:e=now
 ·have HR:=ad (HRF.out.trans (if_pos h4));have HS:=ad (gN d room fs ft ⟨#[101,112,111,99,104]⟩ w1 (HD.out.next HB1.out) (by decide));have h4b:(e==now)=true:=by rw[h4];simp
  clear HRF HKF;go_wp2_with fail;refine HS.out.mono ?_;rintro r w2 ⟨rfl,hds⟩;have HDS:=ad (DStep.under HB1.out hds);clear hds HS;go_wp2;go_ret;exact⟨by rw[HR.out];rfl,by rw[HR.out];exact HDS.out⟩
 replace HRF:=ad (HRF.out.trans (if_neg h4));have h4b:(e==now)=false:=by rw[beq_eq_false_iff_ne];exact h4
 have hgood:=al.jk (e:=e) (by omega) (by omega);have hlen:=Num.ct (Num.held e) (al.jz (by omega) (by omega)).2;have HPU:=ad (dF e w1);obtain⟨P,hP⟩:∃P,Num.put (Num.held e)=P:=⟨_,rfl⟩;have hrow:al.ey e=⟨(Frm.bH P).toArray⟩:=by rw[<-hP];rfl
 rw[hP]at hgood hlen HPU;have HROW:=ad hrow;have HGD:=ad hgood;have hPs:(⟨P.toArray⟩:ByteArray).size<=6:=by rw[Lib.size_eq];exact hlen
 clear hP hrow hgood hlen;go_wp2_with fail;refine HPU.out.mono ?_;rintro r w2 ⟨rfl,b2⟩;have HB2:=ad (HB1.out.trans (b2.mono HB1.out.size));have HFP:=ad (iB ⟨P.toArray⟩ w2 (by omega));clear HPU b2 HB1;go_wp2_with fail;refine HFP.out.mono ?_;rintro r w3 ⟨F,c,rfl,hF,hFs,b3⟩;have HB3:=ad (HB2.out.trans (b3.mono HB2.out.size));have hFF:F=al.ey e/\c=0:=by
  have h:Frm.put P=(F.data.toList,c):=hF.out;rw[Frm.jk HGD.out]at h;refine⟨?_,(congrArg Prod.snd h).symm⟩;rw[HROW.out];exact sd (congrArg Prod.fst h).symm
 obtain⟨hF1,rfl⟩:=hFF;rw[<-hF1]at HKF;clear HFP hF b3 HB2 HROW HGD hPs hF1;obtain⟨K,hK⟩:∃K,al.lC room e fs=K:=⟨_,rfl⟩;rw[hK]at HRF HKF;clear hK;by_cases hal:alone=true/\many<=20
 ·obtain⟨ha1,ha2⟩:=hal;subst ha1;have ha2i:(many:Int)<=20:=by omega
  replace HKF:=ad (HKF.out.trans (if_pos ⟨rfl,ha2⟩));have HAP:=ad (iD d room fs ft ⟨#[101,112,111,99,104]⟩ F w3 (HA.out.next HB3.out).fW (HD.out.next HB3.out) (by decide) (by omega));go_wp2_with fail;refine HAP.out.mono ?_;rintro r w4 ⟨rfl,hst⟩;rw[show Dk.append room (⟨#[101,112,111,99,104]⟩:ByteArray).data.toList F fs=K from HKF.out.symm]at hst ⊢;obtain⟨FK,ck⟩:=K;simp only at hst HRF ⊢;obtain⟨g4,hd4,hf4,hl4,ht4⟩:=(DStep.under HB3.out hst).open;clear HAP hst HKF;by_cases hck:ck=0
  ·subst hck;replace HRF:=ad (HRF.out.trans (if_pos rfl));have HS:=ad (gN d room FK g4 ⟨#[101,112,111,99,104]⟩ w4 hd4 (by decide));have HT:=ad (aB ht4 hf4);clear hd4 hf4 hl4 ht4;go_wp2_with fail;refine HS.out.mono ?_;rintro r w5 ⟨rfl,hds⟩;have HDS:=ad (DStep.trans HT.out.1 HT.out.2 hds);clear hds HS;go_wp2;go_ret;exact⟨by rw[HRF.out];rfl,by rw[HRF.out];exact HDS.out⟩
  ·replace HRF:=ad (HRF.out.trans (if_neg hck));have hcb:((ck:Int) != 0)=true:=by rw[bne_iff_ne];omega
   have HDS:=ad (show DStep d room FK ft w w4 from⟨g4,hd4,hf4,ht4⟩);clear hd4 hf4 hl4 ht4 hck;go_wp2;go_ret;exact⟨by rw[HRF.out];rfl,by rw[HRF.out];exact HDS.out⟩
 ·replace HKF:=ad (HKF.out.trans (if_neg hal));have HWR:=ad (qU a d room fs ft ⟨#[101,112,111,99,104]⟩ F w3 (HA.out.next HB3.out) (HD.out.next HB3.out) (by decide) (by omega));have hcs:alone=false\/(alone=true/\20<many):=by
   cases alone with
   |false=>exact .inl rfl
   |true=>exact .inr ⟨rfl,by
    apply Classical.byContradiction;intro g;exact hal ⟨rfl,by omega⟩⟩
  clear hal;rcases hcs with hx|⟨hx,hy⟩
  all_goals subst hx
  all_goals (
   try have hyi:¬(many:Int)<=20:=by omega
   go_wp2_with fail;refine HWR.out.mono ?_;rintro r w4 ⟨rfl,hst⟩;rw[show al.fT room (⟨#[101,112,111,99,104]⟩:ByteArray).data.toList F fs=K from HKF.out.symm]at hst ⊢;obtain⟨FK,ck⟩:=K;simp only at hst HRF ⊢;obtain⟨g4,hd4,hf4,hl4,ht4⟩:=(DStep.under HB3.out hst).open;clear HWR hst HKF;by_cases hck:ck=0
   ·subst hck;replace HRF:=ad (HRF.out.trans (if_pos rfl));have HS:=ad (gN d room FK g4 ⟨#[101,112,111,99,104]⟩ w4 hd4 (by decide));have HT:=ad (aB ht4 hf4);clear hd4 hf4 hl4 ht4;go_wp2_with fail;refine HS.out.mono ?_;rintro r w5 ⟨rfl,hds⟩;have HDS:=ad (DStep.trans HT.out.1 HT.out.2 hds);clear hds HS;go_wp2;go_ret;exact⟨by rw[HRF.out];rfl,by rw[HRF.out];exact HDS.out⟩
   ·replace HRF:=ad (HRF.out.trans (if_neg hck));have hcb:((ck:Int) != 0)=true:=by rw[bne_iff_ne];omega
    have HDS:=ad (show DStep d room FK ft w w4 from⟨g4,hd4,hf4,ht4⟩);clear hd4 hf4 hl4 ht4 hck;go_wp2;go_ret;exact⟨by rw[HRF.out];rfl,by rw[HRF.out];exact HDS.out⟩)
end
end Go.Proofs.YtmgmknmaepjnoaaGreatDoor
