/-
  The walks of segment.Name and Number, and of the reference's Decimal, Name, Number.
-/
import Derived.Test.YtmgmknmaepjnoaaGreatDoorDsks
namespace Go.Proofs.YtmgmknmaepjnoaaGreatDoor
open Go.RowKit Go.Shelf Proofs.Tryz
section
set_option maxHeartbeats 2000000 in
theorem fj (n:Int) (w:World) (hE:Env w) :
 Calls prog 200 #[.int .i64 n] w fun e w'=>e=.returned (.string ⟨(af.nameOf n).toArray⟩)/\Below w.heap.size w w':=by
 by_cases h1:n<1
 ·have HN:=ad (show af.nameOf n=[]by unfold af.nameOf;rw[if_neg (by omega)]);go_enter func200,ntmps200;go_wp2;go_ret;exact⟨by rw[HN.out];rfl,ae _ _⟩
 ·by_cases h2:n > 1073741824
  ·have HN:=ad (show af.nameOf n=[]by unfold af.nameOf;rw[if_neg (by omega)]);go_enter func200,ntmps200;go_wp2;go_ret;exact⟨by rw[HN.out];rfl,ae _ _⟩
  ·have HN:=ad (show af.nameOf n=[115,101,103,45]++Lib.itoa n by unfold af.nameOf Lib.itoa;rw[if_pos (by omega),if_neg (by omega)]);have HI:=ad (Il n (by omega) (by omega) w hE);go_enter func200,ntmps200;go_wp2_with fail;refine HI.out.mono ?_;rintro e w1 ⟨rfl,hb1⟩;have hil:(Lib.itoa n).length<=10:=by
    unfold Lib.itoa;rw[if_neg (by omega)];exact af.CO 9 _ (by omega)
   go_wp2;go_ret;exact⟨by rw[HN.out];exact congrArg (fun z=>Ending.returned (Value.string z)) (by apply ByteArray.ext;simp),hb1⟩
theorem Im {s:List UInt8} {v:Int} (hn:af.nameOf v=s) (h0:s≠[]):v=af.numberOf s:=by
 apply af.tw;refine .inl ?_;have:1<=v/\v<=1073741824:=by
  apply Classical.byContradiction;intro g;unfold af.nameOf at hn;rw[if_neg g]at hn;exact h0 hn.symm
 exact⟨this.1,this.2,hn⟩
theorem qk {s:List UInt8} {m:Int} (h1:1<=m) (h2:m<=1073741824) (h:af.nameOf m=s):Lib.atoiAll (Lib.trimPrefix s [115,101,103,45])=.ok m:=by
 obtain⟨e1,e2⟩:=af.EX m h1 h2;rw[h]at e1 e2;have hp:Lib.hasPrefix s [115,101,103,45]=true:=by
  unfold Lib.hasPrefix;rw[List.isPrefixOf_iff_prefix];exact List.prefix_iff_eq_take.2 e2.symm
 unfold Lib.trimPrefix;rw[if_pos hp,show([115,101,103,45]:List UInt8).length=4 from rfl,e1,af.IE _ (by omega)];congr 1;omega
theorem Gd {s:List UInt8} {v:Int} (h:Lib.atoiAll (Lib.trimPrefix s [115,101,103,45])=.ok v) (hn:¬(af.nameOf v=s)):(0:Int)=af.numberOf s:=by
 apply af.tw;refine .inr ⟨rfl,fun m h1 h2 g=>?_⟩;have:=qk h1 h2 g;rw[h]at this;injection this with this
 subst this;exact hn g
theorem xg {s:List UInt8} (h:∀v,Lib.atoiAll (Lib.trimPrefix s [115,101,103,45])≠.ok v):(0:Int)=af.numberOf s:=by
 apply af.tw;refine .inr ⟨rfl,fun m h1 h2 g=>?_⟩;exact h m (qk h1 h2 g)
set_option maxHeartbeats 2000000 in
theorem xS (s:ByteArray) (w:World) (hE:Env w) (hs:s.size<=281474976710656) :
 Calls prog 149 #[.string s] w fun e w'=>e=.returned (.int .i64 (af.numberOf s.data.toList))/\Below w.heap.size w w':=by
 have HT:=ad (Tryz.strings_TrimPrefix s ⟨#[115,101,103,45]⟩ w);have hts:(⟨(Lib.trimPrefix s.data.toList [115,101,103,45]).toArray⟩:ByteArray).size<=281474976710656:=by
  rw[Lib.size_eq];rw[Lib.size_eq]at hs;simp only[Lib.trimPrefix];split
  ·simp only[List.length_drop];omega
  ·exact hs
 cases ha:Lib.atoiAll (Lib.trimPrefix s.data.toList [115,101,103,45])with
 |ok v =>
  have HO:=ad (Tryz.strconv_Atoi_ok ⟨(Lib.trimPrefix s.data.toList [115,101,103,45]).toArray⟩ (by omega) v ha w);have HA:=ad ha;clear ha hts;go_enter func149,ntmps149;go_wp2_with fail;refine HT.out.mono ?_;rintro e w0 ⟨rfl,h0⟩;obtain rfl:=h0.symm;go_wp2_with fail;refine HO.out.mono ?_;rintro e w1 ⟨rfl,hw1⟩;have hb1:Below w.heap.size w w1:=by
   rcases hw1 with rfl|⟨t,rfl⟩
   ·exact ae _ _
   ·exact Lib.bytesWorld_below w _ t
  clear hw1 HT HO;have HI:=ad (fj v w1 (hE.next hb1));go_wp2_with fail;refine HI.out.mono ?_;rintro e w2 ⟨rfl,b2⟩;have hb2:=Below.up hb1 ab b2;clear HI b2;cases hc:(af.nameOf v==s.toList)with
  |false =>
   have HN:=ad (Gd HA.out (by rw[Lib.toList_data,beq_eq_false_iff_ne]at hc;exact hc));clear HA;go_wp2;go_ret;exact⟨congrArg (fun z=>Ending.returned (Value.int .i64 z)) HN.out,hb2⟩
  |true =>
   rw[Lib.toList_data,beq_iff_eq]at hc;have hs0:s.data.toList≠[]:=by
    intro h0;have:=HA.out;rw[h0]at this;cases this
   have HN:=ad (Im hc hs0);have hcb:(af.nameOf v==s.toList)=true:=by rw[Lib.toList_data,beq_iff_eq];exact hc
   clear HA hs0 hc;go_wp2;go_ret;exact⟨congrArg (fun z=>Ending.returned (Value.int .i64 z)) HN.out,hb2⟩
 |range =>
  have HA:=ad ha;obtain⟨te,pe,he⟩:=hE.LY;have HO:=ad (Tryz.strconv_Atoi_range ⟨(Lib.trimPrefix s.data.toList [115,101,103,45]).toArray⟩ (by omega) ha _ w he (.inr ⟨_,_,rfl⟩));clear ha hts;go_enter func149,ntmps149;go_wp2_with fail;refine HT.out.mono ?_;rintro e w0 ⟨rfl,h0⟩;obtain rfl:=h0.symm;go_wp2_with fail;refine HO.out.mono ?_;rintro e w1 ⟨N,rfl,_,_,hb1⟩;clear HT HO;go_wp2;go_ret;exact⟨congrArg (fun z=>Ending.returned (Value.int .i64 z)) (xg (fun v h=>by rw[HA.out]at h;cases h)),hb1⟩
 |_ =>
  have HA:=ad ha;obtain⟨te,pe,he⟩:=hE.LX;have HO:=ad (Any.strconv_Atoi_syntax Tryz.tt ⟨(Lib.trimPrefix s.data.toList [115,101,103,45]).toArray⟩ (by omega) ha _ w he (.inr ⟨_,_,rfl⟩));clear ha hts;go_enter func149,ntmps149;go_wp2_with fail;refine HT.out.mono ?_;rintro e w0 ⟨rfl,h0⟩;obtain rfl:=h0.symm;go_wp2_with fail;refine HO.out.mono ?_;rintro e w1 ⟨N,rfl,_,_,hb1⟩;clear HT HO;go_wp2;go_ret;exact⟨congrArg (fun z=>Ending.returned (Value.int .i64 z)) (xg (fun v h=>by rw[HA.out]at h;cases h)),hb1⟩
theorem tc (ps:List (Evt.Entry×Value)) (i:Nat) (h:i<ps.length):ag (ps.take (i+1))=ag (ps.take i)++[ps[i].1]:=by
 rw[List.take_succ_eq_append_getElem h];simp only[ag,List.map_append,List.map_cons,List.map_nil]
set_option maxHeartbeats 4000000 in
set_option maxRecDepth 100000 in
theorem gJ (first:Int) (v:Value) (ps:List (Evt.Entry×Value)) (w:World) (hE:Env w) (hc:dk w v ps) (hn:ps.length<=1000000) :
 Calls prog 210 #[.int .i64 first,v] w fun e w'=>∃h r:ByteArray,e=.returned (.tuple #[.string h,.string r])/\Hid (h.data.toList=af.cD first)/\Hid (r.data.toList=af.aQ (ag ps))/\Below w.heap.size w w':=by
 rcases cC hc.1 with⟨h0,a0,c0,rfl⟩|⟨b,o,c,rfl⟩
 ·have hN:=aP h0;have HROW:=ad (show Cells w (.slice none 0 0) 1 ((ag ps).map af.dx).length (strCells ((ag ps).map af.dx))by
   rw[hN];exact⟨rfl,.inl ⟨rfl,_,_,rfl⟩⟩)
  have hbw:=ae w.heap.size w;clear h0 hN;go_enter func210,ntmps210;go_wp2
  go_loopw [6,15] (fun rv lv wr=>rv=.slice none 0 0/\lv=.int .i64 0/\wr=w) (fun _ _ _=>0)
  case atStart=>exact⟨rfl,rfl,rfl⟩
  case round =>
   obtain⟨rfl,rfl,rfl⟩:=hrel;go_wp2_with fail;refine(rS first _).mono ?_;rintro e w1 ⟨A,rfl,ha,hA6,b1⟩;obtain⟨B,_,fB,tB⟩:=bf (([115]:List UInt8)++A.data.toList);have hA:=ad (show B.data.toList=af.iP first by rw[fB,ha.out];rfl);have a1:∀w,(Op.stringOp .add ⟨#[115]⟩ A).run prog w=.ok (.string B) w:=fun w=>cK w _ _ _ (by have:(⟨#[115]⟩:ByteArray).size=1:=rfl;omega) fB.symm;have hB8:B.size<=8:=by rw[tB,List.length_append,<-Lib.size_eq];simp;omega
   have hb1:=Below.up hbw ab b1;have hr1:=Cells.next HROW.out b1;clear fB tB b1;go_wp2_with fail;refine(iB B _ (by omega)).mono ?_;rintro e w2 ⟨F,cF,rfl,hF,_,b2⟩;have hb2:=Below.up hb1 ab b2;have hr2:=Cells.next hr1 b2;have HF:=ad (show F.data.toList=af.cD first by
    have h:=hF.out;rw[hA.out,Frm.jk (af.pn first)]at h;exact(congrArg Prod.fst h).symm)
   clear b2 hF hr1;have HR:=ad (Cs _ ((ag ps).map af.dx) w2 hr2 (by simpa[ag]using hn) (fun p hp=>by obtain⟨e,_,rfl⟩:=List.mem_map.1 hp;exact af.lB e));clear hr2;go_wp2_with fail;refine HR.out.mono ?_;rintro e w3 ⟨R,rfl,hR,b3⟩;have hb3:=Below.up hb2 ab b3;go_wp2
   go_ret2
   exact⟨F,R,rfl,HF,hR,hb3⟩
 ·have HC:=ad hc;clear hc;go_enter func210,ntmps210;go_wp2
  go_loopw [6,15] (fun rv lv wr=>∃(i:Nat),lv=.int .i64 i/\i<=ps.length/\Below w.heap.size w wr/\Env wr/\wr.ownsRow w.heap.size 9 1 rv i (strCells ((ag (ps.take i)).map af.dx))) (fun _ lv _=>ps.length-(intOf lv).toNat)
  case atStart=>exact⟨0,rfl,by omega,ae _ _,hE,World.ownsRow_nil _ _ _ _⟩
  case round =>
   obtain⟨i,rfl,hi,hbw,hEr,hown⟩:=hrel;by_cases hp:i<ps.length
   ·obtain⟨b',o',c',p,ep,S,ex,se,sq,sa,sl,sc,es,hv,k0,k1,k2,k3,k4,k5,k6,hev,hS,hsm,hes,hpe,_⟩:=jI HC.out i hp;cases hv;have k0:=cell_kept hbw ab k0;have k1:=cell_kept hbw ab k1;have k2:=cell_kept hbw ab k2;have k3:=cell_kept hbw ab k3;have k4:=cell_kept hbw ab k4;have k5:=cell_kept hbw ab k5;have k6:=cell_kept hbw ab k6;have hev1:=Cells.next hev hbw;have hb1:Below w.heap.size w (wr.alloc (.cells #[.int .i64 p,.int .i64 ep,.string S,.int .i64 ex,.int .i64 se,.int .i64 sq,.slice sa sl sc] 95)):=hbw.alloc hbw.size _;have hb01:=(ae _ wr).alloc ab (.cells #[.int .i64 p,.int .i64 ep,.string S,.int .i64 ex,.int .i64 se,.int .i64 sq,.slice sa sl sc] 95);have hE1:=hEr.next hb01;have hev2:=Cells.next hev1 hb01;have hown1:=bX hown hb01;have HRP:=ad (oU p ep S ex se sq _ es _ hE1 hS hev2 hes hsm);clear hb01 hown hev1;go_wp2_with fail;refine HRP.out.mono ?_;rintro e w2 ⟨A,rfl,hA,b2⟩;have hb2:=Below.up hb1 ab b2;have hE2:=hE1.next b2;have hown2:=bX hown1 b2;have hbs2:=hb2.size;obtain⟨B,hB0,fB,tB⟩:=bf (([101]:List UInt8)++A.data.toList);have HB:=ad (show B.data.toList=af.dx ps[i].1 by rw[fB,hA.out,hpe.out];rfl);have hA8:A.size<=3012:=by
     have:=Evt.gE ⟨p,ep,⟨S.data.toList,ex,se,sq,es⟩⟩;rw[Lib.size_eq,hA.out];omega
    have a1:∀w,(Op.stringOp .add ⟨#[101]⟩ A).run prog w=.ok (.string B) w:=fun w=>cK w _ _ _ (by have:(⟨#[101]⟩:ByteArray).size=1:=rfl;omega) fB.symm;clear fB tB hB0 hA8 HRP b2 hown1 hb1 k0 k1 k2 k3 k4 k5 k6 hev hev2;go_wp2_with (at_builtin;refine ir rfl _ _ _ rfl GX rfl hown2 hb2 hbs2 _ _ rfl rfl (by simp[Value.oneCell']) (by omega) ?_);intro v' w3 hown3 hg3 hb3 hs3;have hE3:=hE.next hb3;have HO:=ad (show w3.ownsRow w.heap.size 9 1 v' (i+1) (strCells ((ag (ps.take (i+1))).map af.dx))by
     rw[tc ps i hp,List.map_append,List.map_cons,List.map_nil,<-HB.out,strCells,List.map_append];exact hown3)
    clear hown2 hown3 hg3 hb2 hE2 hE1 hEr hbw;go_wp2;exact⟨⟨i+1,by go_num,by omega,hb3,hE3,HO.out⟩,by simp[intOf];omega⟩
   ·have HROW:=ad (aj (show wr.ownsRow w.heap.size 9 1 _ _ (strCells ((ag ps).map af.dx))by
     have e:ps.take i=ps:=List.take_of_length_le (by omega);rw[e]at hown;exact hown))
    have hlen:i=((ag ps).map af.dx).length:=by simp[ag];omega
    have HROW:=ad (show Cells wr _ 1 ((ag ps).map af.dx).length (strCells ((ag ps).map af.dx))by rw[<-hlen];exact HROW.out);clear hlen hown;go_wp2_with fail;refine(rS first _).mono ?_;rintro e w1 ⟨A,rfl,ha,hA6,b1⟩;obtain⟨B,_,fB,tB⟩:=bf (([115]:List UInt8)++A.data.toList);have hA:=ad (show B.data.toList=af.iP first by rw[fB,ha.out];rfl);have a1:∀w,(Op.stringOp .add ⟨#[115]⟩ A).run prog w=.ok (.string B) w:=fun w=>cK w _ _ _ (by have:(⟨#[115]⟩:ByteArray).size=1:=rfl;omega) fB.symm;have hB8:B.size<=8:=by rw[tB,List.length_append,<-Lib.size_eq];simp;omega
    have hb1:=Below.up hbw ab b1;have hr1:=Cells.next HROW.out b1;clear fB tB b1;go_wp2_with fail;refine(iB B _ (by omega)).mono ?_;rintro e w2 ⟨F,cF,rfl,hF,_,b2⟩;have hb2:=Below.up hb1 ab b2;have hr2:=Cells.next hr1 b2;have HF:=ad (show F.data.toList=af.cD first by
     have h:=hF.out;rw[hA.out,Frm.jk (af.pn first)]at h;exact(congrArg Prod.fst h).symm)
    clear b2 hF hr1;have HR:=ad (Cs _ ((ag ps).map af.dx) w2 hr2 (by simpa[ag]using hn) (fun p hp=>by obtain⟨e,_,rfl⟩:=List.mem_map.1 hp;exact af.lB e));clear hr2;go_wp2_with fail;refine HR.out.mono ?_;rintro e w3 ⟨R,rfl,hR,b3⟩;have hb3:=Below.up hb2 ab b3;go_wp2
    go_ret2
    exact⟨F,R,rfl,HF,hR,hb3⟩
structure fF (a w:World) (ft:Nat->Prop):Prop where
 env:Env a
 below:Below a.heap.size a w
 out:∀j,ft j->a.heap.size<=j
theorem fF.fW {a w:World} {ft:Nat->Prop} (h:fF a w ft):Env w:=h.env.next h.below
theorem fF.next {a w w':World} {ft:Nat->Prop} (h:fF a w ft) (hb:Below w.heap.size w w'):fF a w' ft:=⟨h.env,Below.up h.below ab hb,h.out⟩
theorem fF.cJ {a w w':World} {ft ft':Nat->Prop} (h:fF a w ft) (ht:ax ft w w') (hf:∀j,ft' j->ft j\/w.heap.size<=j):fF a w' ft' :=
 ⟨h.env,h.below.trans (ht.below h.out h.below.size),fun j hj=>by
  rcases hf j hj with h1|h1
  ·exact h.out j h1
  ·exact Nat.le_trans h.below.size h1⟩
theorem DStep.trans {d:Nat} {room:Int} {f2:List Dk.ai} {ft ft1:Nat->Prop} {w w1 w2:World} (ht:ax ft w w1) (hf:∀j,ft1 j->ft j\/w.heap.size<=j) (h2:DStep d room f2 ft1 w1 w2):DStep d room f2 ft w w2:=by
 obtain⟨ft2,hd,hf2,ht2⟩:=h2;refine⟨ft2,hd,fun j hj=>?_,ht.trans ht2 hf⟩;rcases hf2 j hj with h|h
 ·exact hf j h
 ·exact .inr (Nat.le_trans ht.size h)
theorem DStep.under {d:Nat} {room:Int} {f2:List Dk.ai} {ft:Nat->Prop} {w w1 w2:World} (hb:Below w.heap.size w w1) (h2:DStep d room f2 ft w1 w2):DStep d room f2 ft w w2 :=
 DStep.trans (ax.aI hb) (fun _ hj=>.inl hj) h2
theorem sd {F:ByteArray} {l:List UInt8} (h:F.data.toList=l):F=⟨l.toArray⟩:=by
 apply ByteArray.ext;rw[<-h]
def af.dY (room:Int) (nm:List UInt8) (s:ByteArray) (fs:List Dk.ai):List Dk.ai×Nat :=
 if (Dk.append room nm s fs).2=0 then Dk.sync nm (Dk.append room nm s fs).1 else ((Dk.delete nm (Dk.append room nm s fs).1).1,(Dk.append room nm s fs).2)
def af.create (room n first:Int) (fs:List Dk.ai):List Dk.ai×Nat :=
 if af.nameOf n=[]\/first<1\/first > 274877906944 then (fs,1) else
 if (Dk.read (af.nameOf n) fs).2=0 then (fs,7) else af.dY room (af.nameOf n) ⟨(af.cD first).toArray⟩ fs
set_option maxHeartbeats 2000000 in
theorem kD (a:World) (d:Nat) (room:Int) (fs:List Dk.ai) (ft:Nat->Prop) (nm s:ByteArray) (w:World) (hA:fF a w ft) (h:bw w d room fs ft) (hn:nm.size<=1000000000) (hs:s.size<=1000000000000) :
 Calls prog 225 #[.pointer (some ⟨d,0,none⟩),.string nm,.string s] w fun e w'=>e=.returned (.int .i64 ((af.dY room nm.data.toList s fs).2:Nat))/\DStep d room (af.dY room nm.data.toList s fs).1 ft w w':=by
 have HAP:=ad (iD d room fs ft nm s w hA.fW h hn hs);by_cases h0:(Dk.append room nm.data.toList s fs).2=0
 ·have HW:=ad (show af.dY room nm.data.toList s fs=Dk.sync nm.data.toList (Dk.append room nm.data.toList s fs).1 by rw[af.dY,if_pos h0]);have H0:=ad h0;clear h h0;go_enter func225,ntmps225;go_wp2_with fail;refine HAP.out.mono ?_;rintro e w1 ⟨rfl,ft1,hd1,hf1,ht1⟩;rw[H0.out];have HS:=ad (gN d room _ ft1 nm w1 hd1 (by omega));have HT:=ad (aB ht1 hf1);clear HAP hd1 hf1 ht1;go_wp2_with fail;refine HS.out.mono ?_;rintro e w2 ⟨rfl,hds⟩;have HD:=ad (DStep.trans HT.out.1 HT.out.2 hds);clear hds HT HS;go_wp2;go_ret;exact⟨by rw[HW.out];rfl,by rw[HW.out];exact HD.out⟩
 ·have HW:=ad (show af.dY room nm.data.toList s fs=((Dk.delete nm.data.toList (Dk.append room nm.data.toList s fs).1).1,(Dk.append room nm.data.toList s fs).2)by rw[af.dY,if_neg h0]);obtain⟨c,hc⟩:∃c,(Dk.append room nm.data.toList s fs).2=c:=⟨_,rfl⟩;have hc0:((c:Int) != 0)=true:=by rw[bne_iff_ne];omega
  have H0:=ad hc;clear h h0 hc;go_enter func225,ntmps225;go_wp2_with fail;refine HAP.out.mono ?_;rintro e w1 ⟨rfl,ft1,hd1,hf1,ht1⟩;rw[H0.out];have HS:=ad (dO d room _ ft1 nm w1 hd1 (by omega));have HT:=ad (aB ht1 hf1);clear HAP hd1 hf1 ht1;go_wp2_with fail;refine HS.out.mono ?_;rintro e w2 ⟨rfl,hds⟩;have HD:=ad (DStep.trans HT.out.1 HT.out.2 hds);clear hds HT HS;go_wp2;go_ret;exact⟨by rw[HW.out,H0.out];rfl,by rw[HW.out];exact HD.out⟩
theorem As (w:World):dk w (.slice none 0 0) []:=⟨⟨rfl,.inl ⟨rfl,_,_,rfl⟩⟩,fun p hp=>by cases hp⟩
set_option maxHeartbeats 2000000 in
theorem xU (a:World) (d:Nat) (room n first:Int) (fs:List Dk.ai) (ft:Nat->Prop) (w:World) (hA:fF a w ft) (h:bw w d room fs ft) :
 Calls prog 207 #[.pointer (some ⟨d,0,none⟩),.int .i64 n,.int .i64 first] w fun e w'=>e=.returned (.int .i64 ((af.create room n first fs).2:Nat))/\DStep d room (af.create room n first fs).1 ft w w':=by
 have HN:=ad (fj n w hA.fW);have hnl:=af.gL n;obtain⟨nm,hnm⟩:∃nm,af.nameOf n=nm:=⟨_,rfl⟩;have hns:(⟨nm.toArray⟩:ByteArray).size<=14:=by rw[Lib.size_eq];rw[<-hnm];exact hnl
 have HC0:=ad (show af.create room n first fs=if nm=[]\/first<1\/first > 274877906944 then (fs,1) else if (Dk.read nm fs).2=0 then (fs,7) else af.dY room nm ⟨(af.cD first).toArray⟩ fs by rw[<-hnm];rfl);rw[hnm]at HN;clear hnm hnl;by_cases hbad:nm=[]\/first<1\/first > 274877906944
 ·have HC:=ad (HC0.out.trans (if_pos hbad));have HH:=ad h;have HCL:=ad (aB (congrArg Prod.fst HC.out) (congrArg Prod.snd HC.out));clear HC0 HC h;have hcase:(nm=[])\/(nm.isEmpty=false/\first<1)\/(nm.isEmpty=false/\¬first<1/\first > 274877906944):=by
   cases nm with
   |nil=>exact .inl rfl
   |cons c r =>
    rcases hbad with h1|h1|h1
    ·cases h1
    ·exact .inr (.inl ⟨rfl,h1⟩)
    ·exact .inr (.inr ⟨rfl,by omega,h1⟩)
  clear hbad;rcases hcase with h1|⟨h1,h2⟩|⟨h1,h2,h3⟩
  ·subst h1;go_enter func207,ntmps207;go_wp2_with fail;refine HN.out.mono ?_;rintro e w1 ⟨rfl,hb1⟩;go_wp2;go_ret;exact⟨by rw[HCL.out.2];rfl,by rw[HCL.out.1];exact DStep.aI HH.out hb1⟩
  ·skip
   go_enter func207,ntmps207;go_wp2_with fail;refine HN.out.mono ?_;rintro e w1 ⟨rfl,hb1⟩;go_wp2;go_ret;exact⟨by rw[HCL.out.2];rfl,by rw[HCL.out.1];exact DStep.aI HH.out hb1⟩
  ·skip
   go_enter func207,ntmps207;go_wp2_with fail;refine HN.out.mono ?_;rintro e w1 ⟨rfl,hb1⟩;go_wp2;go_ret;exact⟨by rw[HCL.out.2];rfl,by rw[HCL.out.1];exact DStep.aI HH.out hb1⟩
 ·have hne:nm.isEmpty=false:=by
   cases nm with
   |nil=>exact absurd (.inl rfl) hbad
   |cons c r=>rfl
  have hf1:1<=first:=by omega
  have hf2:first<=274877906944:=by omega
  have HC1:=ad (HC0.out.trans (if_neg hbad));clear HC0 hbad;have HH:=ad h;have HA:=ad hA;by_cases hr:(Dk.read nm fs).2=0
  ·have HC:=ad (HC1.out.trans (if_pos hr));have HRd:=ad hr;clear HC1 hr h hA;go_enter func207,ntmps207;go_wp2_with fail;refine HN.out.mono ?_;rintro e w1 ⟨rfl,hb1⟩;have HR:=ad (gO d room fs ft ⟨nm.toArray⟩ w1 (HH.out.next hb1) (by omega));go_wp2_with fail;refine HR.out.mono ?_;rintro e w2 ⟨rfl,hw2⟩;obtain rfl:=hw2;rw[show(Dk.read (⟨nm.toArray⟩:ByteArray).data.toList fs).2=0 from HRd.out];go_wp2;go_ret;exact⟨by rw[HC.out];rfl,by rw[HC.out];exact DStep.aI HH.out hb1⟩
  ·have HC:=ad (HC1.out.trans (if_neg hr));obtain⟨c,hc⟩:∃c,(Dk.read nm fs).2=c:=⟨_,rfl⟩;have hc0:((c:Int)==0)=false:=by rw[beq_eq_false_iff_ne];omega
   have HRd:=ad hc;clear HC1 hr hc h hA;go_enter func207,ntmps207;go_wp2_with fail;refine HN.out.mono ?_;rintro e w1 ⟨rfl,hb1⟩;have HR:=ad (gO d room fs ft ⟨nm.toArray⟩ w1 (HH.out.next hb1) (by omega));go_wp2_with fail;refine HR.out.mono ?_;rintro e w2 ⟨rfl,hw2⟩;obtain rfl:=hw2;rw[show(Dk.read (⟨nm.toArray⟩:ByteArray).data.toList fs).2=c from HRd.out];have HB:=ad (gJ first _ [] w1 (HA.out.next hb1).fW (As w1) (by simp));go_wp2_with fail;refine HB.out.mono ?_;rintro e w3 ⟨F,R,rfl,hF,_,b3⟩;have hb3:=Below.up hb1 ab b3;have hF14:F.size<=15:=by rw[Lib.size_eq,hF.out];exact af.gz first
   have HW:=ad (kD a d room fs ft ⟨nm.toArray⟩ F w3 (HA.out.next hb3) (HH.out.next hb3) (by omega) (by omega));clear HB HR HN b3;go_wp2_with fail;refine HW.out.mono ?_;rintro e w4 ⟨rfl,hds⟩;have HD:=ad (DStep.under hb3 hds);have HF:=ad (sd hF.out);clear hds HW hF;go_wp2;go_ret;exact⟨by rw[HC.out,<-HF.out];rfl,by rw[HC.out,<-HF.out];exact HD.out⟩
attribute [local go_sem] Oper.semAt_some
abbrev bu:=Evt.Entry×Value
def fy (x:bu):Value:=.agg #[.int .i64 x.1.pos,.int .i64 x.1.epoch,.string ⟨x.1.b.stream.toArray⟩,.int .i64 x.1.b.expect,.int .i64 x.1.b.br,.int .i64 x.1.b.seq,x.2]
def ng (base:Nat) (x:bu) (_ W:World):Prop:=W.ownsRow base 122 2 x.2 x.1.b.events.length (cZ x.1.b.events)/\l7 x.1/\x.1.b.events.length<=8
def iq (G B:Nat) (X W W':World):Prop:=Below G W W'/\(∀k,G<k->k<B->W'.heap[k]?=W.heap[k]?)/\∀k,X.heap.size<=k->k<W.heap.size->W'.heap[k]?=W.heap[k]?
theorem iq.trans {G B:Nat} {O X Y Z:World} (h:iq G B O X Y) (k:iq G B O Y Z):iq G B O X Z :=
 ⟨h.1.trans k.1,fun j h1 h2=>(k.2.1 j h1 h2).trans (h.2.1 j h1 h2),fun j h1 h2=>(k.2.2 j h1 (Nat.lt_of_lt_of_le h2 h.1.size)).trans (h.2.2 j h1 h2)⟩
theorem lN {pos epoch:Int} {s:List UInt8} {l:List (List UInt8)} (h:af.goes pos epoch s=false):af.eV pos epoch (s::l)=[]:=by
 rw[af.eV,if_neg (by rw[h];simp)]
theorem JT {pos epoch:Int} {s:List UInt8} {l:List (List UInt8)} {e:Evt.Entry} (h:af.goes pos epoch s=true) (he:(Evt.take (s.drop 1)).1=e):af.eV pos epoch (s::l)=e::af.eV e.pos e.epoch l:=by
 rw[af.eV,if_pos h,he]
theorem wH (s:List UInt8) (h:(s.head?==some 101)=true):Lib.hasPrefix s [101]=true/\Lib.trimPrefix s [101]=s.drop 1:=by
 have hp:Lib.hasPrefix s [101]=true:=by
  cases s with
  |nil=>simp at h
  |cons c r=>simp at h;subst h;simp[Lib.hasPrefix,List.isPrefixOf]
 exact⟨hp,by rw[Lib.trimPrefix,if_pos hp];rfl⟩
theorem yF (s:List UInt8) (h:(s.head?==some 101)=false):Lib.hasPrefix s [101]=false/\Lib.trimPrefix s [101]=s:=by
 have hp:Lib.hasPrefix s [101]=false:=by
  cases s with
  |nil=>rfl
  |cons c r =>
   simp at h;simp[Lib.hasPrefix,List.isPrefixOf];exact fun e=>h e.symm
 exact⟨hp,by rw[Lib.trimPrefix,if_neg (by rw[hp];simp)]⟩
theorem JM (q t:List UInt8) (hs:Bool) (pos epoch:Int) {e:Evt.Entry} {r:List UInt8} {c:Nat} (ht:Lib.trimPrefix q [101]=t) (hh:Lib.hasPrefix q [101]=hs) (hk:Evt.take t=(e,r,c)) :
 af.goes pos epoch q=(hs&&(c==0)&&r.isEmpty&&(e.pos==pos+1)&&decide (epoch<=e.epoch)):=by
 unfold af.goes;cases h:(q.head?==some 101)with
 |false =>
  have:=yF q h;rw[this.1]at hh;subst hh;simp
 |true =>
  have:=wH q h;rw[this.1]at hh;rw[this.2]at ht;subst hh;rw[ht,hk]
theorem Ec (q t:List UInt8) (hs:Bool) {e:Evt.Entry} {r:List UInt8} {c:Nat} (ht:Lib.trimPrefix q [101]=t) (hh:Lib.hasPrefix q [101]=hs) (hk:Evt.take t=(e,r,c)) (h:hs=true):(Evt.take (q.drop 1)).1=e:=by
 subst h;cases hq:(q.head?==some 101)with
 |false=>have:=(yF q hq).1;rw[hh]at this;cases this
 |true=>rw[(wH q hq).2]at ht;rw[ht,hk]
set_option maxRecDepth 100000 in
set_option maxHeartbeats 4000000 in
theorem B8 (n:Nat) (hn:1<=n) (l G B Bl Bp base:Nat) (L:List (List UInt8)) (pos0:Int) (a:World) (ha:Env a) (haG:a.heap.size<=G) (b o c:Nat) (W:World)
 (hp0:0<=pos0) (hp1:pos0<=274877906944) (hb:Below a.heap.size a W) (hB:B<=W.heap.size) (hBp:G<Bp) (hBp2:Bp<B) (hbase:base<=W.heap.size)
 (boxL:Boxed W Bl 260 (.slice (some ⟨b,o,none⟩) L.length c)) (boxP:Boxed W Bp 3 (.int .i64 pos0)) (hcl:Cells a (.slice (some ⟨b,o,none⟩) L.length c) 1 L.length (strCells L)) (hL:∀p∈L,p.length<=1000000) (hLn:L.length<=1000000000)
 (J:List bu->World->Prop) (hJ:∀s X Y,J s X->X.grownBy Y (some Bp)->J s Y)
 (hY:∀pre x W0 W1,J pre W0->pre.length<L.length->Below W0.heap.size W0 W1->ng base x W0 W1->YieldAt Fence.wide (n-1) prog l #[fy x] W1 fun e W'=>e=.returned (.bool true)/\J (pre++[x]) W'/\iq G B W0 W1 W')
 (h0:J [] W) :
 CallsIn Fence.wide n prog 257 #[.func (.yield l) #[] #[],.pointer (some ⟨Bl,0,none⟩),.pointer (some ⟨Bp,0,none⟩)] W fun e W'=>(∃v,e=.returned v)/\∃xs:List bu,xs.map (·.1)=af.eV pos0 0 L/\J xs W':=by
 refine callsIn_of_wp func257 rfl trivial ?_ rfl;simp only[ntmps257,List.size_toArray,List.length_cons,List.length_nil,Nat.reduceAdd,Nat.reduceSub,Array.replicate_succ,Array.replicate_zero,List.push_toArray,List.append_toArray,List.nil_append,List.cons_append];have hcb:=boxL.cell;have hszW:=hB
 gi_wp2
 gi_loopw [4,14] (fun ev lv wr=>∃(i:Nat) (pos epoch:Int) (pre:List bu),ev=.int .i64 epoch/\lv=.int .i64 i/\i<=L.length/\J pre wr/\pre.length<=i/\Below a.heap.size a wr/\Boxed wr Bp 3 (.int .i64 pos)/\W.heap.size<=wr.heap.size/\0<=pos/\pos<=1099511627776 /\
  pre.map (·.1)++af.eV pos epoch (L.drop i)=af.eV pos0 0 L) (fun _ lv _=>L.length-(intOf lv).toNat)
 case atStart=>exact⟨0,pos0,0,[],rfl,rfl,by omega,h0,by simp,hb,boxP,by omega,hp0,by omega,rfl⟩
 case round =>
  obtain⟨i,pos,epoch,pre,rfl,rfl,hi,hJs,hpl,hbw,hbp,hsz,hq1,hq2,hF⟩:=hrel;have HF:=ad hF;clear hF;by_cases hp:i<L.length
  ·obtain⟨b',o',c',hv,hcell⟩:=tR hcl i hp;cases hv;have hcell:=cell_kept hbw ab hcell;have hq:L[i].length<=1000000:=hL _ (List.getElem_mem hp);have HD:=ad (List.drop_eq_getElem_cons hp);obtain⟨q,hqe⟩:∃q,L[i]=q:=⟨_,rfl⟩;rw[hqe]at hcell hq HD;clear hqe;obtain⟨t,ht⟩:∃t,Lib.trimPrefix q [101]=t:=⟨_,rfl⟩;obtain⟨hs,hhs⟩:∃hs,Lib.hasPrefix q [101]=hs:=⟨_,rfl⟩;have htl:t.length<=1000000:=by
    rw[<-ht,Lib.trimPrefix];split
    ·rw[List.length_drop];omega
    ·exact hq
   have HT:=ad ht;have HS:=ad hhs;have HC:=Tryz.strings_CutPrefix ⟨q.toArray⟩ ⟨#[101]⟩ wr;rw[show Lib.trimPrefix (⟨q.toArray⟩:ByteArray).data.toList (⟨#[101]⟩:ByteArray).data.toList=t from ht,show Lib.hasPrefix (⟨q.toArray⟩:ByteArray).data.toList (⟨#[101]⟩:ByteArray).data.toList=hs from hhs]at HC;have HC:=ad HC;have hEr:=ha.next hbw;have HR:=ad (Bh ⟨t.toArray⟩ wr hEr (by rw[Lib.size_eq];exact htl));clear ht hhs
   gi_wp2
   refine⟨trivial,(callsIn_wide.2 HC.out).mono ?_⟩;rintro e w1 ⟨rfl,hw1⟩;obtain rfl:=hw1.symm
   gi_wp2
   refine⟨trivial,(callsIn_wide.2 HR.out).mono ?_⟩;rintro e w2 ⟨p,ep,S,ex,se,sq,v,es,r,cd,rfl,HK,own,hSs,hsm,hes,hrs,b2⟩;obtain⟨sa,sl,sc,rfl⟩:=cS own;have HG0:=ad (JM q t hs pos epoch HT.out HS.out HK.out);have HG1:=ad (fun (h:hs=true)=>(Ec q t hs HT.out HS.out HK.out h));obtain⟨W3,hW3⟩:∃W3,w2.alloc (.cells #[.int .i64 p,.int .i64 ep,.string S,.int .i64 ex,.int .i64 se,.int .i64 sq,.slice sa sl sc] 95)=W3:=⟨_,rfl⟩;have ew:EB w2.heap.size p ep S ex se sq (.slice sa sl sc) W3:=by rw[<-hW3];exact heap_alloc_new w2 _
   have b3:Below wr.heap.size wr W3:=by rw[<-hW3];exact b2.alloc b2.size _
   have own3:W3.ownsRow wr.heap.size 122 2 (.slice sa sl sc) es.length (cZ es):=by rw[<-hW3];exact own.alloc _
   have hs3:w2.heap.size<W3.heap.size:=by rw[<-hW3];simp
   have hJ3:J pre W3:=hJ _ _ _ hJs (iQ (bZ b3));have hb3:Below a.heap.size a W3:=Below.up hbw ab b3;have hbp3:Boxed W3 Bp 3 (.int .i64 pos):=hbp.kept (bZ b3) (by simp);have hpp:=hbp3.cell;obtain⟨k0,k1,k2,k3,k4,k5,k6⟩:=ew.cells;have hsz3:w2.heap.size<=W3.heap.size:=by omega
   have b2s:=b2.size;have hw1:wrap64 (pos+1)=pos+1:=IntWalk.wrap64_in _ (by omega);have HJ:=ad hJ3;have HEB:=ad ew;have HOWN:=ad own3;have HB3:=ad b3;clear HR HC own hJ3 own3 b2 b3;cases hs with
   |false =>
    have FN:=ad (show pre.map (·.1)=af.eV pos0 0 L by
     have h:=HF.out;rw[HD.out,lN (by rw[HG0.out];rfl),List.append_nil]at h;exact h)
    gi_wp2
    refine⟨fun _ h=>(by cases h),?_⟩
    gi_wp2
    refine bodyPost_ret (results_none rfl _ _ _) rfl ?_;exact⟨⟨_,rfl⟩,pre,FN.out,HJ.out⟩
   |true =>
    have he:=HG1.out rfl;by_cases hc0:cd=0
    ·subst hc0;cases hre:r.toList.isEmpty with
     |false =>
      have FN:=ad (show pre.map (·.1)=af.eV pos0 0 L by
       have h:=HF.out;rw[HD.out,lN (by rw[HG0.out,<-Lib.toList_data,hre];simp),List.append_nil]at h;exact h)
      clear he
      gi_wp2
      refine⟨fun _ h=>(by cases h),?_⟩
      gi_wp2
      refine bodyPost_ret (results_none rfl _ _ _) rfl ?_;exact⟨⟨_,rfl⟩,pre,FN.out,HJ.out⟩
     |true =>
      by_cases hpe:p=pos+1
      ·subst hpe;by_cases hep:ep<epoch
       ·have FN:=ad (show pre.map (·.1)=af.eV pos0 0 L by
         have h:=HF.out;rw[HD.out,lN (by rw[HG0.out];simp;omega),List.append_nil]at h;exact h)
        clear he
        gi_wp2
        refine⟨fun _ h=>(by cases h),?_⟩
        gi_wp2
        refine bodyPost_ret (results_none rfl _ _ _) rfl ?_;exact⟨⟨_,rfl⟩,pre,FN.out,HJ.out⟩
       ·have FG:=ad (show af.eV pos epoch (L.drop i)=(⟨pos+1,ep,⟨S.data.toList,ex,se,sq,es⟩⟩:Evt.Entry)::af.eV (pos+1) ep (L.drop (i+1))by
         rw[HD.out];exact JT (by rw[HG0.out,<-Lib.toList_data,hre];simp;omega) he)
        clear he;have hx:fy ((⟨pos+1,ep,⟨S.data.toList,ex,se,sq,es⟩⟩:Evt.Entry),.slice sa sl sc)=.agg #[.int .i64 (pos+1),.int .i64 ep,.string S,.int .i64 ex,.int .i64 se,.int .i64 sq,.slice sa sl sc]:=by simp[fy]
        obtain⟨fn,tmps,assign,bodyc,hy,hR⟩:=hY pre ((⟨pos+1,ep,⟨S.data.toList,ex,se,sq,es⟩⟩:Evt.Entry),.slice sa sl sc) wr W3 hJs (by omega) HB3.out ⟨bV HOWN.out (by omega),⟨by rw[<-Lib.size_eq];exact hSs,hsm,Nat.le_trans hes (by omega)⟩,hes⟩;rw[hx]at hy;have HRR:=ad hR;have hrt:Evt.bC ⟨pos+1,ep,⟨S.data.toList,ex,se,sq,es⟩⟩=true:=by
         have:=Evt.tO t (by rw[HK.out]);rw[HK.out]at this;exact this
        have hpr:=(Evt.fw (pos+1)).1 (Evt.kE.1 hrt).1;clear hrt;clear hR
        gi_wp2
        refine HRR.out.mono ?_;rintro e W4 ⟨rfl,hJ4,hk4⟩;have ew4:EB w2.heap.size (pos+1) ep S ex se sq (.slice sa sl sc) W4:=(hk4.2.2 _ (by omega) (by omega)).trans HEB.out;obtain⟨j0,j1,j2,j3,j4,j5,j6⟩:=ew4.cells;have hbp4:Boxed W4 Bp 3 (.int .i64 pos):=(hk4.2.1 Bp hBp hBp2).trans hbp3;have hc4:=hbp4.cell;have hf4:=hbp4.frozen;have hb4:Below a.heap.size a W4:=hb3.trans (hk4.1.mono haG);have hs4:=hk4.1.size;have hJn:=hJ _ _ (W4.setCell ⟨Bp,0,none⟩ (.int .i64 (pos+1))) hJ4 (grownBy_setCell' W4 Bp _);have hneE:Bp≠w2.heap.size:=by omega
        have hneE2:w2.heap.size≠Bp:=by omega
        have j1s:(W4.setCell ⟨Bp,0,none⟩ (.int .i64 (pos+1))).cell? ⟨w2.heap.size,1,none⟩=some (.int .i64 ep):=(grownBy_setCell' W4 Bp (.int .i64 (pos+1))).cell j1 (by simp;omega)
        gi_wp2
        gi_region
        have hJ5:=hJ _ _ (W4.setCell ⟨Bp,0,none⟩ (.int .i64 (pos+1))).drew hJn (iQ (bZ ((ae _ _).drew)));have hb5:Below a.heap.size a (W4.setCell ⟨Bp,0,none⟩ (.int .i64 (pos+1))).drew:=(hb4.setCell (p:=⟨Bp,0,none⟩) (by simp;omega) _).drew;have hbp5:Boxed (W4.setCell ⟨Bp,0,none⟩ (.int .i64 (pos+1))).drew Bp 3 (.int .i64 (pos+1)):=hbp4.set _;have hs5:W.heap.size<=(W4.setCell ⟨Bp,0,none⟩ (.int .i64 (pos+1))).drew.heap.size:=by simp;omega
        have FE:=ad (show(pre++[((⟨pos+1,ep,⟨S.data.toList,ex,se,sq,es⟩⟩:Evt.Entry),Value.slice sa sl sc)]).map (·.1)++af.eV (pos+1) ep (L.drop (i+1))=af.eV pos0 0 L by
         rw[<-HF.out,FG.out];simp)
        gi_wp2
        go_roundw
        case rel=>exact⟨i+1,pos+1,ep,_,rfl,by go_num,by omega,hJ5,by simp;omega,hb5,hbp5,hs5,by omega,by omega,FE.out⟩
        case measure=>simp[intOf];omega
      ·have hpb:(p != pos+1)=true:=by rw[bne_iff_ne];exact hpe
       have FN:=ad (show pre.map (·.1)=af.eV pos0 0 L by
        have h:=HF.out;rw[HD.out,lN (by rw[HG0.out];simp[hpe]),List.append_nil]at h;exact h)
       clear he
       gi_wp2
       refine⟨fun _ h=>(by cases h),?_⟩
       gi_wp2
       refine bodyPost_ret (results_none rfl _ _ _) rfl ?_;exact⟨⟨_,rfl⟩,pre,FN.out,HJ.out⟩
    ·have hcb0:((cd:Int) != 0)=true:=by rw[bne_iff_ne];omega
     have FN:=ad (show pre.map (·.1)=af.eV pos0 0 L by
      have h:=HF.out;rw[HD.out,lN (by rw[HG0.out];simp[hc0]),List.append_nil]at h;exact h)
     clear he
     gi_wp2
     refine⟨fun _ h=>(by cases h),?_⟩
     gi_wp2
     refine bodyPost_ret (results_none rfl _ _ _) rfl ?_;exact⟨⟨_,rfl⟩,pre,FN.out,HJ.out⟩
  ·have FN:=ad (show pre.map (·.1)=af.eV pos0 0 L by
    have h:=HF.out;rw[List.drop_eq_nil_of_le (by omega),af.eV,List.append_nil]at h;exact h)
   gi_wp2
   refine bodyPost_end (results_none rfl _ _ _) rfl ?_;exact⟨⟨_,rfl⟩,pre,FN.out,hJs⟩
theorem ot (sa:Option Addr) (sl sc:Nat) (pos:Int) (w:World) :
 Calls prog 224 #[.slice sa sl sc,.int .i64 pos] w fun e w'=>e=.returned (.func (.func 257) #[] #[.pointer (some ⟨w.heap.size,0,none⟩),.pointer (some ⟨w.heap.size+1,0,none⟩)])/\w'=(w.alloc (.cells #[.slice sa sl sc] 260)).alloc (.cells #[.int .i64 pos] 3):=by
 go_enter func224,ntmps224;go_wp2;go_ret;exact⟨rfl,rfl⟩
def SB (b:Nat) (first:Int) (v:Value) (t:Bool) (w:World):Prop:=w.heap[b]?=some (.cells #[.int .i64 first,v,.bool t] 312 (0,0))
theorem SB.kept {b:Nat} {f:Int} {v:Value} {t:Bool} {w w':World} {r:Option Nat} (h:SB b f v t w) (hg:w.grownBy w' r) (hr:some b≠r):SB b f v t w' :=
 (hg.block b (aA.1 h).1 hr).trans h
theorem SB.next {b:Nat} {f:Int} {v:Value} {t:Bool} {w w':World} (h:SB b f v t w) (hb:Below w.heap.size w w'):SB b f v t w':=h.kept (bZ hb) (by simp)
theorem SB.oW {b:Nat} {f0:Int} {v0:Value} {t0:Bool} {w:World} (h:SB b f0 v0 t0 w) (f:Int) (v:Value) (t:Bool) :
 SB b f v t (((w.setCell ⟨b,0,none⟩ (.int .i64 f)).setCell ⟨b,1,none⟩ v).setCell ⟨b,2,none⟩ (.bool t))/\w.grownBy (((w.setCell ⟨b,0,none⟩ (.int .i64 f)).setCell ⟨b,1,none⟩ v).setCell ⟨b,2,none⟩ (.bool t)) (some b) :=
 ⟨av (i:=2) (av (i:=1) (av (i:=0) h _) _) _,aF (aF (az _ _ _ _) (az _ _ _ _)) (az _ _ _ _)⟩
theorem SB.cells {b:Nat} {f:Int} {v:Value} {t:Bool} {w:World} (h:SB b f v t w):w.cell? ⟨b,0,none⟩=some (.int .i64 f)/\w.cell? ⟨b,1,none⟩=some v/\w.cell? ⟨b,2,none⟩=some (.bool t):=by
 refine⟨?_,?_,?_⟩ <;> (rw[aw h];rfl)
theorem SB.frozen {b:Nat} {f:Int} {v:Value} {t:Bool} {w:World} (h:SB b f v t w):∀i,w.frozen? ⟨b,i,none⟩=false:=fun i=>ay h i
theorem SB.not_row {b base sz n:Nat} {f:Int} {u v:Value} {t:Bool} {e:TypeId} {xs:List Value} {w:World} (h:SB b f u t w) (hr:w.ownsRow base e sz v n xs) (he:312≠e):some b≠v.ownBlock:=by
 rcases hr.2 with⟨rfl,_⟩|⟨g,cap,cur,rfl,_,hg,_⟩
 ·simp[Value.ownBlock]
 ·intro e';simp only[Value.ownBlock,Option.some.injEq]at e';subst e';rw[show w.heap[b]?=_ from h]at hg;cases hg;exact he rfl
theorem jy {X Y:World} {B b e sz n:Nat} {v:Value} {xs:List Value} (h:X.ownsRow B e sz v n xs) (hg:X.grownBy Y (some b)) (hb:b<B\/∃o:Obj,X.heap[b]?=some o/\o.isCells=false):Y.ownsRow B e sz v n xs:=by
 refine h.kept hg (.inr ?_);intro e';rcases h.2 with⟨rfl,_⟩|⟨g,cap,cur,rfl,h1,h2,_⟩
 ·simp[Value.ownBlock]at e'
 ·simp only[Value.ownBlock,Option.some.injEq]at e';subst e';rcases hb with hb|⟨o,ho,hc⟩
  ·omega
  ·rw[ho]at h2;cases h2;cases hc
def LI (G:Nat) (first:Int) (a:World) (pre:List bu) (W:World):Prop :=
 (∃v,SB G first v false W/\W.ownsRow (G+3) 95 7 v pre.length (aM pre))/\(∀p∈pre,ng (G+3) p W W)/\Below G a W/\G+3<=W.heap.size
theorem pr {X Y:World} {B b:Nat} {p:bu} (h:ng B p X X) (hg:X.grownBy Y (some b)) (hb:b<B\/∃o:Obj,X.heap[b]?=some o/\o.isCells=false):ng B p Y Y :=
 ⟨jy h.1 hg hb,h.2⟩
theorem F8 (G:Nat) (first:Int) (a:World) (haG:G<=a.heap.size):Yields (G+3) (G+2) (LI G first a):=by
 rintro s X Y b ⟨⟨v,h1,h2⟩,h3,h4,h5⟩ hg hb;have hb':b<G+3\/∃o:Obj,X.heap[b]?=some o/\o.isCells=false:=by
  rcases hb with rfl|⟨_,h⟩
  ·exact .inl (by omega)
  ·exact .inr h
 have hbG:G<=b:=by rcases hb with rfl|⟨h,_⟩ <;> omega
 have hne:some G≠some b:=by
  rcases hb with rfl|⟨h,_⟩
  ·simp
  ·simp;omega
 refine⟨⟨v,h1.kept hg hne,jy h2 hg hb'⟩,fun p hp=>pr (h3 p hp) hg hb',h4.trans (aU hg hbG (Nat.le_trans haG h4.size)),Nat.le_trans h5 hg.size⟩
def LB (G:Nat) (first:Int) (a:World) (pre:List bu) (x:bu) (k:Nat) (X W:World):Prop :=
 X.heap.size<=k/\k<W.heap.size/\G+3<=X.heap.size/\EB k x.1.pos x.1.epoch ⟨x.1.b.stream.toArray⟩ x.1.b.expect x.1.b.br x.1.b.seq x.2 W /\
  (∃v,SB G first v false W/\W.ownsRow (G+3) 95 7 v pre.length (aM pre)/\∀r,v.ownBlock=some r->r<X.heap.size)/\(∀p∈pre,ng (G+3) p W W)/\ng (G+3) x W W/\Below G a W
theorem Kw {G:Nat} {first:Int} {a:World} {pre:List bu} {x:bu} {k l:Nat} {X W:World} {o:Obj} (o':Obj) (haG:G<=a.heap.size) (h:LB G first a pre x k X W) (hl:G+3<=l) (hX:l<X.heap.size) (ho:W.heap[l]?=some o) (hc:o.isCells=false):LB G first a pre x k X (W.putObj l o'):=by
 obtain⟨h1,h1b,h2,h3,⟨v,h4,h5,h6⟩,h7,h8,h9⟩:=h;have hg:=grownBy_putObj' W l o';have hb':l<G+3\/∃o:Obj,W.heap[l]?=some o/\o.isCells=false:=.inr ⟨o,ho,hc⟩;exact⟨h1,by simpa using h1b,h2,h3.kept hg (by simp;omega),⟨v,h4.kept hg (by simp;omega),jy h5 hg hb',h6⟩,fun p hp=>pr (h7 p hp) hg hb',pr h8 hg hb',h9.trans (aU hg (by omega) (Nat.le_trans haG h9.size))⟩
def yw (x:bu):Obj:=.cells #[.int .i64 x.1.pos,.int .i64 x.1.epoch,.string ⟨x.1.b.stream.toArray⟩,.int .i64 x.1.b.expect,.int .i64 x.1.b.br,.int .i64 x.1.b.seq,x.2] 95
theorem rz (ps:List bu) (x:bu):aM (ps++[x])=aM ps++[.int .i64 x.1.pos,.int .i64 x.1.epoch,.string ⟨x.1.b.stream.toArray⟩,.int .i64 x.1.b.expect,.int .i64 x.1.b.br,.int .i64 x.1.b.seq,x.2]:=by simp[aM]
theorem Bd {W:World} {B B' e e' sz sz' n n':Nat} {v v':Value} {xs xs':List Value} (h:W.ownsRow B e sz v n xs) (h':W.ownsRow B' e' sz' v' n' xs') (he:e≠e'):v.ownBlock=none\/v.ownBlock≠v'.ownBlock:=by
 rcases h.2 with⟨rfl,_⟩|⟨g,cap,cur,rfl,_,hg,_⟩
 ·exact .inl rfl
 ·rcases h'.2 with⟨rfl,_⟩|⟨g',cap',cur',rfl,_,hg',_⟩
  ·exact .inr (by simp[Value.ownBlock])
  ·refine .inr (fun q=>?_);simp only[Value.ownBlock,Option.some.injEq]at q;subst q;rw[hg]at hg';cases hg';exact he rfl
theorem AA {G:Nat} {first:Int} {a:World} {pre:List bu} {x:bu} {X W w1:World} {u v':Value} {o:Obj} (h2:G+3<=X.heap.size) (hXW:X.heap.size<=W.heap.size) (h4:SB G first u false W) (h5:W.ownsRow (G+3) 95 7 u pre.length (aM pre))
 (h6:∀r,u.ownBlock=some r->r<X.heap.size) (h7:∀p∈pre,ng (G+3) p W W) (h8:ng (G+3) x W W) (h9:Below G a W) (hown:w1.ownsRow (G+3) 95 7 v' (pre.length+1) (aM (pre++[x]))) (hgrow:(W.alloc o).grownBy w1 u.ownBlock) :
 KeepsFrom (G+3) W (w1.setCell ⟨G,1,none⟩ v')/\iq G (G+3) X W (w1.setCell ⟨G,1,none⟩ v')/\LI G first a (pre++[x]) (w1.setCell ⟨G,1,none⟩ v'):=by
 have hg:=oA hgrow;have hs:=hg.size;have hlow:∀r,u.ownBlock=some r->G+3<=r:=fun r hr=>(h5.lt r hr).1;have hset:∀j,j≠G->(w1.setCell ⟨G,1,none⟩ v').heap[j]?=w1.heap[j]?:=fun j hj=>Below.heap_setCell _ _ _ j hj;have hsz:(w1.setCell ⟨G,1,none⟩ v').heap.size=w1.heap.size:=by simp
 have same:∀j,j<W.heap.size->j≠G->some j≠u.ownBlock->(w1.setCell ⟨G,1,none⟩ v').heap[j]?=W.heap[j]?:=fun j hj hG hn=>(hset j hG).trans (hg.block j hj hn);have s1:SB G first u false w1:=h4.kept hg (h4.not_row h5 (by decide))
 have below:Below G W (w1.setCell ⟨G,1,none⟩ v'):=⟨hg.os,hg.tape,hg.output,by omega,fun j hj=>same j (by omega) (by omega) (fun e=>by have:=hlow j e.symm;omega)⟩;have got:∀p:bu,ng (G+3) p W W->ng (G+3) p (w1.setCell ⟨G,1,none⟩ v') (w1.setCell ⟨G,1,none⟩ v'):=fun p hp=>by
  refine⟨jy (b:=G) (hp.1.kept hg ?_) (az w1 G 1 v') (.inl (by omega)),hp.2⟩;rcases Bd hp.1 h5 (by decide)with h|h
  ·exact .inl h
  ·exact .inr h
 refine⟨⟨by omega,fun j ob hj hob hc=>?_⟩,⟨below,fun j h1 h3=>same j (by omega) (by omega) (fun e=>by have:=hlow j e.symm;omega),fun j h1 h3=>same j h3 (by omega) (fun e=>by have:=h6 j e.symm;omega)⟩,
  ⟨v',av (i:=1) s1 v',?_⟩,?_,h9.trans below,by omega⟩
 ·refine(same j (aA.1 hob).1 (by omega) (fun e=>?_)).trans hob;rcases h5.2 with⟨rfl,_⟩|⟨g,cap,cur,rfl,_,hgg,_⟩
  ·cases e
  ·simp only[Value.ownBlock,Option.some.injEq]at e;subst e;rw[hob]at hgg;cases hgg;cases hc
 ·rw[List.length_append];exact hown.kept (az w1 G 1 v') (.inr (s1.not_row hown (by decide)).symm)
 ·intro p hp;rcases aK.1 hp with h|h
  ·exact got p (h7 p h)
  ·rw[aN.1 h];exact got x h8
def gl (base:Nat) (w:World) (v:Value) (ps:List bu):Prop:=w.ownsRow base 95 7 v ps.length (aM ps)/\∀p∈ps,ng base p w w
theorem gl.cr {base:Nat} {w:World} {v:Value} {ps:List bu} (h:gl base w v ps):dk w v ps :=
 ⟨aj h.1,fun p hp=>⟨aj (h.2 p hp).1,(h.2 p hp).2.1⟩⟩
theorem Av {G R D:Nat} {W W6 W7 W8:World} {ys:List bu} {v:Value} (h1:W.ownsRow (G+3) 95 7 v ys.length (aM ys)) (h2:∀p∈ys,ng (G+3) p W W) (b6:Below W.heap.size W W6) (hR:R<G)
 (g7:W6.grownBy W7 (some G)) (g8:W7.grownBy W8 (some R)) (hK:W8.heap[D]?=some (.deferred (some []))) (o':Obj):gl R (W8.putObj D o') v ys:=by
 have all:∀{e sz n:Nat} {v:Value} {xs:List Value},W.ownsRow (G+3) e sz v n xs->(W8.putObj D o').ownsRow R e sz v n xs:=fun h =>
  bV (ownsRow_putObj (jy (jy (bX h b6) g7 (.inl (by omega))) g8 (.inl (by omega))) o' hK rfl) (by omega)
 exact⟨all h1,fun p hp=>⟨all (h2 p hp).1,(h2 p hp).2⟩⟩
theorem uT {G D:Nat} {w w3 W W6 W7 W8:World} (hb3:Below w.heap.size w w3) (hG:G=w3.heap.size) (hB:Below G w3 W) (b6:Below W.heap.size W W6) (g7:W6.grownBy W7 (some G)) (g8:W7.grownBy W8 (some w.heap.size)) (hD:G<=D) (o':Obj):Below w.heap.size w (W8.putObj D o'):=by
 subst hG;have s3:=hb3.size;have sB:=hB.size;have s6:=b6.size;have s7:=g7.size;have s8:=g8.size;refine hb3.trans ((hB.mono s3).trans ((b6.mono (by omega)).trans ((aU g7 (by omega) (by omega)).trans ((aU g8 ab (by omega)).trans ?_))));exact⟨rfl,rfl,rfl,by simp,fun k hk=>World.putObj_heap_other (by omega)⟩
theorem uy {g:Operand} {ps:Array Tmp} {assign body:Code} {Q:Exit->Act->World->Prop} {a:Act} {w5:World} {gf:Nat} {lb:Array Value} (G:Nat) (first:Int) (a0:World) (haG:G<=a0.heap.size) (S:List bu->Prop) (N:Nat)
 (hg:a.eval g=.func (.func gf) #[] lb) (hFg:Fence.wide.fn gf) (eg:∀args w,(callFunc gf args).run prog w=.ok (.enter gf args) w)
 (hseq:AJ Fence.wide 5 prog gf lb (fun x:bu=>#[fy x]) (ng (G+3)) (iq G (G+3)) S N (G+2) w5) (hs:w5.heap.size=G+3) (hps:ps.size=1) (h0:LI G first a0 [] w5)
 (hassign:∀(l:Nat) (x:bu) (W:World) (K:Act->World->Prop),ng (G+3) x W W->K {tmps:=(a.tmps.setIfInBounds 73 (fy x)).setIfInBounds 13 (.pointer (some ⟨W.heap.size,0,none⟩)),defers:=[]} (W.alloc (yw x)) ->
  assign.wpIn (Fence.wide.inRound l) 4 prog (Exit.then K (fun _ _ _=>False)) {tmps:=(ps.zip #[fy x]).foldl (fun t (p,v)=>t.setIfInBounds p v) a.tmps,defers:=[]} W)
 (hbody:∀(l:Nat) (pre:List bu) (x:bu) (k:Nat) (X W:World),LB G first a0 pre x k X W->pre.length<=1000000 ->
  body.wpIn (Fence.wide.inRound l) 4 prog (Exit.then (fun _ W'=>KeepsFrom (G+3) W W'/\iq G (G+3) X W W'/\LI G first a0 (pre++[x]) W') (fun _ _ _=>False)) {tmps:=(a.tmps.setIfInBounds 73 (fy x)).setIfInBounds 13 (.pointer (some ⟨k,0,none⟩)),defers:=[]} W)
 (hdone:∀(D:Nat) (xs:List bu) (W:World),G+3<=D->S xs->LI G first a0 xs W->W.heap[D]?=some (.deferred (some []))->Q .normal {a with defers:={target:=.collected D,args:=#[]}::a.defers} W) (hN:N<=1000000) :
 (Code.rangeFunc g ps assign body).wpIn Fence.wide 6 prog Q a w5:=by
 refine qf rfl (by omega) hg hFg eg hseq (by omega) iq.trans ?_ (fun x=>by rw[hps];rfl) (LI G first a0) (by rw[hs];exact F8 G first a0 haG) h0
  (fun pre x X a' W=>∃k,a'={tmps:=(a.tmps.setIfInBounds 73 (fy x)).setIfInBounds 13 (.pointer (some ⟨k,0,none⟩)),defers:=[]}/\LB G first a0 pre x k X W/\pre.length<N) ?_ ?_ ?_ ?_
 ·intro X W l o hl hX;exact⟨⟨rfl,rfl,rfl,by simp,fun k hk=>World.putObj_heap_other (by omega)⟩,fun k h1 h2=>World.putObj_heap_other (by omega),fun k h1 h2=>World.putObj_heap_other (by omega)⟩
 ·rintro pre x X a' W l o o' ⟨k,h1,h2,h3⟩ hl hX ho hc;exact⟨k,h1,Kw o' haG h2 (by omega) hX ho hc,h3⟩
 ·rintro l pre x X W K ⟨⟨v,h1,h2⟩,h3,h4,h5⟩ hXW hgx hlen hK;have hXs:=hXW.size;refine hassign l x W K hgx (hK _ _ ?_ ?_ ⟨W.heap.size,rfl,?_,hlen⟩)
  ·exact KeepsFrom.of_grownBy (World.grownBy_alloc W (yw x) none) (fun j e=>by cases e)
  ·exact⟨(ae _ _).alloc (by omega) _,fun k _ h2=>Below.heap_alloc _ _ _ (by omega),fun k _ h2=>Below.heap_alloc _ _ _ h2⟩
  ·have hlt:∀r,v.ownBlock=some r->r<X.heap.size:=fun r hr=>(h2.lt r hr).2;exact⟨hXW.size,by simp,by omega,heap_alloc_new W _,⟨v,(h1.next hXW).kept (World.grownBy_alloc W _ none) (by simp),(bX h2 hXW).alloc _,hlt⟩,
    fun p hp=>⟨(bX (h3 p hp).1 hXW).alloc _,(h3 p hp).2⟩,⟨hgx.1.alloc _,hgx.2⟩,(h4.trans (hXW.mono (by omega))).alloc (by omega) _⟩
 ·rintro l pre x X a' W ⟨k,rfl,h2,h3⟩;rw[hs];exact hbody l pre x k X W h2 (by omega)
 ·intro D xs W hD hS hI hK;exact hdone D xs W (by omega) hS hI hK
attribute [local go_sem] Oper.semAt_some
def af.cA (n:Int) (fs:List Dk.ai):af.af×Nat:=if (Dk.read (af.nameOf n) fs).2=0 then af.load (Dk.read (af.nameOf n) fs).1.data.toList else (af.oI,6)
theorem iN:(prog.info? 312).map (·.size)=some 3:=by kernel_rfl
theorem aO {P:Program} {fn:Func} {p u:Tmp} {ty:TypeId} (h:fn.results=#[.cell p ty,.tmp u]) (tmps:Array Value) (w:World) (g:Nat) (t:TypeId) (cs:Array Value) (fr:Nat×Nat) (d:TypeDesc)
 (hp:tmps.getD p undef=.pointer (some ⟨g,0,none⟩)) (hg:w.heap[g]?=some (.cells cs t fr))
 (hu:P.underlying ty=some d) (hd:(match d with|.struct _|.array _ _=>true|_=>false)=true) (hi:(P.info? ty).map (·.size)=some cs.size) :
 (results fn tmps).run P w=.ok (.tuple #[.agg cs,tmps.getD u undef]) w:=by
 have hp':tmps[p]?.getD undef=.pointer (some ⟨g,0,none⟩):=by simpa using hp
 simp[results,h,hp',asAddr,run_loadVar_row w g t ty cs fr d hg hu hd hi]
theorem Ew {w:World} {b o c:Nat} {q:List UInt8} {L:List (List UInt8)} (h:Cells w (.slice (some ⟨b,o,none⟩) (L.length+1) c) 1 (q::L).length (strCells (q::L))):Cells w (.slice (some ⟨b,o+1,none⟩) L.length (c-1)) 1 L.length (strCells L):=by
 refine⟨by simp[strCells],.inr ⟨b,o+1,c-1,rfl,fun j u hj=>?_⟩⟩;rcases h.2 with⟨h0,_⟩|⟨b',o',c',hv,hx⟩
 ·simp at h0
 ·cases hv;have:=hx (j+1) u (by simpa[strCells]using hj)
  rwa [show o+(j+1)=o+1+j by omega]at this
theorem Cd {w:World} {b o:Nat} {q:List UInt8} {L:List (List UInt8)} (_h:Cells w (.slice (some ⟨b,o,none⟩) (L.length+1) 1) 1 (q::L).length (strCells (q::L))) (h0:L.length=0):Cells w (.slice (some ⟨b,o,none⟩) L.length 0) 1 L.length (strCells L):=by
 have:=aP h0;subst this;exact⟨rfl,.inl ⟨rfl,_,_,rfl⟩⟩
theorem sM {w3 w5:World} {b o c:Nat} {L:List (List UInt8)} {pos:Int} (ha:Env w3) (bL:Boxed w5 (w3.heap.size+1) 260 (.slice (some ⟨b,o,none⟩) L.length c)) (bP:Boxed w5 (w3.heap.size+2) 3 (.int .i64 pos))
 (hs5:w5.heap.size=w3.heap.size+3) (hb:Below w3.heap.size w3 w5) (hcl:Cells w3 (.slice (some ⟨b,o,none⟩) L.length c) 1 L.length (strCells L)) (hL:∀p∈L,p.length<=1000000) (hn:L.length<=1000000000) (hp0:0<=pos) (hp1:pos<=274877906944) :
 AJ Fence.wide 5 prog 257 #[.pointer (some ⟨w3.heap.size+1,0,none⟩),.pointer (some ⟨w3.heap.size+2,0,none⟩)] (fun x:bu=>#[fy x]) (ng (w3.heap.size+3)) (iq w3.heap.size (w3.heap.size+3)) (fun ys=>ys.map (·.1)=af.eV pos 0 L) L.length (w3.heap.size+2) w5:=by
 intro l J W hW hJ hY h0;have hWs:=hW.size;exact B8 5 (by omega) l w3.heap.size (w3.heap.size+3) (w3.heap.size+1) (w3.heap.size+2) (w3.heap.size+3) L pos w3 ha ab b o c W hp0 hp1 (hb.trans (hW.mono (by omega))) (by omega) (by omega) (by omega) (by omega)
  (bL.kept (bZ hW) (by simp)) (bP.kept (bZ hW) (by simp)) hcl hL hn J hJ hY h0
theorem Jk {w:World} {B e sz n:Nat} {v:Value} {xs:List Value} (h:w.ownsRow B e sz v n xs):∀(a:Option Addr) (m c:Nat),v=.slice a m c->m<=c:=by
 intro a m c hv;rcases h.2 with⟨h1,h2⟩|⟨g,cap,cur,h1,_,_,h2,_⟩
 ·rw[hv]at h1;cases h1;omega
 ·rw[hv]at h1;cases h1;exact h2
theorem Gt:fh prog 67 95 7:=by
 have h:(prog.info? 95).map (fun i=>(i.zero,i.size,i.bytes))=some (some (.agg #[.int .i64 0,.int .i64 0,.string ⟨#[]⟩,.int .i64 0,.int .i64 0,.int .i64 0,.slice none 0 0]),7,80):=by kernel_rfl
 obtain⟨i0,hi,hz0,hz1,hz2⟩:=info_parts h;exact⟨underlying67,⟨i0,_,80,hi,hz0,hz1,hz2,rfl,by omega⟩,by omega⟩
theorem uv:∀(fs:List Dk.ai) (k:List UInt8) (x:Dk.ai),Dk.look fs k=some x->x.bytes.size<=Dk.total fs
 |[],_,_,h=>by cases h
 |y::fs,k,x,h=>by
  rw[Dk.look]at h;rw[Dk.total];split at h
  ·cases h;omega
  ·have:=uv fs k x h;omega
theorem kg {w:World} {d:Nat} {room:Int} {fs:List Dk.ai} {ft:Nat->Prop} (h:bw w d room fs ft) (hr:room<=4194304) (nm:List UInt8):(Dk.read nm fs).1.size<=4194304:=by
 obtain⟨bm,D,g,h1,h2,h3,h4,h5,⟨h6,h6b,h6c⟩,_⟩:=h;unfold Dk.read;split
 ·simp[ByteArray.size]
 ·rename_i x hx;have:=uv fs nm x hx;simp only;omega
theorem Ki (q:List UInt8):Lib.hasPrefix q [115]=(q.head?==some 115):=by
 cases q with
 |nil=>rfl
 |cons c r=>simp[Lib.hasPrefix,List.isPrefixOf];rw[Bool.eq_iff_iff];simp;exact⟨fun h=>h.symm,fun h=>h.symm⟩
theorem Hy {s:List UInt8} (h:(Frm.scan s).1=[]):af.load s=(af.oI,2):=by unfold af.load;rw[h]
theorem lL {s:List UInt8} {q:List UInt8} {l:List (List UInt8)} (h:(Frm.scan s).1=q::l) (ho:af.opens q=false):af.load s=(af.oI,2):=by unfold af.load;rw[h];simp[ho]
theorem F6 {s:List UInt8} {q:List UInt8} {l:List (List UInt8)} {f:Nat} (h:(Frm.scan s).1=q::l) (ho:af.opens q=true) (hf:(Num.take (q.drop 1)).1=f):af.load s=(af.kN f (af.eV ((f:Int)-1) 0 l) s,0):=by subst hf;unfold af.load;rw[h];simp only[ho,if_true]
set_option maxRecDepth 100000 in
set_option maxHeartbeats 4000000 in
theorem nK (a:World) (d:Nat) (room n:Int) (fs:List Dk.ai) (ft:Nat->Prop) (w:World) (hA:fF a w ft) (h:bw w d room fs ft) (hroom:room<=4194304) :
 Calls prog 193 #[.pointer (some ⟨d,0,none⟩),.int .i64 n] w fun e w'=>∃(first:Int) (v:Value) (ps:List bu) (cH:Bool) (c:Nat),e=.returned (.tuple #[.agg #[.int .i64 first,v,.bool cH],.int .i64 (c:Int)]) /\
  Hid (af.cA n fs=(⟨first,ag ps,cH⟩,c))/\Hid (gl w.heap.size w' v ps)/\Below w.heap.size w w':=by
 have z0:SB w.heap.size 0 (.slice none 0 0) false (w.alloc (.cells #[.int .i64 0,.slice none 0 0,.bool false] 312)):=heap_alloc_new w _;have hb0:Below w.heap.size w (w.alloc (.cells #[.int .i64 0,.slice none 0 0,.bool false] 312)):=(ae _ _).alloc ab _;have hnl:=af.gL n;have HLD:=ad (show af.cA n fs=if (Dk.read (af.nameOf n) fs).2=0 then af.load (Dk.read (af.nameOf n) fs).1.data.toList else (af.oI,6)from rfl);have HNM:=ad (fj n _ (hA.next hb0).fW);obtain⟨nm,hnm⟩:∃nm,af.nameOf n=nm:=⟨_,rfl⟩;rw[hnm]at HLD HNM hnl;clear hnm;have hns:(⟨nm.toArray⟩:ByteArray).size<=14:=by rw[Lib.size_eq];exact hnl
 obtain⟨s,hs⟩:∃s,(Dk.read nm fs).1=s:=⟨_,rfl⟩;obtain⟨c0,hc0⟩:∃c,(Dk.read nm fs).2=c:=⟨_,rfl⟩;have hss:s.size<=4194304:=by rw[<-hs];exact kg h hroom nm
 have HD:=ad h;have HA:=ad hA;have HRD:=fun (w1:World) (hb:Below w.heap.size w w1)=>gO d room fs ft ⟨nm.toArray⟩ w1 (HD.out.next hb) (by omega);rw[show(Dk.read (⟨nm.toArray⟩:ByteArray).data.toList fs).1=s from hs,show(Dk.read (⟨nm.toArray⟩:ByteArray).data.toList fs).2=c0 from hc0]at HRD;have HRD:=ad HRD;rw[hs,hc0]at HLD;clear h hA hs hc0 hnl;have Z0:=ad z0;have HB0:=ad hb0;clear z0 hb0;refine(callsIn_wide (n:=6)).1 ?_;refine callsIn_of_wp_marks func193 rfl trivial ?_ rfl;simp only[ntmps193,List.size_toArray,List.length_cons,List.length_nil,Nat.reduceAdd,Nat.reduceSub,Array.replicate_succ,Array.replicate_zero,List.push_toArray,List.append_toArray,List.nil_append,List.cons_append]
 gi_wp2
 refine⟨trivial,(callsIn_wide.2 HNM.out).mono ?_⟩;rintro e w1 ⟨rfl,b1⟩;have z1:=Z0.out.next b1;have hb1:=Below.up HB0.out ab b1
 gi_wp2
 refine⟨trivial,(callsIn_wide.2 (HRD.out w1 hb1)).mono ?_⟩;rintro e w1' ⟨rfl,hw1⟩;obtain rfl:=hw1;obtain⟨k0,k1,k2⟩:=z1.cells;have f0:=z1.frozen 0;have f1:=z1.frozen 1;have f2:=z1.frozen 2;by_cases hc0:c0=0
 ·subst hc0;have HLL:=ad (HLD.out.trans (if_pos rfl));clear HLD
  gi_wp2
  refine⟨trivial,(callsIn_wide.2 (G5 s w1 (by omega))).mono ?_⟩;rintro e w2 ⟨v,at_,rfl,own,b2⟩;have z2:=z1.next b2;have hb2:=Below.up hb1 ab b2;have hmem:=Frm.mC _ s.data.toList ab;have hcnt:=Frm.l' _ s.data.toList ab;rw[<-Lib.size_eq]at hcnt;obtain⟨Ls,hLs⟩:∃Ls,(Frm.scan s.data.toList).1=Ls:=⟨_,rfl⟩;rw[hLs]at own hmem hcnt;have hcl:=aj own;have hcapo:=Jk own;clear own k0 k1 k2 f0 f1 f2 b2;obtain⟨m0,m1,m2⟩:=z2.cells;have g0:=z2.frozen 0;have g1:=z2.frozen 1;have g2:=z2.frozen 2;cases Ls with
  |nil =>
   obtain⟨sa,sc,rfl⟩:∃sa sc,v=.slice sa 0 sc:=by
    rcases cC hcl with⟨_,sa,sc,hv⟩|⟨b,o,c,hv⟩
    ·exact⟨sa,sc,hv⟩
    ·exact⟨_,_,hv⟩
   have HL:=ad (HLL.out.trans (Hy hLs));have zz:=z2;have hbz:=hb2;clear hLs hmem hcnt;have HP:=ad (SB.oW zz 0 (.slice none 0 0) false);have HBN:=ad (hbz.trans (aU HP.out.2 ab (by have:=hbz.size;omega)))
   gi_wp2
   refine⟨trivial,?_⟩
   gi_wp2
   refine⟨_,aO rfl _ _ w.heap.size _ _ _ _ rfl HP.out.1 underlying312 rfl iN,?_⟩;exact⟨0,_,[],false,2,rfl,HL,⟨World.ownsRow_nil _ _ _ _,fun p hp=>by cases hp⟩,HBN.out⟩
  |cons q Lr =>
   obtain⟨b,o,c,rfl,hq⟩:=tR hcl 0 (by simp);have hcap:Lr.length+1<=c:=hcapo _ _ _ rfl;obtain⟨qs,hqs,hqd,hqz⟩:=bf q;have hq1:1<=q.length:=(hmem q (by simp)).1;have hq8:q.length<=8000:=(hmem q (by simp)).2;simp only[List.getElem_cons_zero,Nat.add_zero]at hq;rw[hqs]at hq;have hqz1:1<=qs.size:=by omega
   have hqz8:qs.size<=8000:=by omega
   have HQD:=ad hqd;have HLS:=ad hLs;have HM:=ad hmem;have HCN:=ad hcnt;have HCL:=ad hcl;have HP:=Tryz.strings_HasPrefix qs ⟨#[115]⟩ w2;rw[show Lib.hasPrefix qs.data.toList (⟨#[115]⟩:ByteArray).data.toList=(q.head?==some 115)by rw[hqd];exact Ki q]at HP;have HPX:=ad HP;clear HP hLs hmem hcnt hcl hqs hqd hqz hq1 hq8;cases hh:(q.head?==some 115)with
   |false =>
    rw[hh]at HPX;have HL:=ad (HLL.out.trans (lL HLS.out (by unfold af.opens;rw[hh];rfl)))
    gi_wp2
    refine⟨trivial,(callsIn_wide.2 HPX.out).mono ?_⟩;rintro e w2' ⟨rfl,hw2⟩;obtain rfl:=hw2.symm;have zz:=z2;have hbz:=hb2;have HP:=ad (SB.oW zz 0 (.slice none 0 0) false);have HBN:=ad (hbz.trans (aU HP.out.2 ab (by have:=hbz.size;omega)))
    gi_wp2
    refine⟨_,aO rfl _ _ w.heap.size _ _ _ _ rfl HP.out.1 underlying312 rfl iN,?_⟩;exact⟨0,_,[],false,2,rfl,HL,⟨World.ownsRow_nil _ _ _ _,fun p hp=>by cases hp⟩,HBN.out⟩
   |true =>
    rw[hh]at HPX;obtain⟨Q,hQ⟩:∃Q,qs.extract 1 qs.size=Q:=⟨_,rfl⟩;have HQ:=ad (show Q.data.toList=q.drop 1 by rw[<-hQ,Lib.extract_to_end,HQD.out]);have hQz:Q.size<=8000:=by rw[<-hQ,ByteArray.size_extract];omega
    gi_wp2
    refine⟨trivial,(callsIn_wide.2 HPX.out).mono ?_⟩;rintro e w2' ⟨rfl,hw2⟩;obtain rfl:=hw2.symm
    gi_wp2
    refine⟨trivial,(callsIn_wide.2 (fS Q w2 (by omega))).mono ?_⟩;rintro e w3 ⟨fs1,r1,c1,rfl,HT,b3⟩;have z3:=z2.next b3;have hb3:=Below.up hb2 ab b3;have hcl3:=Cells.next HCL.out b3;have HO:=ad (show af.opens q=((c1==0)&&r1.data.toList.isEmpty&&decide (1<=fs1)&&decide (fs1<=274877906944))by
     unfold af.opens;rw[hh,<-HQ.out,HT.out];simp)
    have HF1:=ad (show(Num.take (q.drop 1)).1=fs1 by rw[<-HQ.out,HT.out]);clear m0 m1 m2 g0 g1 g2 hq HPX hQ b3 HT;obtain⟨m0,m1,m2⟩:=z3.cells;have g0:=z3.frozen 0;have g1:=z3.frozen 1;have g2:=z3.frozen 2;have zz:=z3;have hbz:=hb3;by_cases hc1:c1=0
    ·subst hc1;cases hre:r1.toList.isEmpty with
     |false =>
      have HL:=ad (HLL.out.trans (lL HLS.out (by rw[HO.out,<-Lib.toList_data,hre];simp)));have HP:=ad (SB.oW zz 0 (.slice none 0 0) false);have HBN:=ad (hbz.trans (aU HP.out.2 ab (by have:=hbz.size;omega)))
      gi_wp2
      refine⟨_,aO rfl _ _ w.heap.size _ _ _ _ rfl HP.out.1 underlying312 rfl iN,?_⟩;exact⟨0,_,[],false,2,rfl,HL,⟨World.ownsRow_nil _ _ _ _,fun p hp=>by cases hp⟩,HBN.out⟩
     |true =>
      by_cases hf1:fs1<1
      ·have hf1i:(fs1:Int)<1:=by omega
       have HL:=ad (HLL.out.trans (lL HLS.out (by rw[HO.out];simp;omega)));have HP:=ad (SB.oW zz 0 (.slice none 0 0) false);have HBN:=ad (hbz.trans (aU HP.out.2 ab (by have:=hbz.size;omega)))
       gi_wp2
       refine⟨_,aO rfl _ _ w.heap.size _ _ _ _ rfl HP.out.1 underlying312 rfl iN,?_⟩;exact⟨0,_,[],false,2,rfl,HL,⟨World.ownsRow_nil _ _ _ _,fun p hp=>by cases hp⟩,HBN.out⟩
      ·by_cases hf2:274877906944<fs1
       ·have hf2i:(fs1:Int) > 274877906944:=by omega
        have HL:=ad (HLL.out.trans (lL HLS.out (by rw[HO.out];simp;omega)));have HP:=ad (SB.oW zz 0 (.slice none 0 0) false);have HBN:=ad (hbz.trans (aU HP.out.2 ab (by have:=hbz.size;omega)))
        gi_wp2
        refine⟨_,aO rfl _ _ w.heap.size _ _ _ _ rfl HP.out.1 underlying312 rfl iN,?_⟩;exact⟨0,_,[],false,2,rfl,HL,⟨World.ownsRow_nil _ _ _ _,fun p hp=>by cases hp⟩,HBN.out⟩
       ·have HL:=ad (HLL.out.trans (F6 HLS.out (by rw[HO.out,<-Lib.toList_data,hre];simp;omega) HF1.out));clear HLL HO HF1 zz hbz;by_cases hcone:c=1
        ·subst hcone;obtain rfl:Lr=[]:=aP (by omega);have hclr:=ad (Cd hcl3 (by omega));have hm2:=ad (fun p (hp:p∈([]:List (List UInt8)))=>Nat.le_trans (HM.out p (List.mem_cons_of_mem _ hp)).2 (by omega:8000<=1000000));have hlr:0<=480000:=by have:=HCN.out;simp only[List.length_cons]at this;omega
         have HE:=ad (HA.out.next hb3).fW;have HEN:=ad (ot (some ⟨b,o,none⟩) 0 (0) ((fs1:Int)-1) (w3.alloc (.cells #[.int .i64 (fs1:Int),.slice none 0 0,.bool false] 312)));clear hcl3
         gi_wp2
         refine⟨trivial,(callsIn_wide.2 HEN.out).mono ?_⟩;rintro e w5 ⟨rfl,hw5⟩;have bO:SB w3.heap.size fs1 (.slice none 0 0) false w5:=by
          rw[hw5];exact SB.kept (SB.kept (show SB w3.heap.size (fs1:Int) (.slice none 0 0) false _ from heap_alloc_new w3 _) (World.grownBy_alloc _ _ none) (by simp)) (World.grownBy_alloc _ _ none) (by simp)
         have bL:Boxed w5 (w3.heap.size+1) 260 (.slice (some ⟨b,o,none⟩) 0 (0)):=by
          rw[hw5];have:=(Boxed.new (w3.alloc (.cells #[.int .i64 (fs1:Int),.slice none 0 0,.bool false] 312)) 260 (.slice (some ⟨b,o,none⟩) 0 (0))).alloc (.cells #[.int .i64 ((fs1:Int)-1)] 3)
          rwa [World.size_alloc]at this
         have bP:Boxed w5 (w3.heap.size+2) 3 (.int .i64 ((fs1:Int)-1)):=by
          rw[hw5];have:=Boxed.new ((w3.alloc (.cells #[.int .i64 (fs1:Int),.slice none 0 0,.bool false] 312)).alloc (.cells #[.slice (some ⟨b,o,none⟩) 0 (0)] 260)) 3 (.int .i64 ((fs1:Int)-1))
          rwa [World.size_alloc,World.size_alloc]at this
         have hb35:Below w3.heap.size w3 w5:=by rw[hw5];exact(((ae _ w3).alloc ab _).alloc (by simp) _).alloc (by simp;omega) _
         have hs5:w5.heap.size=w3.heap.size+3:=by rw[hw5];simp
         have HI0:=ad (show LI w3.heap.size fs1 w3 [] w5 from⟨⟨_,bO,World.ownsRow_nil _ _ _ _⟩,fun p hp=>(by cases hp),hb35,by omega⟩);have HSEQ:=ad (sM HE.out bL bP hs5 hb35 hclr.out hm2.out (by omega) (by omega:(0:Int)<=(fs1:Int)-1) (by omega));clear hw5 bO bL bP HEN
         skip
         gi_wp2
         refine uy (gf:=257) (lb:=#[.pointer (some ⟨w3.heap.size+1,0,none⟩),.pointer (some ⟨w3.heap.size+2,0,none⟩)]) w3.heap.size fs1 w3 ab _ _ rfl trivial (enters_of func257 (by kernel_rfl) rfl) HSEQ.out hs5 rfl HI0.out ?assign ?body ?done (by first|omega|(simp only[List.length_nil];omega))
         case assign =>
          rintro l ⟨⟨p,ep,⟨st,ex,se,sq,es⟩⟩,v⟩ W K hgot hK;obtain⟨ua,ul,uc,hv⟩:=cS hgot.1;simp only at hv;subst hv;simp only[fy,yw]at hK ⊢
          gi_wp2
          exact hK
         case body =>
          rintro l pre ⟨⟨p,ep,⟨st,ex,se,sq,es⟩⟩,v⟩ k X W ⟨h1,h1b,h2,h3,⟨u,h4,h5,h6⟩,h7,h8,h9⟩ hpl;have HG8:=ad h8;obtain⟨ua,ul,uc,hv⟩:=cS h8.1;simp only at hv;subst hv;obtain⟨va,vl,vc,rfl⟩:=cS h5;simp only at h3;obtain⟨k0,k1,k2,k3,k4,k5,k6⟩:=h3.cells;obtain⟨m0,m1,m2⟩:=h4.cells;have g1:=h4.frozen 1;obtain⟨i0,zz0,by0,hi,hz0,hz1,hz2,hz3,hz4⟩:=Gt.info;simp only[fy];have HH3:=ad h3;clear h3 h8 HH3
          gi_wp2_with (gi_at_builtin;refine wpListIn_append_own _ rfl _ _ 67 rfl (w3.heap.size+3) 95 i0 zz0 7 by0 underlying67 hi hz0 hz1 hz2 hz3 (by decide) (.slice va vl vc) _ _ rfl (h5.alloc _) ⟨W.heap.size,0,none⟩ 1 1 [.int .i64 p,.int .i64 ep,.string ⟨st.toArray⟩,.int .i64 ex,.int .i64 se,.int .i64 sq,.slice ua ul uc] rfl rfl (lQ W [.int .i64 p,.int .i64 ep,.string ⟨st.toArray⟩,.int .i64 ex,.int .i64 se,.int .i64 sq,.slice ua ul uc] _) (by simp[Value.oneCell']) (by unfold maxLen;omega) (Nat.le_trans (Nat.mul_le_mul_left _ hz4) (by omega)) (by simp;omega) ?_;intro v' w1 hown' hgrow _;obtain⟨g',cap',rfl⟩:=ownsRow_succ hown';have s1:=(h4.kept (World.grownBy_alloc W (.cells #[.int .i64 p,.int .i64 ep,.string ⟨st.toArray⟩,.int .i64 ex,.int .i64 se,.int .i64 sq,.slice ua ul uc] 95) none) (by simp)).kept hgrow (h4.not_row h5 (by decide));have hf1:=s1.frozen 1;have hc1:=s1.cells.2.1)
          exact AA (x:=((⟨p,ep,⟨st,ex,se,sq,es⟩⟩:Evt.Entry),Value.slice ua ul uc)) h2 (by omega) h4 h5 h6 h7 HG8.out h9 (by rw[rz];exact hown') hgrow
         case done =>
          rintro D ys W hD hS ⟨⟨v,hv,hrow⟩,hgot,hB,hWs⟩ hK;obtain⟨va,vl,vc,rfl⟩:=cS hrow;have hw3:=hb3.size;have hzlt:w.heap.size<w3.heap.size:=(aA.1 z3).1;have zW:SB w.heap.size 0 (.slice none 0 0) false W:=(hB.block _ hzlt).trans z3;have hyl:ys.length<=480000:=by
           have h1:=congrArg List.length hS;rw[List.length_map]at h1;have h2:=af.pD [] ((fs1:Int)-1) 0;omega
          have hEW:=HE.out.next hB;have HBY:=ad (gJ (fs1:Int) (.slice va vl vc) ys W hEW (gl.cr ⟨hrow,hgot⟩) (by omega));have HS:=ad hS;obtain⟨x0,x1,x2⟩:=hv.cells;clear m0 m1 m2 hEW hS
          gi_wp2
          refine⟨trivial,(callsIn_wide.2 HBY.out).mono ?_⟩;rintro e w6 ⟨Hb,Rb,rfl,hH,hRb,b6⟩;have s6:=hv.next b6;have z6:=zW.next b6;have hHs:Hb.size<=15:=by rw[Lib.size_eq,hH.out];exact af.gz _
          have hRs:Rb.size<=2000000000:=by
           rw[Lib.size_eq,hRb.out];have:=af.iR (ag ys);have:(ag ys).length=ys.length:=by simp[ag]
           omega
          obtain⟨C,_,fC,_⟩:=bf (Hb.data.toList++Rb.data.toList);have a1:∀w,(Op.stringOp .add Hb Rb).run prog w=.ok (.string C) w:=fun w=>cK w _ _ _ (by omega) fC.symm;obtain⟨cb,hcb⟩:∃cb,(C.toList==s.toList)=cb:=⟨_,rfl⟩;have HC:=ad (show(af.cD fs1++af.aQ (ag ys) != s.data.toList)=!cb by
           rw[<-hcb,Lib.toList_data,Lib.toList_data,fC,hH.out,hRb.out];rfl)
          have s7:SB w3.heap.size fs1 (.slice va vl vc) (!cb) (w6.setCell ⟨w3.heap.size,2,none⟩ (.bool (!cb))):=av (i:=2) s6 _;have G7:=ad (az w6 w3.heap.size 2 (.bool (!cb)));have z7:=z6.kept G7.out (by simp;omega);obtain⟨y0,y1,y2⟩:=s6.cells;have f2:=s6.frozen 2;obtain⟨t0,t1,t2⟩:=s7.cells;obtain⟨q0,q1,q2⟩:=z7.cells;have h0z:=z7.frozen 0;have h1z:=z7.frozen 1;have h2z:=z7.frozen 2;have HP:=ad (SB.oW z7 fs1 (.slice va vl vc) (!cb));have hK6:=(b6.block D (aA.1 hK).1).trans hK;have hD6:=(aA.1 hK6).1;have HK8:=ad ((HP.out.2.block D (by have:=G7.out.size;omega) (by simp;omega)).trans ((G7.out.block D hD6 (by simp;omega)).trans hK6));have HNE:=ad (Av hrow hgot b6 hzlt G7.out HP.out.2 HK8.out);have HBE:=ad (uT (D:=D) hb3 rfl hB b6 G7.out HP.out.2 (by omega));have HFIN:=ad (show af.cA n fs=(⟨fs1,ag ys,!cb⟩,0)by
           rw[HL.out,<-HS.out,af.kN];show((⟨fs1,ag ys,af.cD fs1++af.aQ (ag ys) != s.data.toList⟩:af.af),0)=_;rw[HC.out])
          clear HBY zW s7 z7 s6 z6 hK6
          gi_wp2
          refine⟨by simp,.inl ⟨_,_,rfl,run_takeDeferred HK8.out,?_⟩⟩;refine⟨_,aO rfl _ _ w.heap.size _ _ _ _ rfl ((World.putObj_heap_other (by omega)).trans HP.out.1) underlying312 rfl iN,?_⟩;exact⟨fs1,_,ys,!cb,0,rfl,HFIN,ad (HNE.out _),HBE.out _⟩
        ·have hcm:¬c-1=0:=by omega
         have hclr:=ad (Ew hcl3);have hm2:=ad (fun p (hp:p∈Lr)=>Nat.le_trans (HM.out p (List.mem_cons_of_mem _ hp)).2 (by omega:8000<=1000000));have hlr:Lr.length<=480000:=by have:=HCN.out;simp only[List.length_cons]at this;omega
         have HE:=ad (HA.out.next hb3).fW;have HEN:=ad (ot (some ⟨b,o+1,none⟩) Lr.length (c-1) ((fs1:Int)-1) (w3.alloc (.cells #[.int .i64 (fs1:Int),.slice none 0 0,.bool false] 312)));clear hcl3
         gi_wp2
         refine⟨trivial,(callsIn_wide.2 HEN.out).mono ?_⟩;rintro e w5 ⟨rfl,hw5⟩;have bO:SB w3.heap.size fs1 (.slice none 0 0) false w5:=by
          rw[hw5];exact SB.kept (SB.kept (show SB w3.heap.size (fs1:Int) (.slice none 0 0) false _ from heap_alloc_new w3 _) (World.grownBy_alloc _ _ none) (by simp)) (World.grownBy_alloc _ _ none) (by simp)
         have bL:Boxed w5 (w3.heap.size+1) 260 (.slice (some ⟨b,o+1,none⟩) Lr.length (c-1)):=by
          rw[hw5];have:=(Boxed.new (w3.alloc (.cells #[.int .i64 (fs1:Int),.slice none 0 0,.bool false] 312)) 260 (.slice (some ⟨b,o+1,none⟩) Lr.length (c-1))).alloc (.cells #[.int .i64 ((fs1:Int)-1)] 3)
          rwa [World.size_alloc]at this
         have bP:Boxed w5 (w3.heap.size+2) 3 (.int .i64 ((fs1:Int)-1)):=by
          rw[hw5];have:=Boxed.new ((w3.alloc (.cells #[.int .i64 (fs1:Int),.slice none 0 0,.bool false] 312)).alloc (.cells #[.slice (some ⟨b,o+1,none⟩) Lr.length (c-1)] 260)) 3 (.int .i64 ((fs1:Int)-1))
          rwa [World.size_alloc,World.size_alloc]at this
         have hb35:Below w3.heap.size w3 w5:=by rw[hw5];exact(((ae _ w3).alloc ab _).alloc (by simp) _).alloc (by simp;omega) _
         have hs5:w5.heap.size=w3.heap.size+3:=by rw[hw5];simp
         have HI0:=ad (show LI w3.heap.size fs1 w3 [] w5 from⟨⟨_,bO,World.ownsRow_nil _ _ _ _⟩,fun p hp=>(by cases hp),hb35,by omega⟩);have HSEQ:=ad (sM HE.out bL bP hs5 hb35 hclr.out hm2.out (by omega) (by omega:(0:Int)<=(fs1:Int)-1) (by omega));clear hw5 bO bL bP HEN
         gi_wp2
         refine uy (gf:=257) (lb:=#[.pointer (some ⟨w3.heap.size+1,0,none⟩),.pointer (some ⟨w3.heap.size+2,0,none⟩)]) w3.heap.size fs1 w3 ab _ _ rfl trivial (enters_of func257 (by kernel_rfl) rfl) HSEQ.out hs5 rfl HI0.out ?assign ?body ?done (by first|omega|(simp only[List.length_nil];omega))
         case assign =>
          rintro l ⟨⟨p,ep,⟨st,ex,se,sq,es⟩⟩,v⟩ W K hgot hK;obtain⟨ua,ul,uc,hv⟩:=cS hgot.1;simp only at hv;subst hv;simp only[fy,yw]at hK ⊢
          gi_wp2
          exact hK
         case body =>
          rintro l pre ⟨⟨p,ep,⟨st,ex,se,sq,es⟩⟩,v⟩ k X W ⟨h1,h1b,h2,h3,⟨u,h4,h5,h6⟩,h7,h8,h9⟩ hpl;have HG8:=ad h8;obtain⟨ua,ul,uc,hv⟩:=cS h8.1;simp only at hv;subst hv;obtain⟨va,vl,vc,rfl⟩:=cS h5;simp only at h3;obtain⟨k0,k1,k2,k3,k4,k5,k6⟩:=h3.cells;obtain⟨m0,m1,m2⟩:=h4.cells;have g1:=h4.frozen 1;obtain⟨i0,zz0,by0,hi,hz0,hz1,hz2,hz3,hz4⟩:=Gt.info;simp only[fy];have HH3:=ad h3;clear h3 h8 HH3
          gi_wp2_with (gi_at_builtin;refine wpListIn_append_own _ rfl _ _ 67 rfl (w3.heap.size+3) 95 i0 zz0 7 by0 underlying67 hi hz0 hz1 hz2 hz3 (by decide) (.slice va vl vc) _ _ rfl (h5.alloc _) ⟨W.heap.size,0,none⟩ 1 1 [.int .i64 p,.int .i64 ep,.string ⟨st.toArray⟩,.int .i64 ex,.int .i64 se,.int .i64 sq,.slice ua ul uc] rfl rfl (lQ W [.int .i64 p,.int .i64 ep,.string ⟨st.toArray⟩,.int .i64 ex,.int .i64 se,.int .i64 sq,.slice ua ul uc] _) (by simp[Value.oneCell']) (by unfold maxLen;omega) (Nat.le_trans (Nat.mul_le_mul_left _ hz4) (by omega)) (by simp;omega) ?_;intro v' w1 hown' hgrow _;obtain⟨g',cap',rfl⟩:=ownsRow_succ hown';have s1:=(h4.kept (World.grownBy_alloc W (.cells #[.int .i64 p,.int .i64 ep,.string ⟨st.toArray⟩,.int .i64 ex,.int .i64 se,.int .i64 sq,.slice ua ul uc] 95) none) (by simp)).kept hgrow (h4.not_row h5 (by decide));have hf1:=s1.frozen 1;have hc1:=s1.cells.2.1)
          exact AA (x:=((⟨p,ep,⟨st,ex,se,sq,es⟩⟩:Evt.Entry),Value.slice ua ul uc)) h2 (by omega) h4 h5 h6 h7 HG8.out h9 (by rw[rz];exact hown') hgrow
         case done =>
          rintro D ys W hD hS ⟨⟨v,hv,hrow⟩,hgot,hB,hWs⟩ hK;obtain⟨va,vl,vc,rfl⟩:=cS hrow;have hw3:=hb3.size;have hzlt:w.heap.size<w3.heap.size:=(aA.1 z3).1;have zW:SB w.heap.size 0 (.slice none 0 0) false W:=(hB.block _ hzlt).trans z3;have hyl:ys.length<=480000:=by
           have h1:=congrArg List.length hS;rw[List.length_map]at h1;have h2:=af.pD Lr ((fs1:Int)-1) 0;omega
          have hEW:=HE.out.next hB;have HBY:=ad (gJ (fs1:Int) (.slice va vl vc) ys W hEW (gl.cr ⟨hrow,hgot⟩) (by omega));have HS:=ad hS;obtain⟨x0,x1,x2⟩:=hv.cells;clear m0 m1 m2 hEW hS
          gi_wp2
          refine⟨trivial,(callsIn_wide.2 HBY.out).mono ?_⟩;rintro e w6 ⟨Hb,Rb,rfl,hH,hRb,b6⟩;have s6:=hv.next b6;have z6:=zW.next b6;have hHs:Hb.size<=15:=by rw[Lib.size_eq,hH.out];exact af.gz _
          have hRs:Rb.size<=2000000000:=by
           rw[Lib.size_eq,hRb.out];have:=af.iR (ag ys);have:(ag ys).length=ys.length:=by simp[ag]
           omega
          obtain⟨C,_,fC,_⟩:=bf (Hb.data.toList++Rb.data.toList);have a1:∀w,(Op.stringOp .add Hb Rb).run prog w=.ok (.string C) w:=fun w=>cK w _ _ _ (by omega) fC.symm;obtain⟨cb,hcb⟩:∃cb,(C.toList==s.toList)=cb:=⟨_,rfl⟩;have HC:=ad (show(af.cD fs1++af.aQ (ag ys) != s.data.toList)=!cb by
           rw[<-hcb,Lib.toList_data,Lib.toList_data,fC,hH.out,hRb.out];rfl)
          have s7:SB w3.heap.size fs1 (.slice va vl vc) (!cb) (w6.setCell ⟨w3.heap.size,2,none⟩ (.bool (!cb))):=av (i:=2) s6 _;have G7:=ad (az w6 w3.heap.size 2 (.bool (!cb)));have z7:=z6.kept G7.out (by simp;omega);obtain⟨y0,y1,y2⟩:=s6.cells;have f2:=s6.frozen 2;obtain⟨t0,t1,t2⟩:=s7.cells;obtain⟨q0,q1,q2⟩:=z7.cells;have h0z:=z7.frozen 0;have h1z:=z7.frozen 1;have h2z:=z7.frozen 2;have HP:=ad (SB.oW z7 fs1 (.slice va vl vc) (!cb));have hK6:=(b6.block D (aA.1 hK).1).trans hK;have hD6:=(aA.1 hK6).1;have HK8:=ad ((HP.out.2.block D (by have:=G7.out.size;omega) (by simp;omega)).trans ((G7.out.block D hD6 (by simp;omega)).trans hK6));have HNE:=ad (Av hrow hgot b6 hzlt G7.out HP.out.2 HK8.out);have HBE:=ad (uT (D:=D) hb3 rfl hB b6 G7.out HP.out.2 (by omega));have HFIN:=ad (show af.cA n fs=(⟨fs1,ag ys,!cb⟩,0)by
           rw[HL.out,<-HS.out,af.kN];show((⟨fs1,ag ys,af.cD fs1++af.aQ (ag ys) != s.data.toList⟩:af.af),0)=_;rw[HC.out])
          clear HBY zW s7 z7 s6 z6 hK6
          gi_wp2
          refine⟨by simp,.inl ⟨_,_,rfl,run_takeDeferred HK8.out,?_⟩⟩;refine⟨_,aO rfl _ _ w.heap.size _ _ _ _ rfl ((World.putObj_heap_other (by omega)).trans HP.out.1) underlying312 rfl iN,?_⟩;exact⟨fs1,_,ys,!cb,0,rfl,HFIN,ad (HNE.out _),HBE.out _⟩
    ·have hcb1:((c1:Int) != 0)=true:=by rw[bne_iff_ne];omega
     have HL:=ad (HLL.out.trans (lL HLS.out (by rw[HO.out];simp[hc1])));have HP:=ad (SB.oW zz 0 (.slice none 0 0) false);have HBN:=ad (hbz.trans (aU HP.out.2 ab (by have:=hbz.size;omega)))
     gi_wp2
     refine⟨_,aO rfl _ _ w.heap.size _ _ _ _ rfl HP.out.1 underlying312 rfl iN,?_⟩;exact⟨0,_,[],false,2,rfl,HL,⟨World.ownsRow_nil _ _ _ _,fun p hp=>by cases hp⟩,HBN.out⟩
 ·have hcb:((c0:Int) != 0)=true:=by rw[bne_iff_ne];omega
  have HL:=ad (HLD.out.trans (if_neg hc0));have zz:=z1;have hbz:=hb1;have HP:=ad (SB.oW zz 0 (.slice none 0 0) false);have HBN:=ad (hbz.trans (aU HP.out.2 ab (by have:=hbz.size;omega)))
  gi_wp2
  refine⟨_,aO rfl _ _ w.heap.size _ _ _ _ rfl HP.out.1 underlying312 rfl iN,?_⟩;exact⟨0,_,[],false,6,rfl,HL,⟨World.ownsRow_nil _ _ _ _,fun p hp=>by cases hp⟩,HBN.out⟩
set_option maxHeartbeats 2000000 in
theorem A9 (first:Int) (v:Value) (cH:Bool) (ps:List bu) (w:World) (hc:dk w v ps) (hn:ps.length<=1000000) (h0:0<=first) (h1:first<=274877906944) :
 Calls prog 209 #[.agg #[.int .i64 first,v,.bool cH]] w fun e w'=>e=.returned (.tuple #[.int .i64 (af.last ⟨first,ag ps,cH⟩).1,.int .i64 (af.last ⟨first,ag ps,cH⟩).2])/\Below w.heap.size w w':=by
 have hw1:wrap64 (first-1)=first-1:=IntWalk.wrap64_in _ (by omega)
 rcases cC hc.1 with⟨hl,sa,sc,rfl⟩|⟨b,o,c,rfl⟩
 ·have hN:=aP hl;have HL:=ad (show af.last ⟨first,ag ps,cH⟩=(first-1,0)by rw[hN];rfl);have hb0:=(ae _ w).alloc ab (.cells #[.int .i64 first,.slice sa 0 sc,.bool cH] 312);clear hN hl;go_enter func209,ntmps209;go_wp2
  go_ret2
  exact⟨by rw[HL.out];rfl,hb0⟩
 ·by_cases hp:ps.length=0
  ·have hN:=aP hp;have HL:=ad (show af.last ⟨first,ag ps,cH⟩=(first-1,0)by rw[hN];rfl);subst hN;have hb0:=(ae _ w).alloc ab (.cells #[.int .i64 first,.slice (some ⟨b,o,none⟩) 0 c,.bool cH] 312);clear hp;go_enter func209,ntmps209;go_wp2
   go_ret2
   exact⟨by rw[HL.out];rfl,hb0⟩
  ·have hp1:ps.length-1<ps.length:=by omega
   obtain⟨b',o',c',p,ep,S,ex,se,sq,sa,sl,sc,es,hv,k0,k1,k2,k3,k4,k5,k6,hev,hS,hsm,hes,hpe,hpv⟩:=jI hc (ps.length-1) hp1;cases hv;have HL:=ad (show af.last ⟨first,ag ps,cH⟩=(p,ep)by
    have:(ag ps).getLast?=some ps[ps.length-1].1:=by
     rw[ag,List.getLast?_map,List.getLast?_eq_getElem?,aR hp1];rfl
    rw[af.last];simp only[this,hpe.out])
   have hb0:=(ae _ w).alloc ab (.cells #[.int .i64 first,.slice (some ⟨b,o,none⟩) ps.length c,.bool cH] 312);have hb1:=hb0.alloc (by simp) (.cells #[.int .i64 p,.int .i64 ep,.string S,.int .i64 ex,.int .i64 se,.int .i64 sq,.slice sa sl sc] 95);have k0:=cell_kept hb0 ab k0;have k1:=cell_kept hb0 ab k1;have k2:=cell_kept hb0 ab k2;have k3:=cell_kept hb0 ab k3;have k4:=cell_kept hb0 ab k4;have k5:=cell_kept hb0 ab k5;have k6:=cell_kept hb0 ab k6;obtain⟨m,hm⟩:∃m,ps.length=m+1:=⟨ps.length-1,by omega⟩;rw[hm]at k0 k1 k2 k3 k4 k5 k6 hb0 hb1 hn ⊢;simp only[Nat.add_sub_cancel]at k0 k1 k2 k3 k4 k5 k6;have hB1:=ad hb1;clear hpv hp hpe hp1 hc hm hev hes hb0 hb1;go_enter func209,ntmps209;go_wp2;go_quiet (fail);go_wp2
   go_ret2
   exact⟨by rw[HL.out];rfl,below_drewN hB1.out _⟩
def af.jK (room n:Int) (l:List Evt.Entry) (fs:List Dk.ai):List Dk.ai×Nat :=
 if (af.cA n fs).2=0 then
  if (af.cA n fs).1.cH=true then (fs,2) else
  if Evt.follows l (af.last (af.cA n fs).1).1 (af.last (af.cA n fs).1).2=false then (fs,11) else
  if l=[] then (fs,0) else
  if (Dk.append room (af.nameOf n) ⟨(af.aQ l).toArray⟩ fs).2=0 then Dk.sync (af.nameOf n) (Dk.append room (af.nameOf n) ⟨(af.aQ l).toArray⟩ fs).1 else Dk.append room (af.nameOf n) ⟨(af.aQ l).toArray⟩ fs
 else (fs,(af.cA n fs).2)
theorem pj (n:Int) (fs:List Dk.ai) (h:(Dk.read (af.nameOf n) fs).1.size<=4194304):0<=(af.cA n fs).1.first/\(af.cA n fs).1.first<=274877906944/\(af.cA n fs).1.entries.length<=480000:=by
 unfold af.cA;split
 ·obtain⟨h1,h2,h3⟩:=af.Cz (Dk.read (af.nameOf n) fs).1.data.toList;rw[Lib.size_eq]at h;by_cases h0:(af.load (Dk.read (af.nameOf n) fs).1.data.toList).2=0
  ·have:=h3 h0;exact⟨by omega,by omega,by omega⟩
  ·rw[h2 h0];exact⟨by decide,by decide,by decide⟩
 ·exact⟨by decide,by decide,by decide⟩
theorem sK:∀(l:List Evt.Entry) (pos epoch:Int),Evt.follows l pos epoch=true->∀e∈l,Evt.bC e=true
 |[],_,_,_,e,he=>by cases he
 |x::l,pos,epoch,h,e,he=>by
  obtain⟨_,_,h3,h4⟩:=af.dh.1 h;rcases List.mem_cons.1 he with rfl|he
  ·exact h3
  ·exact sK l _ _ h4 e he
theorem JC (g:af.af) (h:Evt.follows g.entries (g.first-1) 0=true) (h0:0<=g.first) (h1:g.first<=274877906944) : -1<=(af.last g).1/\(af.last g).1<=274877906944:=by
 rw[af.last];cases hl:g.entries.getLast? with
 |none=>simp only;omega
 |some e =>
  have:=(Evt.fw _).1 (Evt.kE.1 (sK _ _ _ h e (List.mem_of_getLast? hl))).1;simp only;omega
theorem DU (n:Int) (fs:List Dk.ai) (h:(Dk.read (af.nameOf n) fs).1.size<=4194304) : -1<=(af.last (af.cA n fs).1).1/\(af.last (af.cA n fs).1).1<=274877906944:=by
 have hle:=pj n fs h;refine JC _ ?_ hle.1 hle.2.1;unfold af.cA;split
 ·obtain⟨h1,h2,h3⟩:=af.Cz (Dk.read (af.nameOf n) fs).1.data.toList;by_cases h0:(af.load (Dk.read (af.nameOf n) fs).1.data.toList).2=0
  ·exact(h3 h0).2.2.1
  ·rw[h2 h0];rfl
 ·rfl
set_option maxHeartbeats 4000000 in
set_option maxRecDepth 100000 in
theorem Dj (a:World) (d:Nat) (room n:Int) (fs:List Dk.ai) (ft:Nat->Prop) (lv:Value) (qs:List bu) (w:World) (hA:fF a w ft) (h:bw w d room fs ft) (hroom:room<=4194304) (hq:dk w lv qs) (hqn:qs.length<=1000) :
 Calls prog 166 #[.pointer (some ⟨d,0,none⟩),.int .i64 n,lv] w fun e w'=>e=.returned (.int .i64 ((af.jK room n (ag qs) fs).2:Nat))/\DStep d room (af.jK room n (ag qs) fs).1 ft w w':=by
 have hrr:=kg h hroom (af.nameOf n);have hle:=pj n fs hrr;have hla:=DU n fs hrr;obtain⟨qa,ql,qc,rfl⟩:∃qa ql qc,lv=.slice qa ql qc:=by
  rcases cC hq.1 with⟨_,a',c',rfl⟩|⟨b',o',c',rfl⟩
  ·exact⟨_,_,_,rfl⟩
  ·exact⟨_,_,_,rfl⟩
 have hnl:=af.gL n;have HL:=ad (nK a d room n fs ft w hA h hroom);have HA:=ad hA;have HD:=ad h;have HQ:=ad hq;clear hA h hq hrr;go_enter func166,ntmps166;go_wp2_with fail;refine HL.out.mono ?_;rintro e w1 ⟨first,v,ps,cH,c,rfl,hLD,hNE,b1⟩;rw[hLD.out]at hle hla;simp only at hle hla;have hpl:ps.length<=480000:=by have:=hle.2.2;simpa[ag]using this
 obtain⟨va,vl,vc,rfl⟩:=cS hNE.out.1;have hb2:=b1.alloc b1.size (.cells #[.int .i64 first,.slice va vl vc,.bool cH] 312);have sb:SB w1.heap.size first (.slice va vl vc) cH (w1.alloc (.cells #[.int .i64 first,.slice va vl vc,.bool cH] 312)):=heap_alloc_new w1 _
 have hEn:=hNE.out.cr.next ((ae _ w1).alloc ab (.cells #[.int .i64 first,.slice va vl vc,.bool cH] 312));have HLA:=ad (A9 first _ cH ps _ hEn (by omega) hle.1 hle.2.1);obtain⟨lp,hlp⟩:∃lp,(af.last ⟨first,ag ps,cH⟩).1=lp:=⟨_,rfl⟩;obtain⟨le,hle'⟩:∃le,(af.last ⟨first,ag ps,cH⟩).2=le:=⟨_,rfl⟩;rw[hlp,hle']at HLA;rw[hlp]at hla;have HX:=ad (aB hlp hle');have SBx:=ad sb;have HB2:=ad hb2;clear HL b1 hEn hlp hle' hb2 sb;go_wp2_with fail;refine HLA.out.mono ?_;rintro e w3 ⟨rfl,b3⟩;have hb3:=Below.up HB2.out ab b3;have s3:=SBx.out.next b3;obtain⟨m0,m1,m2⟩:=s3.cells;clear HLA SBx HB2 b3;have HAD:=ad (show af.jK room n (ag qs) fs=if c=0 then
  if cH=true then (fs,2) else
  if Evt.follows (ag qs) lp le=false then (fs,11) else
  if ag qs=[] then (fs,0) else
  if (Dk.append room (af.nameOf n) ⟨(af.aQ (ag qs)).toArray⟩ fs).2=0 then Dk.sync (af.nameOf n) (Dk.append room (af.nameOf n) ⟨(af.aQ (ag qs)).toArray⟩ fs).1 else Dk.append room (af.nameOf n) ⟨(af.aQ (ag qs)).toArray⟩ fs
  else (fs,c)by rw[af.jK,hLD.out];simp only[HX.out.1,HX.out.2])
 obtain⟨nm,hnm⟩:∃nm,af.nameOf n=nm:=⟨_,rfl⟩;rw[hnm]at HAD hnl;clear HX hLD;by_cases hc0:c=0
 ·subst hc0;have HAD:=ad (HAD.out.trans (if_pos rfl));cases cH with
  |true =>
   have HAD:=ad (HAD.out.trans (if_pos rfl));go_wp2;go_ret;exact⟨by rw[HAD.out];rfl,by rw[HAD.out];exact DStep.aI HD.out hb3⟩
  |false =>
   have HAD:=ad (HAD.out.trans (if_neg (by simp)));have hEn3:=ad ((HA.out.next hb3).fW);have HF:=ad (nY (.slice qa ql qc) qs lp le w3 hEn3.out (HQ.out.next hb3) (by omega) (by omega) (by omega));obtain⟨fb,hfb⟩:∃fb,Evt.follows (ag qs) lp le=fb:=⟨_,rfl⟩;rw[hfb]at HF HAD;clear hfb;go_wp2_with fail;refine HF.out.mono ?_;rintro e w4 ⟨rfl,b4⟩;have hb4:=Below.up hb3 ab b4;clear HF b4 hEn3 m0 m1 m2 s3;cases fb with
   |false =>
    have HAD:=ad (HAD.out.trans (if_pos rfl));go_wp2;go_ret;exact⟨by rw[HAD.out];rfl,by rw[HAD.out];exact DStep.aI HD.out hb4⟩
   |true =>
    have HAD:=ad (HAD.out.trans (if_neg (by simp)));have hql:ql=qs.length:=by
     rcases cC HQ.out.1 with⟨h,a',c',e⟩|⟨b',o',c',e⟩
     ·cases e;omega
     ·cases e;rfl
    by_cases hq0:ql=0
    ·have hqe:qs=[]:=aP (by omega);have HAD:=ad (HAD.out.trans (if_pos (by rw[hqe];rfl)));subst hq0;clear hqe hql;go_wp2;go_ret;exact⟨by rw[HAD.out];rfl,by rw[HAD.out];exact DStep.aI HD.out hb4⟩
    ·have hqe:¬ag qs=[]:=by intro h;have:=congrArg List.length h;simp[ag]at this;rw[this]at hql;exact hq0 hql
     have HAD:=ad (HAD.out.trans (if_neg hqe));have hqz:((ql:Int)==0)=false:=by rw[beq_eq_false_iff_ne];omega
     have hqi:¬(ql:Int)=0:=by omega
     have hE4:=ad (HA.out.next hb4).fW;have HBY:=ad (gJ 1 (.slice qa ql qc) qs w4 hE4.out (HQ.out.next hb4) (by omega));have hbl:=af.iR (ag qs);have hpq:(ag qs).length=qs.length:=by simp[ag]
     clear hqe hql;go_wp2_with fail;refine HBY.out.mono ?_;rintro e w5 ⟨Hb,Rb,rfl,_,hR,b5⟩;have hb5:=Below.up hb4 ab b5;have HNM:=ad (fj n w5 (HA.out.next hb5).fW);rw[hnm]at HNM;have hRs:Rb.size<=2000000000:=by rw[Lib.size_eq,hR.out];omega
     clear HBY b5 hE4 hbl hpq;go_wp2_with fail;refine HNM.out.mono ?_;rintro e w6 ⟨rfl,b6⟩;have hb6:=Below.up hb5 ab b6;have hns:(⟨nm.toArray⟩:ByteArray).size<=14:=by rw[Lib.size_eq];exact hnl
     have hRe:=sd hR.out;have HAP:=ad (iD d room fs ft ⟨nm.toArray⟩ Rb w6 (HA.out.next hb6).fW (HD.out.next hb6) (by omega) (by omega));rw[<-hRe]at HAD;clear HNM b6 hRe;by_cases hap:(Dk.append room nm Rb fs).2=0
     ·have HAD:=ad (HAD.out.trans (if_pos hap));have HAQ:=ad hap;clear hap;go_wp2_with fail;refine HAP.out.mono ?_;rintro e w7 ⟨rfl,ft7,hd7,hf7,ht7⟩;rw[show(Dk.append room (⟨nm.toArray⟩:ByteArray).data.toList Rb fs).2=0 from HAQ.out];have hA7:=((HA.out.next hb6).cJ ht7 hf7);have HNM:=ad (fj n w7 hA7.fW);rw[hnm]at HNM;have HT7:=ad (aB ht7 hf7);have HD7:=ad hd7;clear hA7 HAP ht7 hf7 hd7;go_wp2_with fail;refine HNM.out.mono ?_;rintro e w8 ⟨rfl,b8⟩;have HS:=ad (gN d room _ ft7 ⟨nm.toArray⟩ w8 (HD7.out.next b8) (by omega));have HB8:=ad b8;clear HNM b8;go_wp2_with fail;refine HS.out.mono ?_;rintro e w9 ⟨rfl,hds⟩;have HDS:=ad (DStep.under hb6 (DStep.trans HT7.out.1 HT7.out.2 (DStep.under HB8.out hds)));clear hds HS;go_wp2;go_ret;exact⟨by rw[HAD.out];rfl,by rw[HAD.out];exact HDS.out⟩
     ·have HAD:=ad (HAD.out.trans (if_neg hap));obtain⟨ac,hac⟩:∃ac,(Dk.append room nm Rb fs).2=ac:=⟨_,rfl⟩;have hacb:((ac:Int) != 0)=true:=by rw[bne_iff_ne];omega
      have HAQ:=ad hac;clear hap hac;go_wp2_with fail;refine HAP.out.mono ?_;rintro e w7 ⟨rfl,hds⟩;rw[show(Dk.append room (⟨nm.toArray⟩:ByteArray).data.toList Rb fs).2=ac from HAQ.out];have HDS:=ad (DStep.under hb6 hds);clear hds HAP;go_wp2;go_ret;exact⟨by rw[HAD.out,HAQ.out];rfl,by rw[HAD.out];exact HDS.out⟩
 ·have HAD:=ad (HAD.out.trans (if_neg hc0));have hcb:((c:Int) != 0)=true:=by rw[bne_iff_ne];omega
  go_wp2;go_ret;exact⟨by rw[HAD.out];rfl,by rw[HAD.out];exact DStep.aI HD.out hb3⟩
theorem bw.narrow {w:World} {d:Nat} {room:Int} {fs:List Dk.ai} {ft:Nat->Prop} (h:bw w d room fs ft):bw w d room fs (fun j=>ft j/\j<w.heap.size):=by
 obtain⟨bm,D,g,h1,h2,h3,h4,h5,h6,h7,h8,h9,h10,h11⟩:=h;refine⟨bm,D,g,h1,h2,h3,h4,h5,h6,⟨h7,(aA.1 h1).1⟩,⟨h8,?_⟩,h9,fun k x hx=>?_,h11⟩
 ·obtain⟨es,c,hb,_⟩:=h2;exact(aA.1 hb).1
 ·obtain⟨q1,q2,q3,q4,q5⟩:=h10 k x hx;exact⟨q1,q2,q3,⟨q4,(aA.1 q3).1⟩,q5⟩
theorem DStep.open {d:Nat} {room:Int} {fs:List Dk.ai} {ft:Nat->Prop} {w w':World} (h:DStep d room fs ft w w') :
 ∃ft',bw w' d room fs ft'/\(∀j,ft' j->ft j\/w.heap.size<=j)/\(∀j,ft' j->j<w'.heap.size)/\ax ft w w':=by
 obtain⟨f,h1,h2,h3⟩:=h;exact⟨_,h1.narrow,fun j hj=>h2 j hj.1,fun j hj=>hj.2,h3⟩
end
namespace af
theorem oo:∀l:List UInt8,(∀b∈l,b.toNat<128)->Txt.iw l=l.map fun b=>((b.toNat:Int),[b])
 |[],_=>by rw[Txt.jh];rfl
 |b::l,h=>by
  rw[Txt.iM b l (h b (by simp)),oo l (fun c hc=>h c (by simp[hc]))];rfl
theorem Es:∀(n:Nat),∀b∈Lib.decDigits n,48<=b.toNat/\b.toNat<=57:=by
 intro n
 induction n using Nat.strongRecOn with
 |ind n ih =>
  intro b hb;rw[Lib.decDigits]at hb;by_cases h1:n<10
  ·rw[dif_pos h1]at hb;rw[aN.1 hb,lO n h1];omega
  ·rw[dif_neg h1]at hb;rcases aK.1 hb with h|h
   ·exact ih (n / 10) (by omega) b h
   ·rw[aN.1 h,lO (n % 10) (by omega)];omega
theorem ur (n:Int) (h1:1<=n) (h2:n<=1073741824):Txt.name (nameOf n)=true:=by
 have e:nameOf n=[115,101,103,45]++Lib.decDigits n.toNat:=by unfold nameOf;rw[if_pos ⟨h1,h2⟩]
 have hl:=gL n;have hm:=zP n h1 h2;have hd:=Es n.toNat;have ha:∀b∈nameOf n,b.toNat<128/\Txt.named (b.toNat:Int)=true:=by
  intro b hb;rw[e]at hb;rcases aK.1 hb with h|h
  ·have:∀c∈([115,101,103,45]:List UInt8),c.toNat<128/\Txt.named (c.toNat:Int)=true:=by decide
   exact this b h
  ·have:=hd b h;refine⟨by omega,?_⟩;simp only[Txt.named,Bool.or_eq_true,decide_eq_true_eq,beq_iff_eq];omega
 unfold Txt.name;rw[oo _ (fun b hb=>(ha b hb).1),List.length_map];simp only[Bool.and_eq_true,decide_eq_true_eq,List.all_eq_true,List.mem_map];refine⟨⟨by omega,by omega⟩,?_⟩;rintro t ⟨b,hb,rfl⟩;exact(ha b hb).2
theorem JW (a b:List UInt8):(⟨a.toArray⟩:ByteArray)++⟨b.toArray⟩=⟨(a++b).toArray⟩:=by apply ByteArray.ext;simp
end af
theorem Dk.kB:∀(a b:List Dk.ai),Dk.Sorted a->Dk.Sorted b->(∀k,Dk.look a k=Dk.look b k)->a=b
 |[],[],_,_,_=>rfl
 |[],y::b,_,_,h=>by have:=h y.name;simp[Dk.look]at this
 |x::a,[],_,_,h=>by have:=h x.name;simp[Dk.look]at this
 |x::a,y::b,ha,hb,h=>by
  have ha':=List.pairwise_cons.1 ha;have hb':=List.pairwise_cons.1 hb;by_cases e:y.name=x.name
  ·have hx:=h x.name;simp only[Dk.look,if_true,if_pos e,Option.some.injEq]at hx;subst hx;rw[Dk.kB a b ha'.2 hb'.2 (fun k=>by
    by_cases ek:x.name=k
    ·subst ek;rw[Dk.qX ha,Dk.qX hb]
    ·have:=h k;simpa only[Dk.look,if_neg ek]using this)]
  ·have hx:=h x.name;have hy:=h y.name;simp only[Dk.look,if_true,if_neg e]at hx;simp only[Dk.look,if_true,if_neg (Ne.symm e)]at hy;have h1:=hb'.1 x (Dk.ib hx.symm).2;have h2:=ha'.1 y (Dk.ib hy).2;exact absurd (Std.lt_trans h1 h2) Std.lt_irrefl
theorem Dk.uV (k:List UInt8) (fs:List Dk.ai):(Dk.delete k fs).1=Dk.del k fs:=by
 unfold Dk.delete;cases h:Dk.look fs k with
 |none=>exact(Dk.pG _ _ h).symm
 |some y=>rfl
namespace af
def bQ:List UInt8:=[116,101,109,112]
def ie (last:Int) (l:List Evt.Entry):Nat:=(l.takeWhile fun e=>decide (e.pos<=last)).length
def Et (room n:Int) (g:af) (k:Nat) (fs:List Dk.ai):List Dk.ai×Nat :=
 if k=g.entries.length/\g.cH=false then (fs,0) else
 if (dY room bQ ⟨(cD g.first++aQ (g.entries.take k)).toArray⟩ (Dk.delete bQ fs).1).2=0 then Dk.rename bQ (nameOf n) (dY room bQ ⟨(cD g.first++aQ (g.entries.take k)).toArray⟩ (Dk.delete bQ fs).1).1 else
 dY room bQ ⟨(cD g.first++aQ (g.entries.take k)).toArray⟩ (Dk.delete bQ fs).1
def fD (room n last:Int) (fs:List Dk.ai):List Dk.ai×Nat :=
 if (cA n fs).2=0 then Et room n (cA n fs).1 (ie last (cA n fs).1.entries) fs else (fs,(cA n fs).2)
theorem tN:Txt.name bQ=true:=by simp[bQ,Txt.name,Txt.iM,Txt.jh,Txt.named]
theorem Cm (n:Int):nameOf n≠bQ:=by
 unfold nameOf bQ;split
 ·intro h;simp at h
 ·simp
theorem uB {n:Int} {fs:List Dk.ai} {x:Dk.ai} (h:Dk.look fs (nameOf n)=some x):cA n fs=load x.bytes.data.toList:=by
 unfold cA Dk.read;rw[h];simp
theorem wF {room:Int} {k:List UInt8} {s:ByteArray} {fs:List Dk.ai} (hs:Dk.Sorted fs) (hk:Txt.name k=true) (h0:Dk.look fs k=none) (h40:fs.length<40) (hr:(Dk.total fs:Int)+s.size<=room):dY room k s fs=(Dk.put ⟨k,s,s.size⟩ fs,0):=by
 have ha:Dk.append room k s fs=(Dk.put ⟨k,s,0⟩ fs,0):=by
  unfold Dk.append;rw[if_neg (by rw[hk];simp),if_neg (by omega),if_neg (by omega),h0];rfl
 unfold dY;rw[ha,if_pos rfl];have hl:=Dk.a8 ⟨k,s,0⟩ fs;simp only at hl;unfold Dk.sync;rw[hl];simp only[Prod.mk.injEq,and_true];refine Dk.kB _ _ (Dk.sorted_put _ _ (Dk.sorted_put _ _ hs)) (Dk.sorted_put _ _ hs) (fun j=>?_);by_cases e:j=k
 ·subst e;have e1:=Dk.a8 ⟨j,s,s.size⟩ (Dk.put ⟨j,s,0⟩ fs);have e2:=Dk.a8 ⟨j,s,s.size⟩ fs;simp only at e1 e2;rw[e1,e2]
 ·rw[Dk.aG ⟨k,s,s.size⟩ e,Dk.aG ⟨k,s,s.size⟩ e,Dk.aG ⟨k,s,0⟩ e]
theorem IP {room n:Int} {l:List Evt.Entry} {fs:List Dk.ai} {g:af} (hg:cA n fs=(g,0)) :
 jK room n l fs=if g.cH=true then (fs,2) else if Evt.follows l (last g).1 (last g).2=false then (fs,11) else if l=[] then (fs,0) else
  if (Dk.append room (nameOf n) ⟨(aQ l).toArray⟩ fs).2=0 then Dk.sync (nameOf n) (Dk.append room (nameOf n) ⟨(aQ l).toArray⟩ fs).1 else Dk.append room (nameOf n) ⟨(aQ l).toArray⟩ fs:=by
 unfold jK;rw[hg,if_pos rfl]
theorem FX {room:Int} {k:List UInt8} {s:ByteArray} {fs:List Dk.ai} {x:Dk.ai} (hs:Dk.Sorted fs) (hk:Txt.name k=true) (hl:Dk.look fs k=some x) (hr:(Dk.total fs:Int)+s.size<=room) :
 Dk.append room k s fs=(Dk.put ⟨k,x.bytes++s,x.synced⟩ fs,0)/\Dk.sync k (Dk.append room k s fs).1=(Dk.put ⟨k,x.bytes++s,(x.bytes++s).size⟩ fs,0):=by
 have ha:Dk.append room k s fs=(Dk.put ⟨k,x.bytes++s,x.synced⟩ fs,0):=by
  unfold Dk.append;rw[if_neg (by rw[hk];simp),if_neg (by rw[hl];simp),if_neg (by omega),hl];rfl
 refine⟨ha,?_⟩;rw[ha];have hl:=Dk.a8 ⟨k,x.bytes++s,x.synced⟩ fs;simp only at hl;unfold Dk.sync;simp only;rw[hl];simp only[Prod.mk.injEq,and_true];refine Dk.kB _ _ (Dk.sorted_put _ _ (Dk.sorted_put _ _ hs)) (Dk.sorted_put _ _ hs) (fun j=>?_);by_cases e:j=k
 ·subst e;have e1:=Dk.a8 ⟨j,x.bytes++s,(x.bytes++s).size⟩ (Dk.put ⟨j,x.bytes++s,x.synced⟩ fs);have e2:=Dk.a8 ⟨j,x.bytes++s,(x.bytes++s).size⟩ fs;simp only at e1 e2;rw[e1,e2]
 ·rw[Dk.aG ⟨k,x.bytes++s,(x.bytes++s).size⟩ e,Dk.aG ⟨k,x.bytes++s,(x.bytes++s).size⟩ e,Dk.aG ⟨k,x.bytes++s,x.synced⟩ e]
theorem Cc {room n first:Int} {fs:List Dk.ai} (h1:1<=n) (h2:n<=1073741824) (h3:1<=first) (h4:first<=274877906944) (hs:Dk.Sorted fs) (hl:Dk.look fs (nameOf n)=none) (h40:fs.length<40) (hr:(Dk.total fs:Int)+15<=room) :
 create room n first fs=(Dk.put ⟨nameOf n,⟨(cD first).toArray⟩,(⟨(cD first).toArray⟩:ByteArray).size⟩ fs,0):=by
 have hb:(⟨(cD first).toArray⟩:ByteArray).size<=15:=by rw[Lib.size_eq];exact gz first
 unfold create;rw[if_neg (by rintro (h|h|h) <;> first|exact Cx n h1 h2 h|omega),if_neg (by simp[Dk.read,hl]),wF hs (ur n h1 h2) hl h40 (by omega)]
def whole (first:Int) (l:List Evt.Entry):ByteArray:=⟨(cD first++aQ l).toArray⟩
theorem yB (first:Int) (l m:List Evt.Entry):whole first (l++m)=whole first l++⟨(aQ m).toArray⟩:=by
 unfold whole;rw[JW,jU,List.append_assoc]
end af
end Go.Proofs.YtmgmknmaepjnoaaGreatDoor
