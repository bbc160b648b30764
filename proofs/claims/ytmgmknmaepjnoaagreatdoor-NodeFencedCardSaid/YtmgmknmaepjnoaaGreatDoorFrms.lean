/-
  The walks of crc.table, Update, Sum.
-/
import Derived.Test.YtmgmknmaepjnoaaGreatDoorNums
import Derived.RangeFuncNested
import Derived.RangeFuncBound
import Derived.RangeFuncCalls
import Derived.RangeFuncLeaves
import Derived.RangeFuncBox
import Derived.RangeFuncFrom
import Derived.Shelf.Abstract
import Derived.Shelf.RegionOpen
import Derived.OwnWalkIn
import Derived.TacticsInMore
import Derived.LoopNIn
import Derived.LoopIn
namespace Go.Proofs.YtmgmknmaepjnoaaGreatDoor
open Go.RowKit Go.Shelf Proofs.Tryz
section
def oP:Nat->Nat->Nat
 |0,r=>r
 |k+1,r=>Crc.step (oP k r)
theorem av {w:World} {b i:Nat} {c:Array Value} {e:TypeId} {fz:Nat×Nat} (h:w.heap[b]?=some (.cells c e fz)) (v:Value):(w.setCell ⟨b,i,none⟩ v).heap[b]?=some (.cells (c.setIfInBounds i v) e fz):=by
 simp[World.setCell,Array.getElem?_modify,h]
def vo (i:Nat) (arr:Array Value):Prop:=arr.size=16/\∀j,j<i->arr[j]?=some (.int .u32 (Crc.rN j:Nat))
theorem AW {i:Nat} {arr:Array Value} (h:vo i arr) (hi:i<16):vo (i+1) (arr.setIfInBounds i (.int .u32 (oP 4 i:Nat))):=by
 refine⟨by simpa using h.1,fun j hj=>?_⟩;by_cases e:j=i
 ·subst e;rw[Array.getElem?_setIfInBounds_self,if_pos (by rw[h.1];exact hi)];rfl
 ·rw[Array.getElem?_setIfInBounds_ne (by omega)];exact h.2 j (by omega)
set_option maxHeartbeats 1000000 in
set_option maxRecDepth 100000 in
theorem Fa (w:World):Calls prog 190 #[] w fun e w'=>∃b,e=.returned (.pointer (some ⟨b,0,none⟩))/\(∀i,i<16->w'.cell? ⟨b,i,none⟩=some (.int .u32 (Crc.rN i:Nat)))/\Below w.heap.size w w':=by
 go_enter func190,ntmps190;go_wp2
 go_loopw [4] (fun iv wr=>∃(i:Nat) (arr:Array Value),iv=.int .i64 (i:Int)/\i<=16/\wr.heap[w.heap.size]?=some (.cells arr 359 (0,0))/\vo i arr/\Below w.heap.size w wr) (fun iv _=>16-(intOf iv).toNat)
 case atStart=>exact⟨0,_,rfl,by omega,heap_alloc_new w _,⟨rfl,fun j hj=>by omega⟩,(ae _ _).alloc ab _⟩
 case round =>
  obtain⟨i,arr,rfl,hi,hbk,hta,hbw⟩:=hrel;have HT:=ad hta;have HK:=ad hbk;have hsz:=hta.1;clear hta;by_cases hp:i<16
  ·have hc:wr.cell? ⟨w.heap.size,i,none⟩=some arr[i]:=by rw[aw hbk];exact Array.getElem?_eq_getElem (by omega)
   have hf:wr.frozen? ⟨w.heap.size,i,none⟩=false:=ay hbk i;clear hbk;go_wp2
   go_loopw [3,9] (fun rv kv W=>∃(k r:Nat),kv=.int .i64 (k:Int)/\k<=4/\rv=.int .u32 (r:Int)/\r<4294967296/\r=oP k i/\W=wr) (fun _ kv _=>4-(intOf kv).toNat)
   case atStart=>exact⟨0,i,rfl,by omega,rfl,by omega,rfl,rfl⟩
   case round =>
    obtain⟨k,r,rfl,hk,rfl,hr,hrs,rfl⟩:=hrel;have HR:=ad hrs;clear hrs;by_cases hk4:k<4
    ·by_cases hodd:r % 2=1
     ·have hA:bits .and .u32 (r:Int) 1=1:=by rw[CS r hr,hodd];rfl
      have hX:bits .xor .u32 ((r:Int) / 2) 3988292384=((r / 2 ^^^ 3988292384:Nat):Int):=by rw[show(r:Int) / 2=((r / 2:Nat):Int)by omega];exact yq (r / 2) 3988292384 (by omega) (by omega)
      have HS:=ad (show r / 2 ^^^ 3988292384=oP (k+1) i by rw[oP,<-HR.out,Crc.step,if_pos hodd]);have hl:r / 2 ^^^ 3988292384<4294967296:=Crc.oi (by omega) (by omega);obtain⟨q,hq⟩:∃q,r / 2 ^^^ 3988292384=q:=⟨_,rfl⟩;rw[hq]at hX HS hl;clear hq HR hodd;go_wp2;exact⟨⟨k+1,q,by go_num,by omega,rfl,hl,HS.out,trivial⟩,by simp[intOf];omega⟩
     ·have hA:bits .and .u32 (r:Int) 1=0:=by rw[CS r hr,show r % 2=0 by omega];rfl
      have HS:=ad (show r / 2=oP (k+1) i by rw[oP,<-HR.out,Crc.step,if_neg hodd]);clear HR hodd;go_wp2;exact⟨⟨k+1,r / 2,by go_num,by omega,by go_num,by omega,HS.out,trivial⟩,by simp[intOf];omega⟩
    ·obtain rfl:k=4:=by omega
     have HN:=ad (AW HT.out hp);rw[<-HR.out]at HN;clear HR HT;go_wp2;exact⟨⟨i+1,_,by go_num,by omega,av HK.out _,HN.out,hbw.setCell (p:=⟨w.heap.size,i,none⟩) ab _⟩,by simp[intOf];omega⟩
  ·obtain rfl:i=16:=by omega
   clear hbk;go_wp2;go_ret;refine⟨w.heap.size,rfl,fun j hj=>?_,hbw⟩;rw[aw HK.out];exact HT.out.2 j hj
theorem Jt (r k:Nat):((r % 256) ^^^ k) % 16=(r ^^^ k) % 16:=by
 have h:=fun (a b:Nat)=>Nat.xor_mod_two_pow (a:=a) (b:=b) (n:=4);rw[show(16:Nat)=2 ^ 4 from rfl,h,h];congr 1;omega
theorem zL {W:World} {b r k:Nat} (HTB:Hid (∀i,i<16->W.cell? ⟨b,i,none⟩=some (.int .u32 (Crc.rN i:Nat)))) (hr:r<4294967296) (hk:k<256) :
 ∃n t q:Nat,n<16/\bits .and .u8 (bits .xor .u8 ((r:Int) % 256) (k:Int)) 15=(n:Int)/\W.cell? ⟨b,n,none⟩=some (.int .u32 (t:Int))/\bits .xor .u32 (t:Int) ((r:Int) / 16)=(q:Int)/\q<4294967296/\Hid (q=Crc.FT r k):=by
 have hn:(r ^^^ k) % 16<16:=by omega
 refine⟨(r ^^^ k) % 16,Crc.rN ((r ^^^ k) % 16),Crc.FT r k,hn,?_,HTB.out _ hn,?_,Crc.zM hr,rfl⟩
 ·rw[show(r:Int) % 256=((r % 256:Nat):Int)by omega,LC _ _ (by omega) hk,JZ _ (Nat.xor_lt_two_pow (n:=8) (by omega) hk),Jt]
 ·rw[show(r:Int) / 16=((r / 16:Nat):Int)by omega,yq _ _ (Crc.yQ (by omega)) (by omega)];rfl
set_option maxHeartbeats 1000000 in
set_option maxRecDepth 100000 in
theorem oK (sum:Nat) (s:ByteArray) (w:World) (hs:s.size<=1000000000000) (hsum:sum<4294967296) :
 Calls prog 142 #[.int .u32 sum,.string s] w fun e w'=>e=.returned (.int .u32 (Crc.lH sum s.data.toList:Nat))/\Below w.heap.size w w':=by
 go_enter func142,ntmps142;go_wp2_with fail;refine(Fa w).mono ?_;rintro e w1 ⟨b,rfl,htb,hb⟩;have hcv:=Lib.run_convert_string_bytes (P:=prog) w1 9 167 5 s (u:=.string) underlying9 underlying167 underlying5;have hB:∀j,j<s.size->(Lib.bytesWorld w1 5 s).cell? ⟨w1.heap.size,j,none⟩=some (.int .u8 (s.data.toList.getD j 0).toNat):=fun j hj=>Lib.bytesWorld_cell w1 5 s j hj;have hbw0:=og w1 5 s;have HTB:=ad (fun i hi=>cell_kept hbw0 ab (htb i hi));have hbw1:=Below.up hb ab hbw0;obtain⟨W1,hW1⟩:∃W1,W1=Lib.bytesWorld w1 5 s:=⟨_,rfl⟩;rw[<-hW1]at hcv hB hbw1 HTB;clear hW1 hbw0 htb;have HB:=ad hB;clear hB;have hX0:bits .xor .u32 IntKind.u32.max (sum:Int)=((4294967295 ^^^ sum:Nat):Int):=yq 4294967295 sum (by omega) hsum;have hr0:4294967295 ^^^ sum<4294967296:=Crc.oi (by omega) hsum;have HU:=ad (show 4294967295 ^^^ Crc.run (Crc.run (4294967295 ^^^ sum) []) (s.data.toList.drop 0)=Crc.lH sum s.data.toList from rfl);obtain⟨r0,hr00⟩:∃r0,4294967295 ^^^ sum=r0:=⟨_,rfl⟩;rw[hr00]at hX0 hr0 HU;clear hr00;go_wp2
 go_loopw [6,15] (fun rv iv wr=>∃(i r:Nat),rv=.int .u32 (r:Int)/\iv=.int .i64 (i:Int)/\i<=s.size/\r<4294967296/\4294967295 ^^^ Crc.run r (s.data.toList.drop i)=Crc.lH sum s.data.toList/\wr=W1) (fun _ iv _=>s.size-(intOf iv).toNat)
 case atStart=>exact⟨0,r0,rfl,rfl,by omega,hr0,HU.out,rfl⟩
 case round =>
  obtain⟨i,r,rfl,rfl,hi,hr,hrun,rfl⟩:=hrel;have HR:=ad hrun;clear hrun HU hX0;by_cases hp:i<s.size
  ·have hc:=HB.out i hp;obtain⟨c,hcc,hdr⟩:=getD_at s i hp;rw[hcc]at hc;have hcl:c.toNat<256:=c.toNat_lt;have HF:=ad (show 4294967295 ^^^ Crc.run (Crc.byte r c.toNat) (s.data.toList.drop (i+1))=Crc.lH sum s.data.toList by rw[<-HR.out,hdr];rfl);obtain⟨k,hk⟩:∃k,c.toNat=k:=⟨_,rfl⟩;rw[hk]at hc hcl HF;clear hdr hcc hk HR;obtain⟨n1,t1,r1,hn1,hA1,hc1,hX1,hr1,H1⟩:=zL HTB hr hcl;obtain⟨n2,t2,r2,hn2,hA2,hc2,hX2,hr2,H2⟩:=zL HTB hr1 (show k / 16<256 by omega);have HF2:=ad (show 4294967295 ^^^ Crc.run r2 (s.data.toList.drop (i+1))=Crc.lH sum s.data.toList by rw[<-HF.out,H2.out,H1.out];rfl);have hk16:((k / 16:Nat):Int)=(k:Int) / 16:=by omega
   rw[hk16]at hA2;clear HF H1 H2 hk16 HTB HB;go_wp2;exact⟨⟨i+1,r2,rfl,by go_num,by omega,hr2,HF2.out,trivial⟩,by simp[intOf];omega⟩
  ·obtain rfl:i=s.size:=by omega
   have hX1:bits .xor .u32 IntKind.u32.max (r:Int)=((4294967295 ^^^ r:Nat):Int):=yq 4294967295 r (by omega) hr;have HF:=ad (show 4294967295 ^^^ r=Crc.lH sum s.data.toList by rw[<-HR.out,List.drop_of_length_le (by rw[<-Lib.size_eq];omega)];rfl);obtain⟨q,hq⟩:∃q,4294967295 ^^^ r=q:=⟨_,rfl⟩;rw[hq]at hX1 HF;clear hq HR;go_wp2;go_ret;rw[<-HF.out];exact⟨rfl,hbw1⟩
theorem Co (s:ByteArray) (w:World) (hs:s.size<=1000000000000) :
 Calls prog 143 #[.string s] w fun e w'=>e=.returned (.int .u32 (Crc.sum s.data.toList:Nat))/\Below w.heap.size w w':=by
 go_enter func143,ntmps143;go_wp2_with fail;refine(oK 0 s w hs (by omega)).mono ?_;rintro e w1 ⟨rfl,hb⟩;go_wp2;go_ret;exact⟨rfl,hb⟩
theorem uF (s:ByteArray):s.toList.isEmpty=decide (s.size=0):=by
 rw[Lib.toList_data];rw[Lib.size_eq];cases s.data.toList <;> simp
theorem Hz (s:ByteArray):s.data.toList=[]↔s.size=0:=by rw[Lib.size_eq];exact List.length_eq_zero_iff.symm
set_option maxHeartbeats 1000000 in
theorem iB (s:ByteArray) (w:World) (hs:s.size<=1000000000000) :
 Calls prog 91 #[.string s] w fun e w'=>∃(r:ByteArray) (c:Nat),e=.returned (.tuple #[.string r,.int .i64 c])/\Hid (Frm.put s.data.toList=(r.data.toList,c))/\r.size<=8008/\Below w.heap.size w w':=by
 have HL:=ad (Hz s);have HZ:=ad (aT s);by_cases h0:s.size=0
 ·have hemp:s.toList.isEmpty=true:=by rw[uF];simp[h0]
  have HF:=ad (show Frm.put s.data.toList=([],2)by rw[Frm.put,if_pos (HL.out.2 h0)]);go_enter func91,ntmps91;go_wp2
  go_ret2
  exact⟨_,2,rfl,HF,by decide,ae _ _⟩
 ·have hemp:s.toList.isEmpty=false:=by rw[uF];simp[h0]
  by_cases h1:(8000:Int)<s.size
  ·have HF:=ad (show Frm.put s.data.toList=([],4)by rw[Frm.put,if_neg (fun h=>h0 (HL.out.1 h)),if_pos (by rw[<-HZ.out];omega)]);go_enter func91,ntmps91;go_wp2
   go_ret2
   exact⟨_,4,rfl,HF,by decide,ae _ _⟩
  ·have HF:=ad (show Frm.put s.data.toList=(Frm.bH s.data.toList,0)by rw[Frm.put,if_neg (fun h=>h0 (HL.out.1 h)),if_neg (by rw[<-HZ.out];omega)]);have hs8:s.size<=8000:=by omega
   go_enter func91,ntmps91;go_wp2_with fail;refine(xk s.size w (by omega)).mono ?_;rintro e w1 ⟨q,rfl,HQ,hq4,b1⟩;go_wp2_with fail;refine(Co q w1 (by omega)).mono ?_;rintro e w2 ⟨rfl,b2⟩;go_wp2_with fail;refine(oK _ s w2 hs (Crc.tQ _)).mono ?_;rintro e w3 ⟨rfl,b3⟩;have HS:=ad (Crc.tJ 0 q.data.toList s.data.toList);have hlt:Crc.lH (Crc.sum q.data.toList) s.data.toList<4294967296:=Crc.ET (Crc.tQ _) _;obtain⟨cs,hcs⟩:∃cs,Crc.lH (Crc.sum q.data.toList) s.data.toList=cs:=⟨_,rfl⟩;rw[hcs]at hlt ⊢;go_wp2_with fail;refine(xk cs w3 hlt).mono ?_;rintro e w4 ⟨f,rfl,HFx,hf4,b4⟩;have hb4:Below w.heap.size w w4:=Below.up (Below.up (Below.up b1 ab b2) ab b3) ab b4;obtain⟨A,hA,hA2,hA3⟩:=bf (q.data.toList++f.data.toList);obtain⟨B,hB,hB2,hB3⟩:=bf (q.data.toList++(f.data.toList++s.data.toList));have hadd1:∀w,(Op.stringOp .add q f).run prog w=.ok (.string A) w:=fun w=>cK w q f A (by omega) hA2.symm;have hAs:A.size=8:=by rw[hA3,List.length_append,<-Lib.size_eq,<-Lib.size_eq];omega
   have hadd2:∀w,(Op.stringOp .add A s).run prog w=.ok (.string B) w:=fun w=>cK w A s B (by omega) (by rw[hA2,hB2];simp);have hBs:B.size<=8008:=by rw[hB3,List.length_append,List.length_append,<-Lib.size_eq,<-Lib.size_eq,<-Lib.size_eq];omega
   have HF2:=ad (show Frm.put s.data.toList=(B.data.toList,0)by
    rw[HF.out,hB2,HFx.out,HQ.out,<-hcs,Crc.sum,HS.out,HQ.out,HZ.out];rfl)
   clear hA hB hA2 hB2 hA3 hB3 HF HQ HFx HS hcs b1 b2 b3 b4;go_wp2
   go_ret2
   exact⟨B,0,rfl,HF2,hBs,hb4⟩
theorem bne_true {a b:Nat} (h:a≠b):((a:Int) != (b:Int))=true:=by simp;omega
theorem bne_false {a b:Nat} (h:a=b):((a:Int) != (b:Int))=false:=by simp[h]
set_option maxHeartbeats 1000000 in
theorem lY (s:ByteArray) (w:World) (hs:s.size<=1000000000000) :
 Calls prog 100 #[.string s] w fun e w'=>∃(a r:ByteArray) (c:Nat),e=.returned (.tuple #[.string a,.string r,.int .i64 c])/\Hid (Frm.take s.data.toList=(a.data.toList,r.data.toList,c))/\Below w.heap.size w w':=by
 have HZ:=ad (aT s);by_cases h8:s.size<8
 ·have HF:=ad (show Frm.take s.data.toList=([],[],3)by rw[Frm.take,if_pos (by rw[<-HZ.out];exact h8)]);go_enter func100,ntmps100;go_wp2
  go_ret3
  exact⟨_,_,3,rfl,HF,ae _ _⟩
 ·have HU:=ad (show Frm.take s.data.toList=_ by rw[Frm.take,if_neg (by rw[<-HZ.out];exact h8)]);go_enter func100,ntmps100;go_wp2_with fail;refine(pP s w hs).mono ?_;rintro e w1 ⟨n,r,c,rfl,HT,hn,b1⟩;obtain⟨n',hn'⟩:=Num.qy s.data.toList (by rw[<-HZ.out];omega);have hT:=HT.out;rw[hn'.1]at hT;simp only[Prod.mk.injEq]at hT;obtain⟨rfl,hr,rfl⟩:=hT;have hrs:r.size=s.size-4:=by rw[Lib.size_eq,<-hr,List.length_drop,<-HZ.out]
  go_wp2_with fail;refine(pP r w1 (by omega)).mono ?_;rintro e w2 ⟨m,q,c2,rfl,HT2,hm,b2⟩;have hb2:=Below.up b1 ab b2;obtain⟨m',hm'⟩:=Num.qy r.data.toList (by rw[<-Lib.size_eq];omega);have hT2:=HT2.out;rw[hm'.1]at hT2;simp only[Prod.mk.injEq]at hT2;obtain⟨rfl,hq,rfl⟩:=hT2;have hqs:q.size<=s.size:=by rw[Lib.size_eq,<-hq,List.length_drop,<-Lib.size_eq];omega
  have HU2:=ad (show Frm.take s.data.toList=if n'=0 then ([],[],2) else if 8000<n' then ([],[],4) else if q.data.toList.length<n' then ([],[],3) else
   if Crc.sum (s.data.toList.take 4++q.data.toList.take n')≠m' then ([],[],5) else (q.data.toList.take n',q.data.toList.drop n',0)by
   have e8:s.data.toList.drop 8=q.data.toList:=by rw[<-hq,<-hr,List.drop_drop]
   rw[HU.out,hn'.1,e8,hr,hm'.1])
  clear HU HT HT2 hq hr hn' hm' b1 b2 hrs;by_cases h1:n'=0
  ·subst h1;have HF:=ad (show Frm.take s.data.toList=([],[],2)by rw[HU2.out,if_pos rfl]);go_wp2
   go_ret3
   exact⟨_,_,2,rfl,HF,hb2⟩
  ·have h1b:((n':Int)==0)=false:=by simp;omega
   by_cases h2:(8000:Int)<n'
   ·have HF:=ad (show Frm.take s.data.toList=([],[],4)by rw[HU2.out,if_neg h1,if_pos (by omega)]);go_wp2
    go_ret3
    exact⟨_,_,4,rfl,HF,hb2⟩
   ·by_cases h3:(q.size:Int)<n'
    ·have HF:=ad (show Frm.take s.data.toList=([],[],3)by rw[HU2.out,if_neg h1,if_neg (by omega),if_pos (by rw[<-Lib.size_eq];omega)]);go_wp2
     go_ret3
     exact⟨_,_,3,rfl,HF,hb2⟩
    ·have h4:(n':Int)<=q.size:=by omega
     have h5:n'<=8000:=by omega
     obtain⟨P,hP⟩:∃P,q.extract 0 n'=P:=⟨_,rfl⟩;obtain⟨R,hR⟩:∃R,q.extract n' q.size=R:=⟨_,rfl⟩;obtain⟨H,hH⟩:∃H,s.extract 0 4=H:=⟨_,rfl⟩;have hPl:P.data.toList=q.data.toList.take n':=by rw[<-hP,jT]
     have hRl:R.data.toList=q.data.toList.drop n':=by rw[<-hR,mj]
     have hHl:H.data.toList=s.data.toList.take 4:=by rw[<-hH,jT]
     have hPs:P.size=n':=by rw[<-hP];exact jo q n' (by omega)
     have hHs:H.size=4:=by rw[<-hH];exact jo s 4 (by omega)
     have HU3:=ad (show Frm.take s.data.toList=if Crc.lH (Crc.sum H.data.toList) P.data.toList≠m' then ([],[],5) else (P.data.toList,R.data.toList,0)by
      rw[HU2.out,if_neg h1,if_neg (by omega),if_neg (by rw[<-Lib.size_eq];omega),hPl,hRl,hHl,show Crc.lH (Crc.sum (s.data.toList.take 4)) (q.data.toList.take n')=Crc.sum (s.data.toList.take 4++q.data.toList.take n')from Crc.tJ 0 _ _])
     clear HU2 hPl hRl hHl;go_wp2;go_quiet (fail);go_wp2_with fail;refine(Co H _ (by omega)).mono ?_;rintro e w3 ⟨rfl,b3⟩;go_wp2_with fail;refine(oK _ P w3 (by omega) (Crc.tQ _)).mono ?_;rintro e w4 ⟨rfl,b4⟩;obtain⟨cs,hcs⟩:∃cs,Crc.lH (Crc.sum H.data.toList) P.data.toList=cs:=⟨_,rfl⟩;rw[hcs]at HU3 ⊢;have hb4:=Below.up (Below.up (below_drewN hb2 _) ab b3) ab b4;by_cases h6:cs=m'
     ·have h6b:=bne_false h6;have HF:=ad (show Frm.take s.data.toList=(P.data.toList,R.data.toList,0)by rw[HU3.out,if_neg (by simpa using h6)]);go_wp2
      go_ret3
      exact⟨P,R,0,rfl,HF,hb4⟩
     ·have h6b:=bne_true h6;have HF:=ad (show Frm.take s.data.toList=([],[],5)by rw[HU3.out,if_pos h6]);go_wp2
      go_ret3
      exact⟨_,_,5,rfl,HF,hb4⟩
attribute [local go_sem] Oper.semAt_some
def Cp:Value->Nat
 |.string s=>s.size
 |_=>0
def ky (B:Nat) (W W':World):Prop:=∀v,W.cell? ⟨B,0,none⟩=some v->W'.cell? ⟨B,0,none⟩=some v
theorem sI {B:Nat} {X Y Z:World} (h:ky B X Y) (k:ky B Y Z):ky B X Z:=fun v hv=>k v (h v hv)
theorem sJ (B:Nat) (W:World) (l:Nat) (o o':Obj) (hl:W.heap[l]?=some o) (ho:o.isCells=false):ky B W (W.putObj l o'):=fun v hv =>
 (grownBy_putObj' W l o').cell hv (fun e=>by
  cases e;cases o <;> simp_all [World.cell?,Obj.isCells])
def gX (xs:List (ByteArray×Nat)):Nat:=(xs.getLast?.map (·.2)).getD 0
theorem rf (xs:List (ByteArray×Nat)) (x:ByteArray×Nat):gX (xs++[x])=x.2:=by simp[gX]
def fg (xs:List (ByteArray×Nat)):List (List UInt8):=xs.map (·.1.data.toList)
theorem ph (xs:List (ByteArray×Nat)) (x:ByteArray×Nat):fg (xs++[x])=fg xs++[x.1.data.toList]:=by simp[fg]
set_option maxRecDepth 100000 in
set_option maxHeartbeats 1000000 in
theorem Ef (n:Nat) (hn:1<=n) (l Bn:Nat) (s:ByteArray) (hs:s.size<=1000000000000) (J Jx:List (ByteArray×Nat)->World->Prop) (W:World) (hJ:AbidesFrom W.heap.size J)
 (hY:∀pre (x:ByteArray×Nat) W,J pre W->pre.length<s.size+1->YieldAt Fence.wide (n-1) prog l #[.string x.1,.int .i64 x.2] W fun e W' =>
  (e=.returned (.bool true)/\J (pre++[x]) W'/\ky Bn W W')\/(e=.returned (.bool false)/\Jx (pre++[x]) W'))
 (hBn:W.cell? ⟨Bn,0,none⟩=some (.string s)) (h0:J [] W) :
 CallsIn Fence.wide n prog 255 #[.func (.yield l) #[] #[],.pointer (some ⟨Bn,0,none⟩)] W fun e W'=>(∃v,e=.returned v) /\
  ((∃ys,(fg ys=(Frm.scan s.data.toList).1/\gX ys+(Frm.scan s.data.toList).2.length=s.size)/\J ys W')\/(∃pre,True/\Jx pre W')):=by
 refine callsIn_of_wp func255 rfl trivial ?_ rfl;simp only[ntmps255,List.size_toArray,List.length_cons,List.length_nil,Nat.reduceAdd,Nat.reduceSub,Array.replicate_succ,Array.replicate_zero,List.push_toArray,List.append_toArray,List.nil_append,List.cons_append]
 gi_wp2
 gi_loopw [3] (fun lv wr=>∃(pre:List (ByteArray×Nat)) (q:ByteArray),lv=.string q/\J pre wr/\wr.cell? ⟨Bn,0,none⟩=some (.string s)/\fg pre++(Frm.scan q.data.toList).1=(Frm.scan s.data.toList).1/\(Frm.scan q.data.toList).2=(Frm.scan s.data.toList).2 /\
  gX pre+q.size=s.size/\9*pre.length+q.size<=s.size) (fun lv _=>Cp lv)
 case atStart=>exact⟨[],s,rfl,h0,hBn,rfl,rfl,by simp[gX],by simp⟩
 case round =>
  obtain⟨pre,q,rfl,hJs,hc,h1,h2,h3,h4⟩:=hrel;have H1:=ad h1;have H2:=ad h2;have H3:=ad h3;clear h1 h2 h3
  gi_wp2
  refine⟨trivial,(callsIn_wide.2 (lY q wr (by omega))).mono ?_⟩;rintro e w1 ⟨a,r,c,rfl,HT,b1⟩;have hJ1:J pre w1:=hJ pre wr w1 none hJs (bZ b1) (fun r e=>by cases e);have hc1:=cell_kept b1 ab hc;by_cases h0:c=0
  ·subst h0;have hz:=(Frm.fH q.data.toList).2.2 (by rw[HT.out]);rw[HT.out]at hz;simp only[<-Lib.size_eq]at hz;have hgo:=Frm.rP q.data.toList (by rw[HT.out]);rw[HT.out]at hgo;simp only at hgo;have F1:=ad (show fg (pre++[(a,s.size-r.size)])++(Frm.scan r.data.toList).1=(Frm.scan s.data.toList).1 by rw[<-H1.out,hgo,ph];simp);have F2:=ad (show(Frm.scan r.data.toList).2=(Frm.scan s.data.toList).2 by rw[<-H2.out,hgo]);have hrs:r.size+9<=q.size:=hz.2.2.1;have hqs:q.size<=s.size:=by omega
   have F3:=ad (show gX (pre++[(a,s.size-r.size)])+r.size=s.size by rw[rf];omega);have hsub:(s.size:Int)-(r.size:Int)=((s.size-r.size:Nat):Int):=by omega
   obtain⟨fn,tmps,assign,body,hy,hR⟩:=hY pre (a,s.size-r.size) w1 hJ1 (by omega)
   dsimp only at hy
   clear hz hgo H1 H2 H3 HT
   gi_wp2
   refine hR.mono ?_;rintro e W3 (⟨rfl,hJ3,hk3⟩|⟨rfl,hJx3⟩)
   ·have hc3:=hk3 _ hc1
    gi_wp2
    go_roundw
    case rel=>exact⟨pre++[(a,s.size-r.size)],r,rfl,hJ3,hc3,F1.out,F2.out,F3.out,by simp;omega⟩
    case measure=>simp only[Cp];omega
   ·gi_wp2
    refine bodyPost_ret (results_none rfl _ _ _) rfl ?_;exact⟨⟨_,rfl⟩,.inr ⟨_,trivial,hJx3⟩⟩
  ·have h0b:((c:Int) != 0)=true:=by simp;omega
   have hst:=Frm.nw q.data.toList (by rw[HT.out];exact h0);have F1:=ad (show fg pre=(Frm.scan s.data.toList).1 by rw[<-H1.out,hst];simp);have F2:=ad (show gX pre+(Frm.scan s.data.toList).2.length=s.size by rw[<-H2.out,hst,<-Lib.size_eq];exact H3.out);clear hst H1 H2 H3
   gi_wp2
   refine⟨fun _ h=>(by cases h),?_⟩
   gi_wp2
   refine bodyPost_ret (results_none rfl _ _ _) rfl ?_;exact⟨⟨_,rfl⟩,.inl ⟨pre,⟨F1.out,F2.out⟩,hJ1⟩⟩
theorem EF {β:Type} (B:Nat) (t:TypeId):Own (fun (_:β) W=>∃a:Int,Boxed W B t (.int .i64 a)):=by
 rintro s X Y row ⟨a,ha⟩ hg hrow;refine⟨a,ha.kept hg (fun e'=>?_)⟩;obtain⟨o,ho,hc⟩:=hrow B e'.symm;rw[show X.heap[B]?=_ from ha]at ho;cases ho;cases hc
theorem bV {W:World} {B B':Nat} {e:TypeId} {size:Nat} {v:Value} {k:Nat} {xs:List Value} (h:W.ownsRow B e size v k xs) (hB:B'<=B):W.ownsRow B' e size v k xs:=by
 refine⟨h.1,?_⟩;rcases h.2 with h1|⟨g,cap,cur,h1,h2,h3⟩
 ·exact .inl h1
 ·exact .inr ⟨g,cap,cur,h1,by omega,h3⟩
theorem rm (n:Nat) (hn:1<=n) (Bn:Nat) (s:ByteArray) (hs:s.size<=1000000000000) (w:World) (hc:w.cell? ⟨Bn,0,none⟩=some (.string s)) :
 SeqStopsK Fence.wide n prog 255 #[.pointer (some ⟨Bn,0,none⟩)] (fun x:ByteArray×Nat=>#[Value.string x.1,.int .i64 x.2]) (ky Bn)
  (fun ys=>fg ys=(Frm.scan s.data.toList).1/\gX ys+(Frm.scan s.data.toList).2.length=s.size) (fun _=>True) (s.size+1) w:=fun l J Jx W hW hJ _ hY h0 =>
 Ef n hn l Bn s hs J Jx W hJ hY (cell_kept hW ab hc) h0
theorem uN (s:ByteArray) (w:World) :
 Calls prog 222 #[.string s] w fun e w'=>e=.returned (.func (.func 255) #[] #[.pointer (some ⟨w.heap.size,0,none⟩)])/\w'=w.alloc (.cells #[.string s] 9):=by
 go_enter func222,ntmps222;go_wp2;go_ret;exact⟨rfl,rfl⟩
theorem GX:fh prog 260 9 1:=by
 have h:(prog.info? 9).map (fun i=>(i.zero,i.size,i.bytes))=some (some (.string ⟨#[]⟩),1,16):=by kernel_rfl
 obtain⟨i0,hi,hz0,hz1,hz2⟩:=info_parts h;exact⟨underlying260,⟨i0,_,16,hi,hz0,hz1,hz2,rfl,by omega⟩,by omega⟩
set_option maxRecDepth 100000 in
set_option maxHeartbeats 2000000 in
theorem G5 (s:ByteArray) (w:World) (hs:s.size<=1073741824) :
 Calls prog 189 #[.string s] w fun e w'=>∃v at_,e=.returned (.tuple #[v,.int .i64 at_])/\w'.ownsRow w.heap.size 9 1 v (Frm.scan s.data.toList).1.length (strCells (Frm.scan s.data.toList).1)/\Below w.heap.size w w':=by
 refine(callsIn_wide (n:=6)).1 ?_;obtain⟨i0,z0,by0,hi,hz0,hz1,hz2,hz3,hz4⟩:=GX.info;refine callsIn_of_wp_marks func189 rfl trivial ?_ rfl;simp only[ntmps189,List.size_toArray,List.length_cons,List.length_nil,Nat.reduceAdd,Nat.reduceSub,Array.replicate_succ,Array.replicate_zero,List.push_toArray,List.append_toArray,List.nil_append,List.cons_append]
 gi_wp2
 refine⟨trivial,(callsIn_wide.2 (uN s _)).mono ?_⟩;rintro e w' ⟨rfl,rfl⟩
 gi_wp2
 have bO:=((Boxed.new w 260 (.slice none 0 0)).alloc (.cells #[.int .i64 0] 3)).alloc (.cells #[.string s] 9);have bA:=(Boxed.new (w.alloc (.cells #[.slice none 0 0] 260)) 3 (.int .i64 0)).alloc (.cells #[.string s] 9);have bN:=Boxed.new ((w.alloc (.cells #[.slice none 0 0] 260)).alloc (.cells #[.int .i64 0] 3)) 9 (.string s);rw[World.size_alloc]at bA;rw[World.size_alloc,World.size_alloc]at bN;have hB0:Below w.heap.size w (((w.alloc (.cells #[.slice none 0 0] 260)).alloc (.cells #[.int .i64 0] 3)).alloc (.cells #[.string s] 9)):=(((ae _ w).alloc ab _).alloc (by simp) _).alloc (by simp;omega) _;obtain⟨W0,hW0⟩:∃W0,(((w.alloc (.cells #[.slice none 0 0] 260)).alloc (.cells #[.int .i64 0] 3)).alloc (.cells #[.string s] 9))=W0:=⟨_,rfl⟩;have hsz0:W0.heap.size=w.heap.size+3:=by rw[<-hW0];simp
 rw[hW0]at bO bA bN hB0 ⊢;clear hW0;refine wpIn_rangeFunc_ownF rfl (by omega) (gf:=255) (lb:=#[.pointer (some ⟨w.heap.size+1+1,0,none⟩)]) rfl trivial (enters_of func255 (by kernel_rfl) rfl)
  (rm 5 (by omega) (w.heap.size+1+1) s (by omega) W0 bN.cell) sI (fun W l o o' _ h1 h2 _=>sJ _ W l o o' h1 h2) (ae _ _) (fun _=>rfl)
  (fun pre W=>(∃v,Boxed W w.heap.size 260 v/\W.ownsRow (w.heap.size+3) 9 1 v (fg pre).length (strCells (fg pre))/\True)/\(∃a:Int,Boxed W (w.heap.size+1) 3 (.int .i64 a))/\Below w.heap.size W0 W)
  (fun _ _ _=>False)
  (OwnFrom.and (Own.from (holdsRow_own (w.heap.size+3) w.heap.size 260 9 1 (fun pre=>(fg pre).length) (fun pre=>strCells (fg pre)) (fun _ _=>True)) _) (OwnFrom.and (Own.from (EF _ _) _) (ownFrom_below (by omega) (by omega))))
  (fun _ _ _ _ _ hs _ _=>hs)
  ⟨⟨_,bO,World.ownsRow_nil _ _ _ _,trivial⟩,⟨_,bA⟩,ae _ _⟩
  (fun x=>{tmps:=#[.string s,undef,.slice none 0 0,.int .i64 0,.pointer (some ⟨w.heap.size,0,none⟩),.pointer (some ⟨w.heap.size+1,0,none⟩),.string x.1,.int .i64 x.2,.string s,.func (.func 255) #[] #[.pointer (some ⟨w.heap.size+1+1,0,none⟩)],.string x.1,.int .i64 x.2,undef,undef,undef,undef,undef,undef,undef],defers:=[]}) ?assign ?body ?done ?stop
 case assign =>
  intro l x W K hK
  gi_wp2
  exact hK
 case body =>
  rintro l pre x W ⟨⟨v,hv,hrow,_⟩,⟨a,ha⟩,hB⟩ hlt;have hc:=hv.cell;have hca:=ha.cell;have hpl:(fg pre).length<=pre.length:=by simp[fg]
  have hBs:w.heap.size+3<=W.heap.size:=by have:=hB.size;omega
  gi_wp2_with (gi_at_builtin;refine wpListIn_append_own _ rfl _ _ 260 rfl (w.heap.size+3) 9 i0 z0 1 by0 underlying260 hi hz0 hz1 hz2 hz3 (by decide) v _ _ rfl (hrow.alloc _) ⟨W.heap.size,0,none⟩ 1 1 [.string x.1] rfl rfl (lQ W [.string x.1] _) (by simp[Value.oneCell']) (by unfold maxLen;omega) (Nat.le_trans (Nat.mul_le_mul_left _ hz4) (by omega)) (by simp;omega) ?_;intro v' w1 hown' hgrow _;obtain⟨g',cap',rfl⟩:=ownsRow_succ hown';have hv1:=(hv.alloc (.cells #[.string x.1] 9)).kept hgrow (hv.not_row (by decide) hrow);have hc1:=hv1.cell;have hf1:=hv1.frozen;have ha1:=(ha.alloc (.cells #[.string x.1] 9)).kept hgrow (ha.not_row (by decide) hrow);have hc2:=ha1.cell;have hf2:=ha1.frozen)
  obtain⟨_,hv2,_,hk2,hb2⟩:=hv.appended (by decide) (bV hrow (by omega)) (Nat.le_trans (by omega) hBs) ab (bV hown' (by omega)) hgrow;have hr2:=hown'.kept (grownBy_setCell' w1 w.heap.size (.slice (some ⟨g',0,none⟩) ((fg pre).length+1) cap')) (.inr (hv1.not_row (by decide) hown').symm);have ha2:=ha1.kept (grownBy_setCell' w1 w.heap.size (.slice (some ⟨g',0,none⟩) ((fg pre).length+1) cap')) (by simp);refine⟨hk2.trans (KeepsOthers.setCell _ _ _),fun u hu=>?_,⟨⟨_,hv2.kept (grownBy_setCell' _ (w.heap.size+1) _) (by simp),?_,trivial⟩,⟨_,ha2.set _⟩,?_⟩⟩
  ·have h1:=(hgrow.cell ((World.grownBy_alloc W _ none).cell hu (by simp)) (fun e=>by have:=(hrow.lt _ e.symm).1;simp only at this;omega):w1.cell? ⟨w.heap.size+1+1,0,none⟩=some u);exact(grownBy_setCell' _ (w.heap.size+1) _).cell ((grownBy_setCell' w1 w.heap.size _).cell h1 (by simp;omega)) (by simp)
  ·have hr3:=hr2.kept (grownBy_setCell' _ (w.heap.size+1) (.int .i64 x.2)) (.inr (ha2.not_row (by decide) hr2).symm);rw[ph];simpa[strCells]using hr3
  ·exact(hB.trans hb2).setCell (p:=⟨w.heap.size+1,0,none⟩) (by simp) _
 case done =>
  rintro D ys W hD ⟨hl1,_⟩ ⟨⟨v,hv,hrow,_⟩,⟨a,ha⟩,hB⟩ hK;have hc:=hv.cell;have hca:=ha.cell
  gi_wp2
  gi_region
  gi_wp2
  have hK':W.drew.heap[D]?=some (.deferred (some [])):=hK;refine⟨by simp,.inl ⟨_,_,rfl,run_takeDeferred hK',?_⟩⟩;refine⟨.tuple #[v,.int .i64 a],?_,v,a,rfl,?_,?_⟩
  ·simp[results,Tryz.f189,go_sem]
  ·rw[<-hl1];exact bV (ownsRow_putObj (hrow.kept (bZ ((ae _ W).drew)) (by cases v.ownBlock <;> simp)) _ hK' rfl) (by omega)
  ·exact(hB0.trans hB.drew).trans (belowK_b (w:=w) ab W.drew D _ _ (by omega) hK' rfl rfl)
 case stop =>
  rintro D c pre W _ _ h _;exact h.elim
variable {F:Fence} {n:Nat} {P:Program}
def AJ {α:Type} (F:Fence) (n:Nat) (P:Program) (g:Nat) (lb:Array Value) (encs:α->Array Value) (Gx:α->World->World->Prop) (Kp:World->World->World->Prop) (S:List α->Prop) (N Bp:Nat) (w:World):Prop :=
 ∀(l:Nat) (J:List α->World->Prop) (W:World),Below w.heap.size w W->(∀s X Y,J s X->X.grownBy Y (some Bp)->J s Y) ->
  (∀pre x W0 W1,J pre W0->pre.length<N->Below W0.heap.size W0 W1->Gx x W0 W1->YieldAt F (n-1) P l (encs x) W1 fun e W'=>e=.returned (.bool true)/\J (pre++[x]) W'/\Kp W0 W1 W') ->
  J [] W ->
  CallsIn F n P g (#[.func (.yield l) #[] #[]]++lb) W fun e W'=>(∃v,e=.returned v)/\∃xs,S xs/\J xs W'
def Yields {α:Type} (B Bp:Nat) (I:List α->World->Prop):Prop :=
 ∀s X Y b,I s X->X.grownBy Y (some b)->(b=Bp\/(B<=b/\∃o:Obj,X.heap[b]?=some o/\o.isCells=false))->I s Y
theorem Yields.rec {α:Type} {B Bp:Nat} {I:List α->World->Prop} (h:Yields B Bp I) {s:List α} {W:World} {l:Nat} {o:Obj} (o':Obj) (hs:I s W) (hB:B<=l) (hl:W.heap[l]?=some o) (ho:o.isCells=false):I s (W.putObj l o') :=
 h s W _ l hs (grownBy_putObj' W l o') (.inr ⟨hB,o,hl,ho⟩)
theorem Yields.lay {α:Type} {B Bp:Nat} {I:List α->World->Prop} (h:Yields B Bp I) {s:List α} {W:World} (o:Obj) (hs:I s W):I s (W.alloc o) :=
 h s W _ Bp hs ⟨rfl,rfl,rfl,by simp,fun k hk _=>Below.heap_alloc W o k hk⟩ (.inl rfl)
theorem qf {α:Type} {g:Operand} {ps:Array Tmp} {assign body:Code} {Q:Exit->Act->World->Prop} {a:Act} {w:World}
 (hro:F.round=none) (h1:1<=n) {gf:Nat} {lb:Array Value} (hg:a.eval g=.func (.func gf) #[] lb) (hFg:F.fn gf) (eg:∀args w,(callFunc gf args).run P w=.ok (.enter gf args) w)
 {encs:α->Array Value} {Gx:α->World->World->Prop} {Kp:World->World->World->Prop} {S:List α->Prop} {N Bp:Nat} (hseq:AJ F (n-1) P gf lb encs Gx Kp S N Bp w) (hBp:Bp<w.heap.size)
 (hKt:∀{X A B C:World},Kp X A B->Kp X B C->Kp X A C) (hKb:∀(X W:World) (l:Nat) (o:Obj),w.heap.size<=l->l<X.heap.size->Kp X W (W.putObj l o)) (hps:∀x,(encs x).size=ps.size)
 (I:List α->World->Prop) (hI:Yields w.heap.size Bp I) (h0:I [] w) (Ax:List α->α->World->Act->World->Prop)
 (hAx:∀pre x X a' W l o o',Ax pre x X a' W->w.heap.size<=l->l<X.heap.size->W.heap[l]?=some o->o.isCells=false->Ax pre x X a' (W.putObj l o'))
 (hassign:∀(l:Nat) (pre:List α) (x:α) (X W:World) (K:Act->World->Prop),I pre X->Below X.heap.size X W->Gx x X W->pre.length<N->(∀a' W',KeepsFrom w.heap.size W W'->Kp X W W'->Ax pre x X a' W'->K a' W') ->
  assign.wpIn (F.inRound l) (n-1-1) P (Exit.then K (fun _ _ _=>False)) {tmps:=(ps.zip (encs x)).foldl (fun t (p,v)=>t.setIfInBounds p v) a.tmps,defers:=[]} W)
 (hbody:∀(l:Nat) (pre:List α) (x:α) (X:World) (a':Act) (W:World),Ax pre x X a' W ->
  body.wpIn (F.inRound l) (n-1-1) P (Exit.then (fun _ W'=>KeepsFrom w.heap.size W W'/\Kp X W W'/\I (pre++[x]) W') (fun _ _ _=>False)) a' W)
 (hdone:∀(D:Nat) (xs:List α) (W:World),w.heap.size<=D->S xs->I xs W->W.heap[D]?=some (.deferred (some []))->Q .normal {a with defers:={target:=.collected D,args:=#[]}::a.defers} W) :
 (Code.rangeFunc g ps assign body).wpIn F n P Q a w:=by
 refine wpIn_rangeFunc ?_;intro fn hfn;rw[hro];obtain⟨L,hL⟩:∃L:LoopState->Option Code->Loop,L=fun st pe=>{state:=st,pending:=pe,fn,tmps:=a.tmps,params:=ps,assign,body,defers:=w.heap.size}:=⟨_,rfl⟩;obtain⟨W1,hW1⟩:∃W1,(w.alloc (.deferred (some []))).alloc (.loop (L .ready none))=W1:=⟨_,rfl⟩;have loop1:W1.heap[w.heap.size+1]?=some (.loop (L .ready none)):=by
  rw[<-hW1];have:=World.alloc_heap_new (w.alloc (.deferred (some []))) (.loop (L .ready none));rwa [World.size_alloc]at this
 have mark1:W1.heap[w.heap.size]?=some (.deferred (some [])):=by
  rw[<-hW1];exact(Below.heap_alloc _ _ _ (by simp)).trans (World.alloc_heap_new w _)
 have inv1:I [] W1:=by rw[<-hW1];exact hI.lay _ (hI.lay _ h0)
 have below1:Below w.heap.size w W1:=by
  rw[<-hW1];exact((ae _ w).alloc ab _).alloc (by simp) _
 refine⟨w.heap.size+1,[{target:=.collected w.heap.size,args:=#[]}],W1,{target:=.fn (.func gf) lb,args:=#[.func (.yield (w.heap.size+1)) #[] #[]]},W1,gf,
  #[.func (.yield (w.heap.size+1)) #[] #[]]++lb,W1,?_,?_,?_,?_,fun _=>h1,?_⟩
 ·rw[<-hW1,hL];exact run_enterLoop_outer _ _ _ _ _
 ·simp only[resolve,hg];simp[go_sem]
 ·intro f' hf';simp[Target.leads]at hf';subst hf';exact hFg
 ·simp[invoke,go_sem,eg]
 refine(hseq (w.heap.size+1) (fun pre W=>I pre W/\W.heap[w.heap.size+1]?=some (.loop (L .ready none))/\W.heap[w.heap.size]?=some (.deferred (some []))) W1 below1 ?_ ?_ ⟨inv1,loop1,mark1⟩).mono ?_
 ·rintro s X Y ⟨hs,hl,hk⟩ hgr;exact⟨hI s X Y Bp hs hgr (.inl rfl),(hgr.block _ (aA.1 hl).1 (by simp;omega)).trans hl,(hgr.block _ (aA.1 hk).1 (by simp;omega)).trans hk⟩
 ·rintro pre x X W ⟨hi,hl0,hk0⟩ hlen hXW hgx;have hlX:=(aA.1 hl0).1;have hl:=(hXW.block _ hlX).trans hl0;have hk:=(hXW.block _ (aA.1 hk0).1).trans hk0;have hy:=run_yield (P:=P) (args:=encs x) hl (by rw[hL];exact hps x);rw[hL]at hy;refine⟨fn,_,assign,body,hy,roundIn_of_wpIn hfn (hassign _ pre x X W _ hi hXW hgx hlen ?_)⟩;intro a' Wa kf kp hax;have la:=kf.same _ _ (by omega) hl rfl;have ka:=kf.same _ _ ab hk rfl;refine⟨_,run_beginRound la (by rw[hL]),?_⟩;have lb2:(Wa.putObj (w.heap.size+1) (.loop {L .ready none with state:=.busy})).heap[w.heap.size+1]?=some (.loop {L .ready none with state:=.busy}):=World.putObj_heap_same (aA.1 la).1;have kb2:(Wa.putObj (w.heap.size+1) (.loop {L .ready none with state:=.busy})).heap[w.heap.size]?=some (.deferred (some [])):=(World.putObj_heap_other (by omega)).trans ka;have kp2:Kp X Wa (Wa.putObj (w.heap.size+1) (.loop {L .ready none with state:=.busy})):=hKb _ _ _ _ (by omega) hlX;refine wpIn_mono (hbody _ pre x X a' _ (hAx _ _ _ _ _ _ _ _ hax (by omega) hlX la rfl)) ?_;rintro e a3 W3 hp;cases e with
  |normal =>
   obtain⟨kf3,kp3,hi3⟩:=hp;have l3:=kf3.same _ _ (by omega) lb2 rfl;have k3:=kf3.same _ _ ab kb2 rfl;have hr:=run_endRound (P:=P) none l3;rw[hL]at hr;refine⟨_,_,hr,rfl,⟨hI.rec _ hi3 (by omega) l3 rfl,?_,(World.putObj_heap_other (by omega)).trans k3⟩,hKt kp (hKt (hKt kp2 kp3) (hKb _ _ _ _ (by omega) hlX))⟩;rw[World.putObj_heap_same (aA.1 l3).1,hL];rfl
  |ret=>exact hp.elim
  |exit id=>exact hp.elim
  |goto t=>exact hp.elim
  |panic ch=>exact hp.elim
  |outgrown=>exact hp.elim
 ·rintro e W2 ⟨⟨v,rfl⟩,xs,hS,hi,hl,hk⟩;have he:=run_endLoop (P:=P) hl (by rw[hL];simp);rw[hL]at he;exact⟨none,_,he,hdone _ xs _ ab hS (hI.rec _ hi (by omega) hl rfl) ((World.putObj_heap_other (by omega)).trans hk)⟩
end
theorem tR {w:World} {v:Value} {ws:List (List UInt8)} (h:Cells w v 1 ws.length (strCells ws)) (i:Nat) (hi:i<ws.length) :
 ∃b o c,v=.slice (some ⟨b,o,none⟩) ws.length c/\w.cell? ⟨b,o+i,none⟩=some (.string ⟨ws[i].toArray⟩):=by
 rcases h.2 with⟨h0,_⟩|⟨b,o,c,h1,h2⟩
 ·omega
 ·exact⟨b,o,c,h1,h2 i _ (by simp[strCells,aR hi])⟩
theorem cC {w:World} {v:Value} {sz n:Nat} {xs:List Value} (h:Cells w v sz n xs) :
 (n=0/\∃a c,v=.slice a 0 c)\/∃b o c,v=.slice (some ⟨b,o,none⟩) n c:=by
 rcases h.2 with⟨h0,h1⟩|⟨b,o,c,h1,_⟩
 ·exact .inl ⟨h0,h1⟩
 ·exact .inr ⟨b,o,c,h1⟩
set_option maxHeartbeats 2000000 in
set_option maxRecDepth 100000 in
theorem Cs (v:Value) (ws:List (List UInt8)) (w:World) (hc:Cells w v 1 ws.length (strCells ws)) (hn:ws.length<=1000000) (hx:∀p∈ws,Frm.pt p) :
 Calls prog 240 #[v] w fun e w'=>∃r:ByteArray,e=.returned (.tuple #[.string r,.int .i64 0])/\Hid (r.data.toList=ws.flatMap Frm.bH)/\Below w.heap.size w w':=by
 have HX:=ad hx;clear hx;rcases cC hc with⟨h0,a0,c0,rfl⟩|⟨b,o,c,rfl⟩
 ·have HW:=ad (aP h0);clear h0 hc;go_enter func240,ntmps240;go_wp2
  go_loopw [11] (fun lv wr=>lv=.int .i64 0/\fP w.heap.size w.heap.size [] wr/\Below w.heap.size w wr) (fun _ _=>0)
  case atStart=>exact⟨rfl,iK w,(ae _ w).alloc ab _⟩
  case round =>
   obtain⟨rfl,hI,hbw⟩:=hrel;have hbs:=hbw.size;go_wp2_with fail;refine(iL w.heap.size w.heap.size _ _ hI (by omega)).mono ?_;rintro e w3 ⟨rfl,b3⟩;go_wp2
   go_ret2
   exact⟨_,rfl,by rw[HW.out];rfl,hbw.trans b3⟩
 ·go_enter func240,ntmps240;go_wp2
  go_loopw [11] (fun lv wr=>∃(i:Nat) (acc:List UInt8),lv=.int .i64 i/\fP w.heap.size w.heap.size acc wr/\Below w.heap.size w wr/\acc++(ws.drop i).flatMap Frm.bH=ws.flatMap Frm.bH/\acc.length<=i*8008/\i<=ws.length) (fun lv _=>ws.length-(intOf lv).toNat)
  case atStart=>exact⟨0,[],rfl,iK w,(ae _ w).alloc ab _,rfl,by simp,by omega⟩
  case round =>
   obtain⟨i,acc,rfl,hI,hbw,hacc,hal,hi⟩:=hrel;have HA:=ad hacc;clear hacc;have hbs:=hbw.size;by_cases hp:i<ws.length
   ·obtain⟨b',o',c',hv,hcell⟩:=tR hc i hp;cases hv;have hcell2:=cell_kept hbw ab hcell;have hgood:=HX.out _ (List.getElem_mem hp);have hdr:ws.drop i=ws[i]::ws.drop (i+1):=List.drop_eq_getElem_cons hp;obtain⟨x,hx⟩:∃x,ws[i]=x:=⟨_,rfl⟩;rw[hx]at hcell2 hdr hgood;obtain⟨X,hX,hXl,hXs⟩:=bf x;rw[hX]at hcell2;have hXm:X.size<=1000000:=by have:=hgood.2;omega
    have HP:=ad (show Frm.put X.data.toList=(Frm.bH x,0)by rw[hXl];exact Frm.jk hgood);have hfl:(Frm.bH x).length<=8008:=by rw[Frm.gy];have:=hgood.2;omega
    have HN:=ad (show(acc++Frm.bH x)++(ws.drop (i+1)).flatMap Frm.bH=ws.flatMap Frm.bH by rw[<-HA.out,hdr];simp);clear hcell hdr hgood hx hX hXl hXs HA HX hc;go_wp2_with fail;refine(iB X wr (by omega)).mono ?_;rintro e w2 ⟨r,cc,rfl,HR,hr8,b2⟩;have hR:=HR.out;rw[HP.out]at hR;simp only[Prod.mk.injEq]at hR;obtain⟨hr,rfl⟩:=hR;have hI2:=hI.next b2;have hbw2:=Below.up hbw ab b2;have hs2:=hbw2.size;rw[hr]at HN hfl;rw[<-Lib.size_eq]at hfl;clear HR HP hr b2;go_wp2_with fail;refine(writeString w.heap.size w.heap.size acc r w2 hI2 (by omega) (by omega)).mono ?_;rintro e w3 ⟨rfl,h3,b3,_⟩;have hbw3:=hbw2.trans b3;have hl3:(acc++r.data.toList).length<=(i+1)*8008:=by rw[List.length_append,<-Lib.size_eq];omega
    clear b3;go_wp2;exact⟨⟨i+1,_,by go_num,h3,hbw3,HN.out,hl3,by omega⟩,by simp[intOf];omega⟩
   ·obtain rfl:i=ws.length:=by omega
    have HQ:=ad (show acc=ws.flatMap Frm.bH by rw[<-HA.out,List.drop_length];simp);clear HA;go_wp2_with fail;refine(iL w.heap.size w.heap.size _ _ hI (by omega)).mono ?_;rintro e w3 ⟨rfl,b3⟩;go_wp2
    go_ret2
    exact⟨_,rfl,HQ.out,hbw.trans b3⟩
end Go.Proofs.YtmgmknmaepjnoaaGreatDoor
