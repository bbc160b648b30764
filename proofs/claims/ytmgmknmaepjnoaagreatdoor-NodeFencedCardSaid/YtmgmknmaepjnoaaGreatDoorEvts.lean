/-
  The walks of event.Right, bytes, Fits and its closures, slices.ContainsFunc over events.
-/
import Derived.Test.YtmgmknmaepjnoaaGreatDoorFrms
import Derived.Deep.RegionHeld3
import Derived.BigRegion
import Derived.Deep.DeepCutAuto
namespace Go.Proofs.YtmgmknmaepjnoaaGreatDoor
open Go.RowKit Go.Shelf Proofs.Tryz
theorem vq {r:ByteArray} {l:List UInt8} (h:r.data.toList=l):r=⟨l.toArray⟩:=by
 apply ByteArray.ext;rw[<-h]
theorem nR (s:ByteArray) (w:World) (hs:s.size<=1000000000000) :
 Calls prog 129 #[.string s] w fun e w'=>e=.returned (.string ⟨(Num.eX s.data.toList).toArray⟩)/\Below w.heap.size w w':=by
 refine(sr s w hs).mono ?_;rintro e w' ⟨r,rfl,HR,_,hb⟩;exact⟨by rw[vq HR.out],hb⟩
theorem I3 {w0 wa wb:World} {a b:Addr} {u v:Value} (h:wa.cell? a=some u/\wa.cell? b=some v/\Below w0.heap.size w0 wa) (hb:Below wa.heap.size wa wb):wb.cell? a=some u/\wb.cell? b=some v/\Below w0.heap.size w0 wb :=
 ⟨cell_kept hb ab h.1,cell_kept hb ab h.2.1,Below.up h.2.2 ab hb⟩
set_option maxHeartbeats 1000000 in
set_option maxRecDepth 100000 in
theorem vK (k d:ByteArray) (w:World) (hk:k.size<=1000000) (hd:d.size<=1000000) :
 Calls prog 182 #[.agg #[.string k,.string d]] w fun e w'=>∃r:ByteArray,e=.returned (.string r)/\Hid (r.data.toList=Evt.fX ⟨k.data.toList,d.data.toList⟩)/\r.size<=k.size+d.size+12/\Below w.heap.size w w':=by
 obtain⟨A,hA,hA2,hA3⟩:=bf (Num.eX k.data.toList);obtain⟨B,hB,hB2,hB3⟩:=bf (Num.eX d.data.toList);obtain⟨R,hR,hR2,hR3⟩:=bf (Evt.fX ⟨k.data.toList,d.data.toList⟩);have c1:=nR k;have c2:=nR d;rw[hA]at c1;rw[hB]at c2;have l1:=Evt.ik k.data.toList;have l2:=Evt.ik d.data.toList;rw[<-hA3,<-Lib.size_eq]at l1;rw[<-hB3,<-Lib.size_eq]at l2;have hadd:∀w,(Op.stringOp .add A B).run prog w=.ok (.string R) w:=fun w=>cK w A B R (by omega) (by rw[hA2,hB2,hR2];rfl);have hRs:R.size<=k.size+d.size+12:=by rw[hR3];simp only[Evt.fX,List.length_append];rw[<-hA3,<-hB3];omega
 have HR:=ad hR2;clear hA hB hA2 hB2 hA3 hB3 hR hR2 hR3;go_enter func182,ntmps182;go_wp2;have h0:(w.alloc (.cells #[.string k,.string d] 122)).cell? ⟨w.heap.size,0,none⟩=some (.string k):=by simp
 have h1:(w.alloc (.cells #[.string k,.string d] 122)).cell? ⟨w.heap.size,1,none⟩=some (.string d):=by simp
 have hb0:Below w.heap.size w (w.alloc (.cells #[.string k,.string d] 122)):=(ae _ _).alloc ab _;obtain⟨W,hW⟩:∃W,w.alloc (.cells #[.string k,.string d] 122)=W:=⟨_,rfl⟩;rw[hW]at h0 h1 hb0 ⊢;clear hW
 go_region_held3 (fun w'=>w'.cell? ⟨w.heap.size,0,none⟩=some (.string k)/\w'.cell? ⟨w.heap.size,1,none⟩=some (.string d)/\Below w.heap.size w w') (first|exact⟨h0,h1,hb0.drew⟩|exact I3 (by assumption) hb)
  (first|(go_at_call 129;refine(c1 _ (by omega)).mono ?_;rintro e w' ⟨rfl,hb⟩)|(go_at_call 129;refine(c2 _ (by omega)).mono ?_;rintro e w' ⟨rfl,hb⟩))
 go_wp2;go_ret;exact⟨R,rfl,HR,hRs,And.right (And.right (by assumption))⟩
theorem Fs (k d:ByteArray) (w:World) (hE:Env w) (hk:k.size<=1000000) :
 Calls prog 134 #[.agg #[.string k,.string d]] w fun e w'=>e=.returned (.bool (Evt.right ⟨k.data.toList,d.data.toList⟩))/\Below w.heap.size w w':=by
 have HZ:=ad (aT d);have hb0:Below w.heap.size w (w.alloc (.cells #[.string k,.string d] 122)):=(ae _ _).alloc ab _;by_cases h:(d.size:Int)<=200
 ·have HF:=ad (show Evt.right ⟨k.data.toList,d.data.toList⟩=Txt.name k.data.toList by rw[Evt.right,decide_eq_true (by simp only;rw[<-HZ.out];omega)];rfl);go_enter func134,ntmps134;go_wp2_with fail;refine(mL k _ (hE.next hb0) (by omega)).mono ?_;rintro e w1 ⟨rfl,b1⟩;rw[<-HF.out];go_wp2;go_ret;exact⟨rfl,Below.up hb0 ab b1⟩
 ·have HF:=ad (show Evt.right ⟨k.data.toList,d.data.toList⟩=false by rw[Evt.right,decide_eq_false (by simp only;rw[<-HZ.out];omega)];rfl);go_enter func134,ntmps134;go_wp2;go_ret;exact⟨dR (by rw[HF.out]),hb0⟩
theorem xm (n:Int) (w:World):Calls prog 161 #[.int .i64 n] w fun e w'=>e=.returned (.bool (Evt.number n))/\w=w':=by
 go_enter func161,ntmps161;go_wp2
 all_goals (go_ret;refine⟨dR (vg ?_),rfl⟩;rw[Evt.fw];simp;try omega)
theorem Gj (k d:ByteArray) (w:World) (hE:Env w) (hk:k.size<=1000000) :
 Calls prog 162 #[.agg #[.string k,.string d]] w fun e w'=>e=.returned (.bool (!Evt.right ⟨k.data.toList,d.data.toList⟩))/\Below w.heap.size w w':=by
 have hb0:Below w.heap.size w (w.alloc (.cells #[.string k,.string d] 122)):=(ae _ _).alloc ab _;go_enter func162,ntmps162;go_wp2_with fail;refine(Fs k d _ (hE.next hb0) hk).mono ?_;rintro e w1 ⟨rfl,b1⟩;go_wp2;go_ret;exact⟨rfl,Below.up hb0 ab b1⟩
def cZ (es:List Evt.Event):List Value:=es.flatMap fun e=>[.string ⟨e.kind.toArray⟩,.string ⟨e.data.toArray⟩]
theorem pA:∀(es:List Evt.Event) (i:Nat) (hi:i<es.length),(cZ es)[i*2]?=some (.string ⟨es[i].kind.toArray⟩)/\(cZ es)[i*2+1]?=some (.string ⟨es[i].data.toArray⟩)
 |e::es,0,_=>⟨rfl,rfl⟩
 |e::es,i+1,hi=>by
  have:=pA es i (by simpa using hi);have e1:cZ (e::es)=.string ⟨e.kind.toArray⟩::.string ⟨e.data.toArray⟩::cZ es:=rfl;rw[e1,show(i+1)*2=i*2+1+1 by omega,show i*2+1+1+1=(i*2+1)+1+1 by omega];simpa using this
def dp (w:World) (v:Value) (es:List Evt.Event):Prop:=Cells w v 2 es.length (cZ es)
theorem vL {w:World} {v:Value} {es:List Evt.Event} (h:dp w v es) (i:Nat) (hi:i<es.length) :
 ∃b o c,v=.slice (some ⟨b,o,none⟩) es.length c/\w.cell? ⟨b,o+i*2,none⟩=some (.string ⟨es[i].kind.toArray⟩)/\w.cell? ⟨b,o+i*2+1,none⟩=some (.string ⟨es[i].data.toArray⟩):=by
 rcases h.2 with⟨h0,_⟩|⟨b,o,c,h1,h2⟩
 ·omega
 ·exact⟨b,o,c,h1,h2 _ _ (pA es i hi).1,h2 _ _ (pA es i hi).2⟩
def Small (es:List Evt.Event):Prop:=∀e∈es,e.kind.length<=1000000/\e.data.length<=1000000
set_option maxHeartbeats 1000000 in
set_option maxRecDepth 100000 in
theorem yl (v:Value) (es:List Evt.Event) (w:World) (hE:Env w) (hc:dp w v es) (hn:es.length<=1000000) (hx:Small es) :
 Calls prog 185 #[v,.func (.func 162) #[] #[]] w fun e w'=>∃r:Int,e=.returned (.int .i64 r)/\Hid (decide (0<=r)=!es.all Evt.right)/\Below w.heap.size w w':=by
 rcases cC hc with⟨h0,a0,c0,rfl⟩|⟨b,o,c,rfl⟩
 ·go_enter func185,ntmps185;go_wp2
  go_loopw [8] (fun lv wr=>lv=.int .i64 0/\wr=w) (fun _ _=>0)
  case atStart=>exact⟨rfl,rfl⟩
  case round =>
   obtain⟨rfl,rfl⟩:=hrel;have HN:=ad (aP h0);clear h0;go_wp2;go_ret;exact⟨-1,rfl,by rw[HN.out];rfl,ae _ _⟩
 ·have HX:=ad hx;have HC:=ad hc;clear hx hc;go_enter func185,ntmps185;go_wp2
  go_loopw [8] (fun lv wr=>∃i:Nat,lv=.int .i64 i/\i<=es.length/\Below w.heap.size w wr/\Env wr/\(es.drop i).all Evt.right=es.all Evt.right) (fun lv _=>es.length-(intOf lv).toNat)
  case atStart=>exact⟨0,rfl,by omega,ae _ _,hE,rfl⟩
  case round =>
   obtain⟨i,rfl,hi,hbw,hEr,hall⟩:=hrel;have HA:=ad hall;clear hall;by_cases hp:i<es.length
   ·obtain⟨b',o',c',hv,hc1,hc2⟩:=vL HC.out i hp;cases hv;have hc1:=cell_kept hbw ab hc1;have hc2:=cell_kept hbw ab hc2;have hsm:=HX.out _ (List.getElem_mem hp);have hdr:es.drop i=es[i]::es.drop (i+1):=List.drop_eq_getElem_cons hp;obtain⟨x,hx⟩:∃x,es[i]=x:=⟨_,rfl⟩;rw[hx]at hc1 hc2 hsm hdr;obtain⟨K,hK,hK2,hK3⟩:=bf x.kind;obtain⟨D,hD,hD2,hD3⟩:=bf x.data;rw[hK]at hc1;rw[hD]at hc2;have hKs:K.size<=1000000:=by rw[hK3];exact hsm.1
    have HR:=ad (show(es.drop i).all Evt.right=(Evt.right ⟨K.data.toList,D.data.toList⟩&&(es.drop (i+1)).all Evt.right)by rw[hdr,hK2,hD2];rfl);clear hsm hdr hx hK hD hK2 hD2 hK3 hD3;go_wp2_with fail;refine(Gj K D wr hEr hKs).mono ?_;rintro e w1 ⟨rfl,b1⟩;have hbw1:=Below.up hbw ab b1;have hE1:=hEr.next b1;cases hr:Evt.right ⟨K.data.toList,D.data.toList⟩with
    |true =>
     have HN:=ad (show(es.drop (i+1)).all Evt.right=es.all Evt.right by rw[<-HA.out,HR.out,hr];rfl);clear HR HA hr b1;go_wp2;exact⟨⟨i+1,by go_num,by omega,hbw1,hE1,HN.out⟩,by simp[intOf];omega⟩
    |false =>
     have HN:=ad (show es.all Evt.right=false by rw[<-HA.out,HR.out,hr];rfl);clear HR HA hr b1;go_wp2;go_ret;exact⟨_,rfl,(show decide ((0:Int)<=(i:Int))=!es.all Evt.right by rw[HN.out];exact decide_eq_true (by omega)),hbw1⟩
   ·obtain rfl:i=es.length:=by omega
    have HN:=ad (show es.all Evt.right=true by rw[<-HA.out,List.drop_length];rfl);clear HA;go_wp2;go_ret;exact⟨-1,rfl,by rw[HN.out];rfl,hbw⟩
theorem tD (v:Value) (es:List Evt.Event) (w:World) (hE:Env w) (hc:dp w v es) (hn:es.length<=1000000) (hx:Small es) :
 Calls prog 132 #[v,.func (.func 162) #[] #[]] w fun e w'=>e=.returned (.bool (!es.all Evt.right))/\Below w.heap.size w w':=by
 go_enter func132,ntmps132;go_wp2_with fail;refine(yl v es w hE hc hn hx).mono ?_;rintro e w1 ⟨r,rfl,HR,b1⟩;go_wp2;go_ret;exact⟨dR HR.out,b1⟩
set_option maxHeartbeats 2000000 in
set_option maxRecDepth 100000 in
theorem px (S:ByteArray) (ex se sq:Int) (v:Value) (es:List Evt.Event) (w:World) (hE:Env w) (hS:S.size<=1000000) (hc:dp w v es) (hn:es.length<=1000000) (hx:Small es) :
 Calls prog 107 #[.agg #[.string S,.int .i64 ex,.int .i64 se,.int .i64 sq,v]] w fun e w'=>e=.returned (.int .i64 (Evt.fits ⟨S.data.toList,ex,se,sq,es⟩:Nat))/\Below w.heap.size w w':=by
 have HF:=ad (show Evt.fits ⟨S.data.toList,ex,se,sq,es⟩=if (Txt.name S.data.toList&&decide (-1<=ex)&&decide (ex<=274877906944)&&Evt.number se&&Evt.number sq&&!es.isEmpty)=false then 1 else if 8<es.length then 4 else if es.all Evt.right=false then 1 else 0 from rfl);obtain⟨F,hF⟩:∃F,Evt.fits ⟨S.data.toList,ex,se,sq,es⟩=F:=⟨_,rfl⟩;rw[hF]at HF ⊢;clear hF;have HX:=ad hx;clear hx;obtain⟨sa,sl,sc,rfl,hsl⟩:∃sa sl sc,v=.slice sa sl sc/\sl=es.length:=by
  rcases cC hc with⟨h0,a0,c0,rfl⟩|⟨b,o,c,rfl⟩
  ·exact⟨a0,0,c0,rfl,h0.symm⟩
  ·exact⟨_,_,_,rfl,rfl⟩
 have HSL:=ad hsl;have hsb:sl<=1000000:=by omega
 clear hsl;have hb0:Below w.heap.size w (w.alloc (.cells #[.string S,.int .i64 ex,.int .i64 se,.int .i64 sq,.slice sa sl sc] 38)):=(ae _ _).alloc ab _;have k0:(w.alloc (.cells #[.string S,.int .i64 ex,.int .i64 se,.int .i64 sq,.slice sa sl sc] 38)).cell? ⟨w.heap.size,1,none⟩=some (.int .i64 ex):=by simp
 have k1:(w.alloc (.cells #[.string S,.int .i64 ex,.int .i64 se,.int .i64 sq,.slice sa sl sc] 38)).cell? ⟨w.heap.size,2,none⟩=some (.int .i64 se):=by simp
 have k2:(w.alloc (.cells #[.string S,.int .i64 ex,.int .i64 se,.int .i64 sq,.slice sa sl sc] 38)).cell? ⟨w.heap.size,3,none⟩=some (.int .i64 sq):=by simp
 have k3:(w.alloc (.cells #[.string S,.int .i64 ex,.int .i64 se,.int .i64 sq,.slice sa sl sc] 38)).cell? ⟨w.heap.size,4,none⟩=some (.slice sa sl sc):=by simp
 have HK0:=ad k0;have HK1:=ad k1;have HK2:=ad k2;have HK3:=ad k3;clear k0 k1 k2 k3;go_enter func107,ntmps107;go_wp2_with fail;refine(mL S _ (hE.next hb0) (by omega)).mono ?_;rintro e w1 ⟨rfl,b1⟩;have hbw:=Below.up hb0 ab b1;have hE1:=hE.next hbw;have k0:=cell_kept b1 ab HK0.out;have k1:=cell_kept b1 ab HK1.out;have k2:=cell_kept b1 ab HK2.out;have k3:=cell_kept b1 ab HK3.out;have hc1:=Cells.next hc hbw;have HC:=ad hc1;clear HK0 HK1 HK2 HK3 hb0 b1 hc hc1;cases hnm:Txt.name S.data.toList with
 |false =>
  have HR:=ad (show F=1 by rw[HF.out,hnm];rfl);clear hnm HF;go_wp2;go_ret;exact⟨iZ (by rw[HR.out];rfl),hbw⟩
 |true =>
  rw[hnm]at HF;clear hnm;by_cases h1:ex < -1
  ·have HR:=ad (show F=1 by rw[HF.out,decide_eq_false (show ¬-1<=ex by omega)];rfl);clear HF;go_wp2;go_ret;exact⟨iZ (by rw[HR.out];rfl),hbw⟩
  ·by_cases h2:274877906944<ex
   ·have HR:=ad (show F=1 by rw[HF.out,decide_eq_false (show ¬ex<=274877906944 by omega)];simp);clear HF;go_wp2;go_ret;exact⟨iZ (by rw[HR.out];rfl),hbw⟩
   ·have HF2:=ad (show F=if (Evt.number se&&Evt.number sq&&!es.isEmpty)=false then 1 else if 8<es.length then 4 else if es.all Evt.right=false then 1 else 0 by
     rw[HF.out,decide_eq_true (show -1<=ex by omega),decide_eq_true (show ex<=274877906944 by omega)];simp only[Bool.true_and])
    clear HF;go_wp2_with fail;refine(xm se w1).mono ?_;rintro e w2 ⟨rfl,rfl⟩;cases hns:Evt.number se with
    |false =>
     have HR:=ad (show F=1 by rw[HF2.out,hns];rfl);clear hns HF2;go_wp2;go_ret;exact⟨iZ (by rw[HR.out];rfl),hbw⟩
    |true =>
     rw[hns]at HF2;clear hns;go_wp2_with fail;refine(xm sq w1).mono ?_;rintro e w2 ⟨rfl,rfl⟩;cases hnq:Evt.number sq with
     |false =>
      have HR:=ad (show F=1 by rw[HF2.out,hnq];rfl);clear hnq HF2;go_wp2;go_ret;exact⟨iZ (by rw[HR.out];rfl),hbw⟩
     |true =>
      rw[hnq]at HF2;clear hnq;by_cases h0:sl=0
      ·have HR:=ad (show F=1 by rw[HF2.out,aP (show es.length=0 by have:=HSL.out;omega)];rfl);have h0b:((sl:Int)==0)=true:=by simp[h0]
       clear HF2 h0;go_wp2;go_ret;exact⟨iZ (by rw[HR.out];rfl),hbw⟩
      ·have h0b:((sl:Int)==0)=false:=by simp;omega
       have HF3:=ad (show F=if 8<sl then 4 else if es.all Evt.right=false then 1 else 0 by
        rw[HF2.out,HSL.out];have:es.isEmpty=false:=by
         have hsl:=HSL.out;cases es with
         |nil=>simp at hsl;omega
         |cons=>rfl
        rw[this];simp)
       clear HF2;by_cases h8:(8:Int)<sl
       ·have HR:=ad (show F=4 by rw[HF3.out,if_pos (by omega)]);clear HF3;go_wp2;go_ret;exact⟨iZ (by rw[HR.out];rfl),hbw⟩
       ·have HF4:=ad (show F=if es.all Evt.right=false then 1 else 0 by rw[HF3.out,if_neg (by omega)]);clear HF3;go_wp2_with fail;refine(tD _ es w1 hE1 HC.out hn HX.out).mono ?_;rintro e w3 ⟨rfl,b3⟩;have hbw3:=Below.up hbw ab b3;cases hal:es.all Evt.right with
        |true =>
         have HR:=ad (show F=0 by rw[HF4.out,hal];rfl);clear hal HF4;go_wp2;go_ret;exact⟨iZ (by rw[HR.out];rfl),hbw3⟩
        |false =>
         have HR:=ad (show F=1 by rw[HF4.out,hal];rfl);clear hal HF4;go_wp2;go_ret;exact⟨iZ (by rw[HR.out];rfl),hbw3⟩
theorem DB (n:Int) (w:World) :
 Calls prog 181 #[.int .i64 n] w fun e w'=>e=.returned (.string ⟨(Num.kG n).toArray⟩)/\Below w.heap.size w w':=by
 refine(DC n w).mono ?_;rintro e w' ⟨r,rfl,HR,_,hb⟩;exact⟨by rw[vq HR.out],hb⟩
theorem I2 {w0 wa wb:World} {B:Nat} {a1 a2 a3 a4 a5:Addr} {u1 u2 u3 u4 u5:Value} (h:wa.cell? a1=some u1/\wa.cell? a2=some u2/\wa.cell? a3=some u3/\wa.cell? a4=some u4/\wa.cell? a5=some u5/\Below w0.heap.size w0 wa) (hb:Below B wa wb) (hB:w0.heap.size<=B)
 (h1:a1.block<B) (h2:a2.block<B) (h3:a3.block<B) (h4:a4.block<B) (h5:a5.block<B) :
 wb.cell? a1=some u1/\wb.cell? a2=some u2/\wb.cell? a3=some u3/\wb.cell? a4=some u4/\wb.cell? a5=some u5/\Below w0.heap.size w0 wb :=
 ⟨(hb.cell h1).trans h.1,(hb.cell h2).trans h.2.1,(hb.cell h3).trans h.2.2.1,(hb.cell h4).trans h.2.2.2.1,(hb.cell h5).trans h.2.2.2.2.1,h.2.2.2.2.2.trans (hb.mono hB)⟩
theorem uI {w0 wa wb:World} {a1 a2 a3 a4 a5:Addr} {u1 u2 u3 u4 u5:Value} (h:wa.cell? a1=some u1/\wa.cell? a2=some u2/\wa.cell? a3=some u3/\wa.cell? a4=some u4/\wa.cell? a5=some u5/\Below w0.heap.size w0 wa) (hb:Below wa.heap.size wa wb) :
 wb.cell? a1=some u1/\wb.cell? a2=some u2/\wb.cell? a3=some u3/\wb.cell? a4=some u4/\wb.cell? a5=some u5/\Below w0.heap.size w0 wb :=
 I2 h hb h.2.2.2.2.2.size (World.block_lt_of_cell? _ _ h.1) (World.block_lt_of_cell? _ _ h.2.1) (World.block_lt_of_cell? _ _ h.2.2.1) (World.block_lt_of_cell? _ _ h.2.2.2.1) (World.block_lt_of_cell? _ _ h.2.2.2.2.1)
set_option maxHeartbeats 4000000 in
set_option maxRecDepth 100000 in
theorem qK (S:ByteArray) (ex se sq:Int) (v:Value) (es:List Evt.Event) (w:World) (hE:Env w) (hS:S.size<=1000000) (hc:dp w v es) (hn:es.length<=1000000) (hx:Small es) :
 Calls prog 128 #[.agg #[.string S,.int .i64 ex,.int .i64 se,.int .i64 sq,v]] w fun e w'=>∃r:ByteArray,e=.returned (.string r)/\Hid (r.data.toList=Evt.dm ⟨S.data.toList,ex,se,sq,es⟩)/\Below w.heap.size w w':=by
 have HX:=ad hx;obtain⟨sa,sl,sc,rfl,hsl⟩:∃sa sl sc,v=.slice sa sl sc/\sl=es.length:=by
  rcases cC hc with⟨h0,a0,c0,rfl⟩|⟨b,o,c,rfl⟩
  ·exact⟨a0,0,c0,rfl,h0.symm⟩
  ·exact⟨_,_,_,rfl,rfl⟩
 have HSL:=ad hsl;have hsb:sl<=1000000:=by omega
 clear hsl;have hb0:Below w.heap.size w (w.alloc (.cells #[.string S,.int .i64 ex,.int .i64 se,.int .i64 sq,.slice sa sl sc] 38)):=(ae _ _).alloc ab _;have k:(w.alloc (.cells #[.string S,.int .i64 ex,.int .i64 se,.int .i64 sq,.slice sa sl sc] 38)).heap[w.heap.size]?=some (.cells #[.string S,.int .i64 ex,.int .i64 se,.int .i64 sq,.slice sa sl sc] 38 (0,0)):=heap_alloc_new w _;have HK:=ad k;clear k;have hf:=px S ex se sq _ es _ (hE.next hb0) hS (Cells.next hc hb0) hn hx;obtain⟨F,hF⟩:∃F,Evt.fits ⟨S.data.toList,ex,se,sq,es⟩=F:=⟨_,rfl⟩;rw[hF]at hf;have HFF:=ad hf;have HF:=ad hF;clear hf hF hx;go_enter func128,ntmps128;go_wp2_with fail;refine HFF.out.mono ?_;rintro e w1 ⟨rfl,b1⟩;have hbw:=Below.up hb0 ab b1;have hE1:=hE.next hbw;have hk:=au b1 ab HK.out;have HC:=ad hc;clear HFF HK hb0 b1 hc;by_cases hF0:F=0
 ·have hfb:((F:Int) != 0)=false:=by simp[hF0]
  have HP:=ad (show Evt.dm ⟨S.data.toList,ex,se,sq,es⟩=Evt.aQ ⟨S.data.toList,ex,se,sq,es⟩by rw[Evt.dm,HF.out,if_neg (by simp[hF0])]);have hfz:=Evt.iI (by rw[HF.out];exact hF0);have hlen8:es.length<=8:=hfz.2.2.2.2.2.1;have hright:=hfz.2.2.2.2.2.2;have HRT:=ad hright;clear hF0 HF hfz hright;obtain⟨A1,hA1,e1,s1⟩:=bf (Num.eX S.data.toList);obtain⟨A2,hA2,e2,s2⟩:=bf (Num.kG ex);obtain⟨A3,hA3,e3,s3⟩:=bf (Num.put (Num.held se));obtain⟨A4,hA4,e4,s4⟩:=bf (Num.put (Num.held sq));obtain⟨A5,hA5,e5,s5⟩:=bf (Num.put (Num.held sl));obtain⟨B1,_,f1,t1⟩:=bf (A1.data.toList++A2.data.toList);obtain⟨B2,_,f2,t2⟩:=bf (B1.data.toList++A3.data.toList);obtain⟨B3,_,f3,t3⟩:=bf (B2.data.toList++A4.data.toList);obtain⟨B4,_,f4,t4⟩:=bf (B3.data.toList++A5.data.toList);have c1:=nR S;have c2:=DB ex;have c3:=dF se;have c4:=dF sq;have c5:=dF (sl:Int);rw[hA1]at c1;rw[hA2]at c2;rw[hA3]at c3;rw[hA4]at c4;rw[hA5]at c5;have l1:A1.size<=1000006:=by have:=Evt.ik S.data.toList;rw[s1];rw[<-Lib.size_eq]at this;omega
  have l2:A2.size<=6:=by rw[s2];exact Num.ct _ (Num.tG ex)
  have l3:A3.size<=6:=by rw[s3];exact Num.ct _ (Num.cB se)
  have l4:A4.size<=6:=by rw[s4];exact Num.ct _ (Num.cB sq)
  have l5:A5.size<=6:=by rw[s5];exact Num.ct _ (Num.cB sl)
  rw[List.length_append,<-Lib.size_eq,<-Lib.size_eq]at t1 t2 t3 t4;have a1:∀w,(Op.stringOp .add A1 A2).run prog w=.ok (.string B1) w:=fun w=>cK w _ _ _ (by omega) f1.symm;have a2:∀w,(Op.stringOp .add B1 A3).run prog w=.ok (.string B2) w:=fun w=>cK w _ _ _ (by omega) f2.symm;have a3:∀w,(Op.stringOp .add B2 A4).run prog w=.ok (.string B3) w:=fun w=>cK w _ _ _ (by omega) f3.symm;have a4:∀w,(Op.stringOp .add B3 A5).run prog w=.ok (.string B4) w:=fun w=>cK w _ _ _ (by omega) f4.symm;have hB4:B4.size<=1000100:=by omega
  have HB:=ad (show B4.data.toList++(es.drop 0).flatMap Evt.fX=Evt.dm ⟨S.data.toList,ex,se,sq,es⟩by
   rw[HP.out,Evt.aQ,f4,f3,f2,f1,e1,e2,e3,e4,e5,HSL.out];simp)
  clear e1 e2 e3 e4 e5 s1 s2 s3 s4 s5 f1 f2 f3 f4 t1 t2 t3 t4 hA1 hA2 hA3 hA4 hA5 HP;have hlt:w.heap.size<w1.heap.size:=(aA.1 hk).1;have kk:=(Below.heap_alloc w1 (.cells #[.pointer none,.slice none 0 0] 169) _ hlt).trans hk;have hI:=iK w1;have hbw2:Below w.heap.size w (w1.alloc (.cells #[.pointer none,.slice none 0 0] 169)):=hbw.alloc hbw.size _;have hE2:=hE1.next ((ae _ w1).alloc ab (.cells #[.pointer none,.slice none 0 0] 169));have hsz2:(w1.alloc (.cells #[.pointer none,.slice none 0 0] 169)).heap.size=w1.heap.size+1:=by simp
  clear hk;go_wp2;obtain⟨W,hW⟩:∃W,w1.alloc (.cells #[.pointer none,.slice none 0 0] 169)=W:=⟨_,rfl⟩;rw[hW]at hI kk hbw2 hE2 hsz2 ⊢;clear hW;have k0:W.cell? ⟨w.heap.size,0,none⟩=some (.string S):=aq kk rfl;have k1:W.cell? ⟨w.heap.size,1,none⟩=some (.int .i64 ex):=aq kk rfl;have k2:W.cell? ⟨w.heap.size,2,none⟩=some (.int .i64 se):=aq kk rfl;have k3:W.cell? ⟨w.heap.size,3,none⟩=some (.int .i64 sq):=aq kk rfl;have k4:W.cell? ⟨w.heap.size,4,none⟩=some (.slice sa sl sc):=aq kk rfl;have hI:fP w1.heap.size w1.heap.size [] W.drew:=hI.next ((ae _ W).drew);have hz:w1.heap.size<=W.drew.heap.size:=by show w1.heap.size<=W.heap.size;omega
  have hbs:=hbw.size;clear kk hE1
  go_region_held3 (fun w'=>w'.cell? ⟨w.heap.size,0,none⟩=some (.string S)/\w'.cell? ⟨w.heap.size,1,none⟩=some (.int .i64 ex)/\w'.cell? ⟨w.heap.size,2,none⟩=some (.int .i64 se)/\w'.cell? ⟨w.heap.size,3,none⟩=some (.int .i64 sq)/\w'.cell? ⟨w.heap.size,4,none⟩=some (.slice sa sl sc)/\Below w.heap.size w w')
   (first|exact⟨k0,k1,k2,k3,k4,hbw2.drew⟩|exact uI (by assumption) hb|exact I2 (by assumption) hb hbs hlt hlt hlt hlt hlt)
   (first
    |(go_at_call 129;refine(c1 _ (by omega)).mono ?_;rintro e w' ⟨rfl,hb⟩;have hI:=hI.next hb;have hz:=Nat.le_trans hz hb.size)
    |(go_at_call 181;refine(c2 _).mono ?_;rintro e w' ⟨rfl,hb⟩;have hI:=hI.next hb;have hz:=Nat.le_trans hz hb.size)
    |(go_at_call_of 84 (Value.int .i64 se);refine(c3 _).mono ?_;rintro e w' ⟨rfl,hb⟩;have hI:=hI.next hb;have hz:=Nat.le_trans hz hb.size)
    |(go_at_call_of 84 (Value.int .i64 sq);refine(c4 _).mono ?_;rintro e w' ⟨rfl,hb⟩;have hI:=hI.next hb;have hz:=Nat.le_trans hz hb.size)
    |(go_at_call_of 84 (Value.int .i64 (sl:Int));refine(c5 _).mono ?_;rintro e w' ⟨rfl,hb⟩;have hI:=hI.next hb;have hz:=Nat.le_trans hz hb.size)
    |(go_at_call 83;refine(writeString w1.heap.size w1.heap.size [] B4 _ hI (by simp;omega) hz).mono ?_;rintro e w' ⟨rfl,hI,hb,_⟩))
  have hq:w'.cell? ⟨w.heap.size,0,none⟩=some (.string S)/\w'.cell? ⟨w.heap.size,1,none⟩=some (.int .i64 ex)/\w'.cell? ⟨w.heap.size,2,none⟩=some (.int .i64 se)/\w'.cell? ⟨w.heap.size,3,none⟩=some (.int .i64 sq)/\w'.cell? ⟨w.heap.size,4,none⟩=some (.slice sa sl sc)/\Below w.heap.size w w':=by assumption
  have hk4:=hq.2.2.2.2.1;have hbN:=hq.2.2.2.2.2;have hz':=Nat.le_trans hz hb.size;rw[List.nil_append]at hI;have h0:B4.data.toList.length<=1000100:=by rw[<-Lib.size_eq];exact hB4
  clear hq c1 c2 c3 c4 c5 a1 a2 a3 a4 k0 k1 k2 k3 k4;go_wp2
  go_loopw [33] (fun lv wr=>∃(i:Nat) (acc:List UInt8),lv=.int .i64 i/\fP w1.heap.size w1.heap.size acc wr/\Below w.heap.size w wr/\w1.heap.size<=wr.heap.size/\acc++(es.drop i).flatMap Evt.fX=Evt.dm ⟨S.data.toList,ex,se,sq,es⟩/\acc.length<=1000100+i*340/\i<=sl) (fun lv _=>sl-(intOf lv).toNat)
  case atStart=>exact⟨0,B4.data.toList,rfl,hI,hbN,hz',HB.out,by omega,by omega⟩
  case round =>
   obtain⟨i,acc,rfl,hIr,hbr,hzr,hacc,hal,hi⟩:=hrel;have HA:=ad hacc;clear hacc;by_cases hp:i<sl
   ·obtain⟨b,o,c,hv,hc1,hc2⟩:=vL HC.out i (by rw[<-HSL.out];exact hp);cases hv;have hc1:=cell_kept hbr ab hc1;have hc2:=cell_kept hbr ab hc2;have hlt2:i<es.length:=by rw[<-HSL.out];exact hp
    have hsm:=HRT.out _ (List.getElem_mem hlt2);have hdr:es.drop i=es[i]::es.drop (i+1):=List.drop_eq_getElem_cons hlt2;obtain⟨x,hx⟩:∃x,es[i]=x:=⟨_,rfl⟩;rw[hx]at hc1 hc2 hsm hdr;obtain⟨K,hK,hK2,hK3⟩:=bf x.kind;obtain⟨D,hD,hD2,hD3⟩:=bf x.data;rw[hK]at hc1;rw[hD]at hc2;have hr:=Evt.qC hsm;have hKs:K.size<=128:=by rw[hK3];exact hr.1
    have hDs:D.size<=200:=by rw[hD3];exact hr.2
    have HR:=ad (show acc++(Evt.fX ⟨K.data.toList,D.data.toList⟩++(es.drop (i+1)).flatMap Evt.fX)=Evt.dm ⟨S.data.toList,ex,se,sq,es⟩by rw[<-HA.out,hdr,hK2,hD2];rfl);clear hsm hdr hx hK hD hK2 hD2 hK3 hD3 hr HA hlt2;go_wp2_with fail;refine(vK K D _ (by omega) (by omega)).mono ?_;rintro e w2 ⟨r,rfl,HB2,hrs,b2⟩;have hI2:=(hIr.alloc (.cells #[.string K,.string D] 122)).next b2;have hbw2:=Below.up (hbr.alloc hbr.size (.cells #[.string K,.string D] 122)) ab b2;have hz2:w1.heap.size<=w2.heap.size:=by have:=b2.size;simp at this;omega
    clear b2;go_wp2_with fail;refine(writeString w1.heap.size w1.heap.size acc r w2 hI2 (by omega) hz2).mono ?_;rintro e w3 ⟨rfl,h3,b3,_⟩;have hbw3:Below w.heap.size w w3:=hbw2.trans (b3.mono hbs);have hz3:=Nat.le_trans hz2 b3.size;have HN:=ad (show(acc++r.data.toList)++(es.drop (i+1)).flatMap Evt.fX=Evt.dm ⟨S.data.toList,ex,se,sq,es⟩by rw[<-HR.out,HB2.out];simp);have hl3:(acc++r.data.toList).length<=1000100+(i+1)*340:=by rw[List.length_append,<-Lib.size_eq];omega
    clear HR HB2 b3;go_wp2;exact⟨⟨i+1,_,by go_num,h3,hbw3,hz3,HN.out,hl3,by omega⟩,by simp[intOf];omega⟩
   ·obtain rfl:i=sl:=by omega
    have HQ:=ad (show acc=Evt.dm ⟨S.data.toList,ex,se,sq,es⟩by rw[<-HA.out,HSL.out,List.drop_length];simp);clear HA;go_wp2_with fail;refine(iL w1.heap.size w1.heap.size _ _ hIr hzr).mono ?_;rintro e w3 ⟨rfl,b3⟩;go_wp2;go_ret;exact⟨_,rfl,HQ.out,hbr.trans (b3.mono hbs)⟩
 ·have hfb:((F:Int) != 0)=true:=by simp;omega
  have HP:=ad (show Evt.dm ⟨S.data.toList,ex,se,sq,es⟩=[]by rw[Evt.dm,HF.out,if_pos hF0]);clear hF0 HF;go_wp2;go_ret;exact⟨_,rfl,by rw[HP.out];rfl,hbw⟩
def iV (b:Nat) (L:ByteArray) (c:Nat) (w:World):Prop:=w.heap[b]?=some (.cells #[.string L,.int .i64 (c:Int)] 421 (0,0))
theorem iQ {A B:World} {b:Nat} (h:A.grownBy B none):A.grownBy B (some b):=⟨h.os,h.tape,h.output,h.size,fun k hk _=>h.block k hk (by simp)⟩
theorem aF {A B C:World} {r:Option Nat} (h:A.grownBy B r) (k:B.grownBy C r):A.grownBy C r :=
 ⟨k.os.trans h.os,k.tape.trans h.tape,k.output.trans h.output,Nat.le_trans h.size k.size,fun j hj hr=>(k.block j (Nat.lt_of_lt_of_le hj h.size) hr).trans (h.block j hj hr)⟩
theorem az (W:World) (b i:Nat) (v:Value):W.grownBy (W.setCell ⟨b,i,none⟩ v) (some b) :=
 ⟨rfl,rfl,rfl,by simp,fun k _ hk=>Below.heap_setCell _ _ _ k (fun e=>hk (by rw[e]))⟩
theorem aU {A B:World} {b n:Nat} (h:A.grownBy B (some b)) (hn:n<=b) (hA:n<=A.heap.size):Below n A B :=
 (ae n A).grown h hA (fun k e=>by cases e;exact hn)
theorem iV.lt {b:Nat} {L:ByteArray} {c:Nat} {w:World} (h:iV b L c w):b<w.heap.size:=(aA.1 h).1
theorem iV.cells {b:Nat} {L:ByteArray} {c:Nat} {w:World} (h:iV b L c w):w.cell? ⟨b,0,none⟩=some (.string L)/\w.cell? ⟨b,1,none⟩=some (.int .i64 (c:Int))/\w.frozen? ⟨b,0,none⟩=false/\w.frozen? ⟨b,1,none⟩=false :=
 ⟨aq h rfl,aq h rfl,ay h 0,ay h 1⟩
theorem iV.kept {b:Nat} {L:ByteArray} {c:Nat} {w w':World} {r:Option Nat} (h:iV b L c w) (hg:w.grownBy w' r) (hr:some b≠r):iV b L c w':=(hg.block b h.lt hr).trans h
theorem iV.put {b:Nat} {L:ByteArray} {c:Nat} {w w1:World} (h:iV b L c w) (hb:Below w.heap.size w w1) (L':ByteArray) (c':Nat) :
 iV b L' c' ((w1.setCell ⟨b,0,none⟩ (.string L')).setCell ⟨b,1,none⟩ (.int .i64 (c':Int)))/\w.grownBy ((w1.setCell ⟨b,0,none⟩ (.string L')).setCell ⟨b,1,none⟩ (.int .i64 (c':Int))) (some b) :=
 ⟨av (av (au hb ab h) _) _,aF (aF (iQ (bZ hb)) (az _ _ _ _)) (az _ _ _ _)⟩
theorem zI (b:Nat) (L:ByteArray) (c k:Nat) (w:World) (h:iV b L c w) :
 Calls prog 293 #[.pointer (some ⟨b,0,none⟩),.int .i64 (k:Int)] w fun e w'=>∃c',e=.returned (.tuple #[])/\Hid (Evt.note (L.data.toList,c) k=(L.data.toList,c'))/\iV b L c' w'/\w.grownBy w' (some b):=by
 obtain⟨h0,h1,f0,f1⟩:=h.cells;by_cases hc:c=0
 ·have hcb:((c:Int)==0)=true:=by simp[hc]
  have HF:=ad (show Evt.note (L.data.toList,c) k=(L.data.toList,k)by rw[Evt.note,if_pos hc]);go_enter func293,ntmps293;go_wp2;go_end0;exact⟨k,rfl,HF,av h _,az _ _ _ _⟩
 ·have hcb:((c:Int)==0)=false:=by simp;omega
  have HF:=ad (show Evt.note (L.data.toList,c) k=(L.data.toList,c)by rw[Evt.note,if_neg hc]);go_enter func293,ntmps293;go_wp2;go_end0;exact⟨c,rfl,HF,h,iQ ⟨rfl,rfl,rfl,ab,fun _ _ _=>rfl⟩⟩
theorem o7 (b:Nat) (L:ByteArray) (c:Nat) (w:World) (h:iV b L c w) (hL:L.size<=1000000000) :
 Calls prog 297 #[.pointer (some ⟨b,0,none⟩)] w fun e w'=>∃(n:Nat) (L':ByteArray) (c':Nat),e=.returned (.int .i64 (n:Int))/\Hid (Evt.lz (L.data.toList,c)=(n,L'.data.toList,c'))/\L'.size<=L.size/\iV b L' c' w'/\w.grownBy w' (some b):=by
 obtain⟨h0,h1,f0,f1⟩:=h.cells;have hbl:=h.lt;by_cases hc:c=0
 ·have hcb:((c:Int) != 0)=false:=by simp[hc]
  go_enter func297,ntmps297;go_wp2_with fail;refine(fS L w (by omega)).mono ?_;rintro e w1 ⟨n,r,c',rfl,HT,b1⟩;have hrs:r.size<=L.size:=by have:=(Num.fH L.data.toList).2.1;rw[HT.out,<-Lib.size_eq,<-Lib.size_eq]at this;exact this
  have HF:=ad (show Evt.lz (L.data.toList,c)=(n,r.data.toList,c')by rw[Evt.lz,if_neg (by simpa using hc),HT.out]);have h0':=cell_kept b1 ab h0;have h1':=cell_kept b1 ab h1;have hk:=au b1 ab h;have f0':=ay hk 0;have f1':=ay hk 1;have HP:=ad (h.put b1 r c');clear hk h0 h1 f0 f1 HT;go_wp2;go_ret;exact⟨n,r,c',rfl,HF,hrs,HP.out.1,HP.out.2⟩
 ·have hcb:((c:Int) != 0)=true:=by simp;omega
  have HF:=ad (show Evt.lz (L.data.toList,c)=(0,L.data.toList,c)by rw[Evt.lz,if_pos hc]);go_enter func297,ntmps297;go_wp2;go_ret;exact⟨0,L,c,rfl,HF,ab,h,iQ ⟨rfl,rfl,rfl,ab,fun _ _ _=>rfl⟩⟩
theorem Df (b:Nat) (L:ByteArray) (c:Nat) (w:World) (h:iV b L c w) (hL:L.size<=1000000000) :
 Calls prog 296 #[.pointer (some ⟨b,0,none⟩)] w fun e w'=>∃(n:Int) (L':ByteArray) (c':Nat),e=.returned (.int .i64 n)/\Hid (Evt.nB (L.data.toList,c)=(n,L'.data.toList,c'))/\L'.size<=L.size/\iV b L' c' w'/\w.grownBy w' (some b):=by
 obtain⟨h0,h1,f0,f1⟩:=h.cells;have hbl:=h.lt;by_cases hc:c=0
 ·have hcb:((c:Int) != 0)=false:=by simp[hc]
  go_enter func296,ntmps296;go_wp2_with fail;refine(AU L w (by omega)).mono ?_;rintro e w1 ⟨n,r,c',rfl,HT,b1⟩;have hrs:r.size<=L.size:=by
   have h1:=(Num.fH L.data.toList).2.1;have h2:(Num.take L.data.toList).2.1=r.data.toList:=by have:=HT.out;unfold Num.jv at this;simp only[Prod.mk.injEq]at this;exact this.2.1
   rw[h2,<-Lib.size_eq,<-Lib.size_eq]at h1;exact h1
  have HF:=ad (show Evt.nB (L.data.toList,c)=(n,r.data.toList,c')by rw[Evt.nB,if_neg (by simpa using hc),HT.out]);have h0':=cell_kept b1 ab h0;have h1':=cell_kept b1 ab h1;have hk:=au b1 ab h;have f0':=ay hk 0;have f1':=ay hk 1;have HP:=ad (h.put b1 r c');clear hk h0 h1 f0 f1 HT;go_wp2;go_ret;exact⟨n,r,c',rfl,HF,hrs,HP.out.1,HP.out.2⟩
 ·have hcb:((c:Int) != 0)=true:=by simp;omega
  have HF:=ad (show Evt.nB (L.data.toList,c)=(0,L.data.toList,c)by rw[Evt.nB,if_pos hc]);go_enter func296,ntmps296;go_wp2;go_ret;exact⟨0,L,c,rfl,HF,ab,h,iQ ⟨rfl,rfl,rfl,ab,fun _ _ _=>rfl⟩⟩
theorem qA (b:Nat) (L:ByteArray) (c:Nat) (w:World) (h:iV b L c w) (hL:L.size<=1000000000) :
 Calls prog 295 #[.pointer (some ⟨b,0,none⟩)] w fun e w'=>∃(n:ByteArray) (L':ByteArray) (c':Nat),e=.returned (.string n)/\Hid (Evt.iz (L.data.toList,c)=(n.data.toList,L'.data.toList,c'))/\L'.size<=L.size/\n.size<=L.size/\iV b L' c' w'/\w.grownBy w' (some b):=by
 obtain⟨h0,h1,f0,f1⟩:=h.cells;have hbl:=h.lt;by_cases hc:c=0
 ·have hcb:((c:Int) != 0)=false:=by simp[hc]
  go_enter func295,ntmps295;go_wp2_with fail;refine(yL L 200 w (by omega)).mono ?_;rintro e w1 ⟨n,r,c',rfl,HT,b1⟩;have hle:=Num.AS L.data.toList 200;rw[HT.out]at hle;simp only[<-Lib.size_eq]at hle;have hrs:r.size<=L.size:=hle.2.2.2.1;have hns:n.size<=L.size:=hle.2.2.1;have HF:=ad (show Evt.iz (L.data.toList,c)=(n.data.toList,r.data.toList,c')by rw[Evt.iz,if_neg (by simpa using hc),HT.out]);have h0':=cell_kept b1 ab h0;have h1':=cell_kept b1 ab h1;have hk:=au b1 ab h;have f0':=ay hk 0;have f1':=ay hk 1;have HP:=ad (h.put b1 r c');clear hk h0 h1 f0 f1 HT hle;go_wp2;go_ret;exact⟨n,r,c',rfl,HF,hrs,hns,HP.out.1,HP.out.2⟩
 ·have hcb:((c:Int) != 0)=true:=by simp;omega
  have HF:=ad (show Evt.iz (L.data.toList,c)=([],L.data.toList,c)by rw[Evt.iz,if_pos hc]);go_enter func295,ntmps295;go_wp2;go_ret;exact⟨_,L,c,rfl,HF,ab,Nat.zero_le _,h,iQ ⟨rfl,rfl,rfl,ab,fun _ _ _=>rfl⟩⟩
theorem En:(prog.info? 122).map (·.size)=some 2:=by kernel_rfl
theorem mq:(prog.info? 38).map (·.size)=some 5:=by kernel_rfl
theorem fJ {P:Program} {fn:Func} {p u x:Tmp} {ty:TypeId} (h:fn.results=#[.cell p ty,.tmp u,.tmp x]) (tmps:Array Value) (w:World) (g:Nat) (t:TypeId) (cs:Array Value) (fr:Nat×Nat) (d:TypeDesc)
 (hp:tmps.getD p undef=.pointer (some ⟨g,0,none⟩)) (hg:w.heap[g]?=some (.cells cs t fr))
 (hu:P.underlying ty=some d) (hd:(match d with|.struct _|.array _ _=>true|_=>false)=true) (hi:(P.info? ty).map (·.size)=some cs.size) :
 (results fn tmps).run P w=.ok (.tuple #[.agg cs,tmps.getD u undef,tmps.getD x undef]) w:=by
 have hp':tmps[p]?.getD undef=.pointer (some ⟨g,0,none⟩):=by simpa using hp
 simp[results,h,hp',asAddr,run_loadVar_row w g t ty cs fr d hg hu hd hi]
set_option maxHeartbeats 1000000 in
theorem Dv (b:Nat) (L:ByteArray) (c:Nat) (w:World) (h:iV b L c w) (hL:L.size<=1000000000) :
 Calls prog 292 #[.pointer (some ⟨b,0,none⟩)] w fun e w'=>∃(k d L':ByteArray) (c':Nat),e=.returned (.agg #[.string k,.string d])/\Hid (Evt.ki (L.data.toList,c)=(⟨k.data.toList,d.data.toList⟩,L'.data.toList,c'))/\L'.size<=L.size/\k.size<=L.size/\d.size<=L.size/\iV b L' c' w'/\w.grownBy w' (some b):=by
 have hbl:=h.lt;have hw0:w.grownBy (w.alloc (.cells #[.string ⟨#[]⟩,.string ⟨#[]⟩] 122)) (some b):=World.grownBy_alloc w _ _;have h1:iV b L c (w.alloc (.cells #[.string ⟨#[]⟩,.string ⟨#[]⟩] 122)):=h.kept (World.grownBy_alloc w _ none) (by simp);have hE0:(w.alloc (.cells #[.string ⟨#[]⟩,.string ⟨#[]⟩] 122)).heap[w.heap.size]?=some (.cells #[.string ⟨#[]⟩,.string ⟨#[]⟩] 122 (0,0)):=heap_alloc_new w _;have HE0:=ad hE0;clear hE0;go_enter func292,ntmps292;go_wp2_with fail;refine(qA b L c _ h1 hL).mono ?_;rintro e w1 ⟨k,L1,c1,rfl,HK,hL1,hk1,hr1,g1⟩;have hEk:=(g1.block w.heap.size (by simp) (by simp;omega)).trans HE0.out;have HE1:=ad hEk;clear hEk HE0;go_wp2_with fail;refine(qA b L1 c1 w1 hr1 (by omega)).mono ?_;rintro e w2 ⟨d,L2,c2,rfl,HD,hL2,hd1,hr2,g2⟩;have hE2:=(g2.block w.heap.size (by have:=g1.size;simp at this;omega) (by simp;omega)).trans HE1.out;have ck0:w2.cell? ⟨w.heap.size,0,none⟩=some (.string ⟨#[]⟩):=aq hE2 rfl;have ck1:w2.cell? ⟨w.heap.size,1,none⟩=some (.string ⟨#[]⟩):=aq hE2 rfl;have cf0:=ay hE2 0;have cf1:=ay hE2 1;have HF:=ad (show Evt.ki (L.data.toList,c)=(⟨k.data.toList,d.data.toList⟩,L2.data.toList,c2)by rw[Evt.ki,HK.out];simp only;rw[HD.out]);have hE3:=av (i:=1) (av (i:=0) hE2 (.string k)) (.string d);have hr3:=(hr2.kept (az w2 w.heap.size 0 (.string k)) (by simp;omega)).kept (az _ w.heap.size 1 (.string d)) (by simp;omega);have hg3:w.grownBy ((w2.setCell ⟨w.heap.size,0,none⟩ (.string k)).setCell ⟨w.heap.size,1,none⟩ (.string d)) (some b):=by
  have ga:=aF (aF hw0 g1) g2;refine⟨ga.os,ga.tape,ga.output,by have:=ga.size;simp;omega,fun j hj hr=>?_⟩;rw[Below.heap_setCell _ _ _ j (by simp;omega),Below.heap_setCell _ _ _ j (by simp;omega)];exact ga.block j hj hr
 have HE3:=ad hE3;have HR3:=ad hr3;have HG3:=ad hg3;clear hE2 HE1 hE3 hr3 hg3 hw0 g1 g2;go_wp2
 (try simp only[Exit.inBlock,Exit.then])
 refine bodyPost_ret (results_cell_row rfl _ _ w.heap.size _ _ _ _ rfl HE3.out underlying122 rfl En) rfl ?_;exact⟨k,d,L2,c2,rfl,HF,by omega,hk1,by omega,HR3.out,HG3.out⟩
def iF (b:Nat) (S:ByteArray) (ex se sq:Int) (v:Value) (w:World):Prop:=w.heap[b]?=some (.cells #[.string S,.int .i64 ex,.int .i64 se,.int .i64 sq,v] 38 (0,0))
theorem iF.kept {b:Nat} {S:ByteArray} {ex se sq:Int} {v:Value} {w w':World} {r:Option Nat} (h:iF b S ex se sq v w) (hg:w.grownBy w' r) (hr:some b≠r):iF b S ex se sq v w' :=
 (hg.block b (aA.1 h).1 hr).trans h
theorem iF.cells {b:Nat} {S:ByteArray} {ex se sq:Int} {v:Value} {w:World} (h:iF b S ex se sq v w) :
 w.cell? ⟨b,0,none⟩=some (.string S)/\w.cell? ⟨b,1,none⟩=some (.int .i64 ex)/\w.cell? ⟨b,2,none⟩=some (.int .i64 se)/\w.cell? ⟨b,3,none⟩=some (.int .i64 sq)/\w.cell? ⟨b,4,none⟩=some v /\
  w.frozen? ⟨b,0,none⟩=false/\w.frozen? ⟨b,1,none⟩=false/\w.frozen? ⟨b,2,none⟩=false/\w.frozen? ⟨b,3,none⟩=false/\w.frozen? ⟨b,4,none⟩=false :=
 ⟨aq h rfl,aq h rfl,aq h rfl,aq h rfl,aq h rfl,ay h 0,ay h 1,ay h 2,ay h 3,ay h 4⟩
theorem uL {A B:World} {r:Option Nat} (h:A.grownBy B r):A.grownBy B.drew r:=⟨h.os,h.tape,h.output,h.size,h.block⟩
theorem iF.Hh {b:Nat} {S0:ByteArray} {e0 s0 q0:Int} {v0:Value} {w:World} (h:iF b S0 e0 s0 q0 v0 w) (S:ByteArray) (ex se sq:Int) (v:Value) :
 iF b S ex se sq v ((((((w.setCell ⟨b,0,none⟩ (.string S)).setCell ⟨b,1,none⟩ (.int .i64 ex)).setCell ⟨b,2,none⟩ (.int .i64 se)).setCell ⟨b,3,none⟩ (.int .i64 sq)).setCell ⟨b,4,none⟩ v).drew) /\
  w.grownBy ((((((w.setCell ⟨b,0,none⟩ (.string S)).setCell ⟨b,1,none⟩ (.int .i64 ex)).setCell ⟨b,2,none⟩ (.int .i64 se)).setCell ⟨b,3,none⟩ (.int .i64 sq)).setCell ⟨b,4,none⟩ v).drew) (some b):=by
 have h1:=av (i:=0) h (.string S);have h2:=av (i:=1) h1 (.int .i64 ex);have h3:=av (i:=2) h2 (.int .i64 se);have h4:=av (i:=3) h3 (.int .i64 sq);have h5:=av (i:=4) h4 v;refine⟨?_,?_⟩
 ·have e:∀W:World,W.drew.heap=W.heap:=fun _=>rfl;unfold iF;rw[e,h5];simp
 have g:=aF (aF (aF (aF (az w b 0 (.string S)) (az _ b 1 (.int .i64 ex))) (az _ b 2 (.int .i64 se))) (az _ b 3 (.int .i64 sq))) (az _ b 4 v);exact uL g
theorem fK {W:World} {b:Nat} {c:Array Value} {t e:TypeId} {fz:Nat×Nat} (h:W.heap[b]?=some (.cells c t fz)) (hte:t≠e) {base size k:Nat} {v:Value} {xs:List Value} (hr:W.ownsRow base e size v k xs):some b≠v.ownBlock:=by
 rcases hr.2 with⟨rfl,_⟩|⟨g,cap,cur,rfl,_,hgb,_⟩
 ·simp[Value.ownBlock]
 ·intro e';obtain rfl:b=g:=by simpa[Value.ownBlock]using e'
  have:=h.symm.trans hgb;simp at this;exact hte this.2.1
theorem cS {W:World} {e base size k:Nat} {v:Value} {xs:List Value} (hr:W.ownsRow base e size v k xs):∃a l c,v=.slice a l c:=by
 rcases hr.2 with⟨rfl,_⟩|⟨g,cap,cur,rfl,_⟩
 ·exact⟨_,_,_,rfl⟩
 ·exact⟨_,_,_,rfl⟩
theorem Ly:fh prog 36 122 2:=by
 have h:(prog.info? 122).map (fun i=>(i.zero,i.size,i.bytes))=some (some (.agg #[.string ⟨#[]⟩,.string ⟨#[]⟩]),2,32):=by kernel_rfl
 obtain⟨i0,hi,hz0,hz1,hz2⟩:=info_parts h;exact⟨underlying36,⟨i0,_,32,hi,hz0,hz1,hz2,rfl,by omega⟩,by omega⟩
theorem An (es:List Evt.Event) (k d:ByteArray):cZ (es++[⟨k.data.toList,d.data.toList⟩])=cZ es++[.string k,.string d]:=by
 simp[cZ]
theorem Dc {es:List Evt.Event} (h:Small es) (k d:ByteArray) (hk:k.size<=1000000) (hd:d.size<=1000000):Small (es++[⟨k.data.toList,d.data.toList⟩]):=by
 intro e he;rcases aK.1 he with he|he
 ·exact h e he
 ·obtain rfl:e=⟨k.data.toList,d.data.toList⟩:=by simpa using he
  exact⟨by simp only;rw[<-Lib.size_eq];exact hk,by simp only;rw[<-Lib.size_eq];exact hd⟩
def vZ (b:Nat) (w:World):Prop:=iF b ⟨#[]⟩ 0 0 0 (.slice none 0 0) w
set_option maxHeartbeats 4000000 in
set_option maxRecDepth 100000 in
theorem xM (s:ByteArray) (w:World) (hE:Env w) (hs:s.size<=1000000) :
 Calls prog 278 #[.string s] w fun e w'=>∃(S:ByteArray) (ex se sq:Int) (v:Value) (es:List Evt.Event) (r:ByteArray) (c:Nat),e=.returned (.tuple #[.agg #[.string S,.int .i64 ex,.int .i64 se,.int .i64 sq,v],.string r,.int .i64 (c:Int)]) /\
  Hid (Evt.ia s.data.toList=(⟨S.data.toList,ex,se,sq,es⟩,r.data.toList,c))/\w'.ownsRow w.heap.size 122 2 v es.length (cZ es)/\S.size<=1000000/\Small es/\es.length<=8/\r.size<=s.size/\Below w.heap.size w w':=by
 have hz0:vZ w.heap.size (w.alloc (.cells #[.string ⟨#[]⟩,.int .i64 0,.int .i64 0,.int .i64 0,.slice none 0 0] 38)):=heap_alloc_new w _;have hr0:iV (w.heap.size+1) s 0 ((w.alloc (.cells #[.string ⟨#[]⟩,.int .i64 0,.int .i64 0,.int .i64 0,.slice none 0 0] 38)).alloc (.cells #[.string s,.int .i64 0] 421)):=by
  have:=heap_alloc_new (w.alloc (.cells #[.string ⟨#[]⟩,.int .i64 0,.int .i64 0,.int .i64 0,.slice none 0 0] 38)) (.cells #[.string s,.int .i64 0] 421);rw[World.size_alloc]at this;exact this
 have hz1:vZ w.heap.size ((w.alloc (.cells #[.string ⟨#[]⟩,.int .i64 0,.int .i64 0,.int .i64 0,.slice none 0 0] 38)).alloc (.cells #[.string s,.int .i64 0] 421)):=hz0.kept (World.grownBy_alloc _ _ none) (by simp);have hb1:Below w.heap.size w ((w.alloc (.cells #[.string ⟨#[]⟩,.int .i64 0,.int .i64 0,.int .i64 0,.slice none 0 0] 38)).alloc (.cells #[.string s,.int .i64 0] 421)):=((ae _ _).alloc ab _).alloc (by simp) _;have hsz1:((w.alloc (.cells #[.string ⟨#[]⟩,.int .i64 0,.int .i64 0,.int .i64 0,.slice none 0 0] 38)).alloc (.cells #[.string s,.int .i64 0] 421)).heap.size=w.heap.size+2:=by simp
 go_enter func278,ntmps278;go_wp2_with fail;obtain⟨W1,hW1⟩:∃W1,((w.alloc (.cells #[.string ⟨#[]⟩,.int .i64 0,.int .i64 0,.int .i64 0,.slice none 0 0] 38)).alloc (.cells #[.string s,.int .i64 0] 421))=W1:=⟨_,rfl⟩;rw[hW1]at hr0 hz1 hb1 hsz1 ⊢;clear hW1 hz0;refine(qA (w.heap.size+1) s 0 W1 hr0 (by omega)).mono ?_;rintro e w1 ⟨S,L1,c1,rfl,H1,l1,n1,r1,g1⟩;go_wp2_with fail;refine(Df (w.heap.size+1) L1 c1 w1 r1 (by omega)).mono ?_;rintro e w2 ⟨ex,L2,c2,rfl,H2,l2,r2,g2⟩;go_wp2_with fail;refine(o7 (w.heap.size+1) L2 c2 w2 r2 (by omega)).mono ?_;rintro e w3 ⟨se,L3,c3,rfl,H3,l3,r3,g3⟩;go_wp2_with fail;refine(o7 (w.heap.size+1) L3 c3 w3 r3 (by omega)).mono ?_;rintro e w4 ⟨sq,L4,c4,rfl,H4,l4,r4,g4⟩;have hR:w.heap.size<=w.heap.size+1:=by omega
 have g14:=aF (aF (aF g1 g2) g3) g4;have hb4:Below w.heap.size w w4:=hb1.trans (aU g14 hR (by omega));have hz4:vZ w.heap.size w4:=hz1.kept g14 (by simp);have hs4:w.heap.size+2<=w4.heap.size:=by have:=g14.size;omega
 have hB4:iF w4.heap.size S ex se sq (.slice none 0 0) (w4.alloc (.cells #[.string S,.int .i64 ex,.int .i64 (se:Int),.int .i64 (sq:Int),.slice none 0 0] 38)):=heap_alloc_new w4 _;have r5:iV (w.heap.size+1) L4 c4 (w4.alloc (.cells #[.string S,.int .i64 ex,.int .i64 (se:Int),.int .i64 (sq:Int),.slice none 0 0] 38)):=r4.kept (World.grownBy_alloc _ _ none) (by simp);have hz5:vZ w.heap.size (w4.alloc (.cells #[.string S,.int .i64 ex,.int .i64 (se:Int),.int .i64 (sq:Int),.slice none 0 0] 38)):=hz4.kept (World.grownBy_alloc _ _ none) (by simp);have hb5:Below w.heap.size w (w4.alloc (.cells #[.string S,.int .i64 ex,.int .i64 (se:Int),.int .i64 (sq:Int),.slice none 0 0] 38)):=hb4.alloc (by omega) _;have hs5:(w4.alloc (.cells #[.string S,.int .i64 ex,.int .i64 (se:Int),.int .i64 (sq:Int),.slice none 0 0] 38)).heap.size=w4.heap.size+1:=by simp
 go_wp2_with fail;obtain⟨W5,hW5⟩:∃W5,w4.alloc (.cells #[.string S,.int .i64 ex,.int .i64 (se:Int),.int .i64 (sq:Int),.slice none 0 0] 38)=W5:=⟨_,rfl⟩;rw[hW5]at hB4 r5 hz5 hb5 hs5 ⊢;clear hW5;refine(o7 (w.heap.size+1) L4 c4 W5 r5 (by omega)).mono ?_;rintro e w6 ⟨many,L5,c5,rfl,H5,l5,r6,g6⟩;obtain⟨B6,hB6⟩:∃B6,w4.heap.size=B6:=⟨_,rfl⟩;rw[hB6]at hB4 hs4 hs5 ⊢;clear hB6;have hne:some B6≠some (w.heap.size+1):=by simp;omega
 have hB6:=hB4.kept g6 hne;have hz6:=iF.kept hz5 g6 (by simp);have hb6:Below w.heap.size w w6:=hb5.trans (aU g6 hR (by omega));have hs6:B6<w6.heap.size:=by have:=g6.size;omega
 have HH:=ad (show Evt.qI s.data.toList=(S.data.toList,ex,se,sq,many,L5.data.toList,c5)by
  unfold Evt.qI;simp only;rw[H1.out];simp only;rw[H2.out];simp only;rw[H3.out];simp only;rw[H4.out];simp only;rw[H5.out])
 have hl5:L5.size<=s.size:=by omega
 have hSs:S.size<=1000000:=by omega
 clear H1 H2 H3 H4 H5 l1 l2 l3 l4 l5 n1 r1 r2 r3 r4 r5 g1 g2 g3 g4 g14 g6 hb1 hb4 hb5 hz1 hz4 hz5 hB4 hr0 hs5 hsz1;go_upto_if 25 with fail;go_cut [] (fun wx=>∃c6,Hid (Evt.mE many (L5.data.toList,c5)=(L5.data.toList,c6))/\(many<=8\/c6≠0)/\iV (w.heap.size+1) L5 c6 wx/\iF B6 S ex se sq (.slice none 0 0) wx/\vZ w.heap.size wx/\Below w.heap.size w wx/\B6<wx.heap.size)
 case first =>
  by_cases h8:(8:Int)<many
  ·go_wp2_with fail;refine(zI (w.heap.size+1) L5 c5 4 w6 r6).mono ?_;rintro e w7 ⟨c6,rfl,H6,r7,g7⟩;have HM:=ad (show Evt.mE many (L5.data.toList,c5)=(L5.data.toList,c6)by rw[Evt.mE,if_pos (by omega)];exact H6.out);have hc6:c6≠0:=by
    have:=H6.out;unfold Evt.note at this;split at this
    ·simp only[Prod.mk.injEq]at this;omega
    ·rename_i h;simp only[Prod.mk.injEq]at this h;omega
   go_wp2;go_meet;exact⟨c6,HM,.inr hc6,r7,hB6.kept g7 hne,iF.kept hz6 g7 (by simp),hb6.trans (aU g7 hR hb6.size),by have:=g7.size;omega⟩
  ·have HM:=ad (show Evt.mE many (L5.data.toList,c5)=(L5.data.toList,c5)by rw[Evt.mE,if_neg (by omega)]);go_wp2;go_meet;exact⟨c5,HM,.inl (by omega),r6,hB6,hz6,hb6,hs6⟩
 case rest =>
  obtain⟨c6,HM,h8,r7,hB7,hz7,hb7,hs7⟩:=hcut;obtain⟨Q,hQ⟩:∃Q,Evt.dZ many (L5.data.toList,c6)=Q:=⟨_,rfl⟩;have HQ:=ad hQ;clear hQ r6 hB6 hz6 hb6 hs6;go_wp2
  go_loopw [8] (fun iv wr=>∃(i:Nat) (es:List Evt.Event) (L:ByteArray) (c:Nat) (v:Value),iv=.int .i64 (i:Int)/\i<=many/\(many<=8\/c≠0)/\iV (w.heap.size+1) L c wr/\iF B6 S ex se sq v wr/\vZ w.heap.size wr/\Below w.heap.size w wr/\B6<wr.heap.size /\
   wr.ownsRow w.heap.size 122 2 v es.length (cZ es)/\Small es/\es.length<=i/\es.length<=8/\L.size<=s.size/\es++(Evt.dZ (many-i) (L.data.toList,c)).1=Q.1/\(Evt.dZ (many-i) (L.data.toList,c)).2=Q.2) (fun iv _=>many-(intOf iv).toNat)
  case atStart=>exact⟨0,[],L5,c6,_,rfl,by omega,h8,r7,hB7,hz7,hb7,hs7,World.ownsRow_nil _ _ _ _,(fun e he=>by cases he),by simp,by simp,hl5,by rw[Nat.sub_zero,HQ.out];rfl,by rw[Nat.sub_zero,HQ.out]⟩
  case round =>
   obtain⟨i,es,L,c,v,rfl,hi,h8',hr,hB,hz,hb,hsz,hown,hsm,hel,hel8,hL,hq1,hq2⟩:=hrel;have HQ1:=ad hq1;have HQ2:=ad hq2;clear hq1 hq2 r7 hB7 hz7 hb7 hs7;by_cases hgo:i<many/\c=0
   ·obtain⟨hi1,hc0⟩:=hgo;subst hc0;have hi1':(i:Int)<many:=by omega
    have h0b:(((0:Nat):Int)==0)=true:=rfl;obtain⟨sa,sl,sc,rfl⟩:=cS hown;obtain⟨p0,p1,q0,q1⟩:=hr.cells;go_wp2_with fail;refine(Dv (w.heap.size+1) L 0 wr hr (by omega)).mono ?_;rintro e w1 ⟨k,d,L',c',rfl,HE,hl1,hk1,hd1,r1,g1⟩;have B1:=hB.kept g1 hne;have Z1:=iF.kept hz g1 (by simp);have own1:=hown.kept g1 (.inr (fK hr (by decide) hown).symm);have hb1:Below w.heap.size w w1:=hb.trans (aU g1 hR hb.size);have hs1:B6<w1.heap.size:=by have:=g1.size;omega
    have B1a:=B1.kept (World.grownBy_alloc w1 (.cells #[.string k,.string d] 122) none) (by simp);have Z1a:=iF.kept Z1 (World.grownBy_alloc w1 (.cells #[.string k,.string d] 122) none) (by simp);have r1a:=r1.kept (World.grownBy_alloc w1 (.cells #[.string k,.string d] 122) none) (by simp);have own1a:=own1.alloc (.cells #[.string k,.string d] 122);have hb1a:=hb1.alloc hb1.size (.cells #[.string k,.string d] 122);have hs1a:B6<(w1.alloc (.cells #[.string k,.string d] 122)).heap.size:=by simp;omega
    have b4:w1.cell? ⟨B6,4,none⟩=some (.slice sa sl sc):=aq B1 rfl;have HS:=ad (show Evt.dZ (many-i) (L.data.toList,0)=(⟨k.data.toList,d.data.toList⟩::(Evt.dZ (many-(i+1)) (L'.data.toList,c')).1,(Evt.dZ (many-(i+1)) (L'.data.toList,c')).2)by
     rw[show many-i=(many-(i+1))+1 by omega,Evt.dZ,if_neg (by simp),HE.out])
    have HN1:=ad (show(es++[⟨k.data.toList,d.data.toList⟩])++(Evt.dZ (many-(i+1)) (L'.data.toList,c')).1=Q.1 by rw[<-HQ1.out,HS.out];simp);have HN2:=ad (show(Evt.dZ (many-(i+1)) (L'.data.toList,c')).2=Q.2 by rw[<-HQ2.out,HS.out]);have hm8:many<=8:=by omega
    clear HS HE HQ1 HQ2 HQ HM HH hr hB hz hown hb p0 p1 q0 q1 g1 B1 Z1 r1 own1;go_wp2_with (at_builtin;refine qb rfl _ _ _ rfl Ly rfl own1a hb1a (Nat.le_trans hb1.size (by simp)) _ _ rfl (by simp) rfl (by simp[Value.oneCell']) (by omega) ?_);intro v' w2 hown' hg2 hb2 hs2;obtain⟨g',cap',rfl⟩:=ownsRow_succ hown';have B2:=B1a.kept hg2 (fK B1a (by decide) own1a);have Z2:=iF.kept Z1a hg2 (fK Z1a (by decide) own1a);have r2:=r1a.kept hg2 (fK r1a (by decide) own1a);have b4':w2.cell? ⟨B6,4,none⟩=some (.slice sa sl sc):=aq B2 rfl;have b4f:=ay B2 4;have B3:=av (i:=4) B2 (.slice (some ⟨g',0,none⟩) (es.length+1) cap');have Z3:=iF.kept Z2 (az w2 B6 4 (.slice (some ⟨g',0,none⟩) (es.length+1) cap')) (by simp;omega);have r3:=r2.kept (az w2 B6 4 (.slice (some ⟨g',0,none⟩) (es.length+1) cap')) (by simp;omega);have own3:=hown'.kept (az w2 B6 4 (.slice (some ⟨g',0,none⟩) (es.length+1) cap')) (.inr (fK B2 (by decide) hown').symm);rw[<-An]at own3;have H3:=ad (aB (show iF B6 S ex se sq (.slice (some ⟨g',0,none⟩) (es.length+1) cap') _ from B3) (aB Z3 (aB r3 own3)));have hb3:=hb2.setCell (p:=⟨B6,4,none⟩) (by simp;omega) (.slice (some ⟨g',0,none⟩) (es.length+1) cap');have HB3:=ad hb3;clear B2 Z2 r2 B3 Z3 r3 own3 B1a Z1a r1a own1a hown' hg2 hb2 hb3 hb1a;go_wp2;exact⟨⟨i+1,es++[⟨k.data.toList,d.data.toList⟩],L',c',_,by go_num,by omega,.inl hm8,H3.out.2.2.1,H3.out.1,H3.out.2.1,HB3.out,by simp at hs2 ⊢;omega,by simpa using H3.out.2.2.2,Dc hsm k d (by omega) (by omega),by simp;omega,by simp;omega,by omega,HN1.out,HN2.out⟩,by simp[intOf];omega⟩
   ·have hend:Evt.dZ (many-i) (L.data.toList,c)=([],L.data.toList,c):=by
     by_cases hc0:c=0
     ·rw[show many-i=0 by omega];rfl
     ·cases e:many-i with
      |zero=>rfl
      |succ n=>rw[Evt.dZ,if_pos (by simpa using hc0)]
    have HTB:=ad (show Evt.ia s.data.toList=if (Evt.kF ⟨S.data.toList,ex,se,sq,es⟩ (L.data.toList,c)).2≠0 then (Evt.tH,[],(Evt.kF ⟨S.data.toList,ex,se,sq,es⟩ (L.data.toList,c)).2) else (⟨S.data.toList,ex,se,sq,es⟩,(Evt.kF ⟨S.data.toList,ex,se,sq,es⟩ (L.data.toList,c)).1,0)by
     have q1:=HQ1.out;have q2:=HQ2.out;rw[hend]at q1 q2;simp only[List.append_nil]at q1 q2;unfold Evt.ia;rw[HH.out];simp only;rw[HM.out,HQ.out,<-q1,<-q2])
    have hts:((i:Int)<many/\((c:Int)==0)=false)\/¬(i:Int)<many:=by
     by_cases h:i<many
     ·left;refine⟨by omega,?_⟩;have:c≠0:=fun h0=>hgo ⟨h,h0⟩;simp;omega
     ·right;omega
    obtain⟨sa,sl,sc,rfl⟩:=cS hown;obtain⟨p0,p1,q0,q1⟩:=hr.cells;have hZc:wr.cell? ⟨B6,4,none⟩=some (.slice sa sl sc):=aq hB rfl;have hB0:wr.cell? ⟨B6,0,none⟩=some (.string S):=aq hB rfl;have hB1:wr.cell? ⟨B6,1,none⟩=some (.int .i64 ex):=aq hB rfl;have hB2:wr.cell? ⟨B6,2,none⟩=some (.int .i64 (se:Int)):=aq hB rfl;have hB3:wr.cell? ⟨B6,3,none⟩=some (.int .i64 (sq:Int)):=aq hB rfl;have HFI:=ad (px S ex se sq (.slice sa sl sc) es wr (hE.next hb) hSs (aj hown) (by omega) hsm);obtain⟨F,hF⟩:∃F,Evt.fits ⟨S.data.toList,ex,se,sq,es⟩=F:=⟨_,rfl⟩;rw[hF]at HFI;have HFF:=ad hF;clear hF hgo hend HQ HQ1 HQ2 HM HH hi h8 h8';rcases hts with⟨ht1,ht2⟩|ht1
    all_goals
     go_wp2_with fail;refine HFI.out.mono ?_;rintro e w8 ⟨rfl,b8⟩;have r8:=hr.kept (bZ b8) (by simp);have z8:=iF.kept hz (bZ b8) (by simp);have hB8:=hB.kept (bZ b8) (by simp);have own8:=bX hown b8;have hb8:=Below.up hb ab b8;have hs8:=hb8.size;clear hZc hB0 hB1 hB2 hB3 p0 p1 q0 q1 hr hz hB hown hb b8 HFI;by_cases hF0:F=0
     ·have hFb:((F:Int) != 0)=false:=by simp[hF0]
      have HL:=ad (show Evt.kF ⟨S.data.toList,ex,se,sq,es⟩ (L.data.toList,c)=(L.data.toList,c)by rw[Evt.kF,HFF.out,if_neg (by simp[hF0])]);obtain⟨p0,p1,q0,q1⟩:=r8.cells;have hB0:w8.cell? ⟨B6,0,none⟩=some (.string S):=aq hB8 rfl;have hB1:w8.cell? ⟨B6,1,none⟩=some (.int .i64 ex):=aq hB8 rfl;have hB2:w8.cell? ⟨B6,2,none⟩=some (.int .i64 (se:Int)):=aq hB8 rfl;have hB3:w8.cell? ⟨B6,3,none⟩=some (.int .i64 (sq:Int)):=aq hB8 rfl;have hB4:w8.cell? ⟨B6,4,none⟩=some (.slice sa sl sc):=aq hB8 rfl;obtain⟨z0,z1,z2,z3,z4,f0,f1,f2,f3,f4⟩:=iF.cells z8;by_cases hc0:c=0
      ·subst hc0;have HT:=ad (show Evt.ia s.data.toList=(⟨S.data.toList,ex,se,sq,es⟩,L.data.toList,0)by rw[HTB.out,HL.out,if_neg (by simp)])
       first
       |(exfalso;simp at ht2;done)
       | (have HP := ad (iF.Hh z8 S ex se sq (.slice sa sl sc))
          have ownN := own8.kept HP.out.2 (.inr (fK z8 (by decide) own8).symm);have HN := ad ownN;have HBN := ad (hb8.trans (aU HP.out.2 ab hs8));clear HTB HL hF0 ownN;go_wp2
          go_region
          go_wp2
          (try simp only [Exit.inBlock, Exit.then])
          refine bodyPost_ret (fJ rfl _ _ w.heap.size _ _ _ _ rfl HP.out.1 underlying38 rfl mq) rfl ?_;exact ⟨S, ex, se, sq, _, es, L, 0, rfl, HT, HN.out, hSs, hsm, hel8, hL, HBN.out⟩)
      ·have hcb:((c:Int) != 0)=true:=by simp;omega
       have HT:=ad (show Evt.ia s.data.toList=(Evt.tH,[],c)by rw[HTB.out,HL.out,if_pos (by simpa using hc0)]);have HP:=ad (iF.Hh z8 ⟨#[]⟩ 0 0 0 (.slice none 0 0));have HBN:=ad (hb8.trans (aU HP.out.2 ab hs8));clear HTB HL hF0;go_wp2
       go_region
       go_wp2
       (try simp only[Exit.inBlock,Exit.then])
       refine bodyPost_ret (fJ rfl _ _ w.heap.size _ _ _ _ rfl HP.out.1 underlying38 rfl mq) rfl ?_;exact⟨⟨#[]⟩,0,0,0,_,[],⟨#[]⟩,c,rfl,HT,World.ownsRow_nil _ _ _ _,Nat.zero_le _,(fun e he=>by cases he),by simp,Nat.zero_le _,HBN.out⟩
     ·have hFb:((F:Int) != 0)=true:=by simp;omega
      have HL:=ad (show Evt.kF ⟨S.data.toList,ex,se,sq,es⟩ (L.data.toList,c)=Evt.note (L.data.toList,c) 2 by rw[Evt.kF,HFF.out,if_pos hF0]);go_wp2_with fail;refine(zI (w.heap.size+1) L c 2 w8 r8).mono ?_;rintro e w9 ⟨c9,rfl,H9,r9,g9⟩;have hc9:c9≠0:=by
       have:=H9.out;unfold Evt.note at this;split at this
       ·simp only[Prod.mk.injEq]at this;omega
       ·rename_i h;simp only[Prod.mk.injEq]at this h;omega
      have hcb:((c9:Int) != 0)=true:=by simp;omega
      have HT:=ad (show Evt.ia s.data.toList=(Evt.tH,[],c9)by rw[HTB.out,HL.out,H9.out,if_pos (by simpa using hc9)]);have z9:=iF.kept z8 g9 (by simp);have hb9:=hb8.trans (aU g9 hR hs8);obtain⟨p0,p1,q0,q1⟩:=r9.cells;obtain⟨z0,z1,z2,z3,z4,f0,f1,f2,f3,f4⟩:=iF.cells z9;have HP:=ad (iF.Hh z9 ⟨#[]⟩ 0 0 0 (.slice none 0 0));have HBN:=ad (hb9.trans (aU HP.out.2 ab hb9.size));clear HTB HL H9 hF0 HFF;go_wp2
      go_region
      go_wp2
      (try simp only[Exit.inBlock,Exit.then])
      refine bodyPost_ret (fJ rfl _ _ w.heap.size _ _ _ _ rfl HP.out.1 underlying38 rfl mq) rfl ?_;exact⟨⟨#[]⟩,0,0,0,_,[],⟨#[]⟩,c9,rfl,HT,World.ownsRow_nil _ _ _ _,Nat.zero_le _,(fun e he=>by cases he),by simp,Nat.zero_le _,HBN.out⟩
def EB (b:Nat) (p ep:Int) (S:ByteArray) (ex se sq:Int) (v:Value) (w:World):Prop:=w.heap[b]?=some (.cells #[.int .i64 p,.int .i64 ep,.string S,.int .i64 ex,.int .i64 se,.int .i64 sq,v] 95 (0,0))
theorem EB.kept {b:Nat} {p ep:Int} {S:ByteArray} {ex se sq:Int} {v:Value} {w w':World} {r:Option Nat} (h:EB b p ep S ex se sq v w) (hg:w.grownBy w' r) (hr:some b≠r):EB b p ep S ex se sq v w' :=
 (hg.block b (aA.1 h).1 hr).trans h
theorem EB.next {b:Nat} {p ep:Int} {S:ByteArray} {ex se sq:Int} {v:Value} {w w':World} (h:EB b p ep S ex se sq v w) (hb:Below w.heap.size w w'):EB b p ep S ex se sq v w':=h.kept (bZ hb) (by simp)
theorem EB.cells {b:Nat} {p ep:Int} {S:ByteArray} {ex se sq:Int} {v:Value} {w:World} (h:EB b p ep S ex se sq v w) :
 w.cell? ⟨b,0,none⟩=some (.int .i64 p)/\w.cell? ⟨b,1,none⟩=some (.int .i64 ep)/\w.cell? ⟨b,2,none⟩=some (.string S)/\w.cell? ⟨b,3,none⟩=some (.int .i64 ex)/\w.cell? ⟨b,4,none⟩=some (.int .i64 se)/\w.cell? ⟨b,5,none⟩=some (.int .i64 sq)/\w.cell? ⟨b,6,none⟩=some v :=
 ⟨aq h rfl,aq h rfl,aq h rfl,aq h rfl,aq h rfl,aq h rfl,aq h rfl⟩
theorem ee {w:World} {v:Value} {es:List Evt.Event} (h:dp w v es):∃a l c,v=.slice a l c:=by
 rcases h.2 with⟨_,a,c,rfl⟩|⟨b,o,c,rfl,_⟩
 ·exact⟨_,_,_,rfl⟩
 ·exact⟨_,_,_,rfl⟩
set_option maxHeartbeats 2000000 in
set_option maxRecDepth 100000 in
theorem ji (p ep:Int) (S:ByteArray) (ex se sq:Int) (v:Value) (es:List Evt.Event) (w:World) (hE:Env w) (hS:S.size<=1000000) (hc:dp w v es) (hn:es.length<=1000000) (hx:Small es) :
 Calls prog 168 #[.agg #[.int .i64 p,.int .i64 ep,.string S,.int .i64 ex,.int .i64 se,.int .i64 sq,v]] w fun e w'=>e=.returned (.bool (Evt.bC ⟨p,ep,⟨S.data.toList,ex,se,sq,es⟩⟩))/\Below w.heap.size w w':=by
 obtain⟨sa,sl,sc,rfl⟩:=ee hc;have hb0:Below w.heap.size w (w.alloc (.cells #[.int .i64 p,.int .i64 ep,.string S,.int .i64 ex,.int .i64 se,.int .i64 sq,.slice sa sl sc] 95)):=(ae _ _).alloc ab _;have HFI:=ad (px S ex se sq _ es _ (hE.next hb0) hS (Cells.next hc hb0) hn hx);have HR:=ad (show Evt.bC ⟨p,ep,⟨S.data.toList,ex,se,sq,es⟩⟩=(decide (1<=p)&&decide (p<=274877906944)&&(decide (1<=ep)&&decide (ep<=274877906944))&&(Evt.fits ⟨S.data.toList,ex,se,sq,es⟩==0))from rfl);obtain⟨R,hR⟩:∃R,Evt.bC ⟨p,ep,⟨S.data.toList,ex,se,sq,es⟩⟩=R:=⟨_,rfl⟩;obtain⟨F,hF⟩:∃F,Evt.fits ⟨S.data.toList,ex,se,sq,es⟩=F:=⟨_,rfl⟩;rw[hF]at HFI HR;rw[hR]at HR ⊢;clear hR hF hx hc;by_cases h1:(1:Int)<=p
 ·by_cases h2:p<=274877906944
  ·by_cases h3:(1:Int)<=ep
   ·by_cases h4:ep<=274877906944
    ·have HN:=ad (show R=(F==0)by rw[HR.out,decide_eq_true h1,decide_eq_true h2,decide_eq_true h3,decide_eq_true h4];rfl);clear HR;go_enter func168,ntmps168;go_wp2_with fail;refine HFI.out.mono ?_;rintro e w1 ⟨rfl,b1⟩;go_wp2;go_ret;refine⟨dR ?_,Below.up hb0 ab b1⟩;rw[HN.out];exact vg (by simp)
    ·have HN:=ad (show R=false by rw[HR.out,decide_eq_false h4];simp);clear HR;go_enter func168,ntmps168;go_wp2;go_ret;exact⟨dR HN.out.symm,hb0⟩
   ·have HN:=ad (show R=false by rw[HR.out,decide_eq_false h3];simp);clear HR;go_enter func168,ntmps168;go_wp2;go_ret;exact⟨dR HN.out.symm,hb0⟩
  ·have HN:=ad (show R=false by rw[HR.out,decide_eq_false h2];simp);clear HR;go_enter func168,ntmps168;go_wp2;go_ret;exact⟨dR HN.out.symm,hb0⟩
 ·have HN:=ad (show R=false by rw[HR.out,decide_eq_false h1];simp);clear HR;go_enter func168,ntmps168;go_wp2;go_ret;exact⟨dR HN.out.symm,hb0⟩
theorem zn (S:ByteArray) (ex se sq:Int) (v:Value) (es:List Evt.Event) (w:World) (hE:Env w) (hS:S.size<=1000000) (hc:dp w v es) (hn:es.length<=1000000) (hx:Small es) :
 Calls prog 128 #[.agg #[.string S,.int .i64 ex,.int .i64 se,.int .i64 sq,v]] w fun e w'=>e=.returned (.string ⟨(Evt.dm ⟨S.data.toList,ex,se,sq,es⟩).toArray⟩)/\Below w.heap.size w w':=by
 refine(qK S ex se sq v es w hE hS hc hn hx).mono ?_;rintro e w' ⟨r,rfl,HR,hb⟩;exact⟨by rw[vq HR.out],hb⟩
theorem Li {w0 wa wb:World} {a1 a2 a3 a4 a5 a6 a7:Addr} {u1 u2 u3 u4 u5 u6 u7:Value} (h:wa.cell? a1=some u1/\wa.cell? a2=some u2/\wa.cell? a3=some u3/\wa.cell? a4=some u4/\wa.cell? a5=some u5/\wa.cell? a6=some u6/\wa.cell? a7=some u7/\Below w0.heap.size w0 wa) (hb:Below wa.heap.size wa wb) :
 wb.cell? a1=some u1/\wb.cell? a2=some u2/\wb.cell? a3=some u3/\wb.cell? a4=some u4/\wb.cell? a5=some u5/\wb.cell? a6=some u6/\wb.cell? a7=some u7/\Below w0.heap.size w0 wb :=
 ⟨cell_kept hb ab h.1,cell_kept hb ab h.2.1,cell_kept hb ab h.2.2.1,cell_kept hb ab h.2.2.2.1,cell_kept hb ab h.2.2.2.2.1,cell_kept hb ab h.2.2.2.2.2.1,cell_kept hb ab h.2.2.2.2.2.2.1,Below.up h.2.2.2.2.2.2.2 ab hb⟩
set_option maxHeartbeats 4000000 in
set_option maxRecDepth 100000 in
theorem oU (p ep:Int) (S:ByteArray) (ex se sq:Int) (v:Value) (es:List Evt.Event) (w:World) (hE:Env w) (hS:S.size<=1000000) (hc:dp w v es) (hn:es.length<=1000000) (hx:Small es) :
 Calls prog 175 #[.agg #[.int .i64 p,.int .i64 ep,.string S,.int .i64 ex,.int .i64 se,.int .i64 sq,v]] w fun e w'=>∃r:ByteArray,e=.returned (.string r)/\Hid (r.data.toList=Evt.put ⟨p,ep,⟨S.data.toList,ex,se,sq,es⟩⟩)/\Below w.heap.size w w':=by
 obtain⟨sa,sl,sc,rfl⟩:=ee hc;have hb0:Below w.heap.size w (w.alloc (.cells #[.int .i64 p,.int .i64 ep,.string S,.int .i64 ex,.int .i64 se,.int .i64 sq,.slice sa sl sc] 95)):=(ae _ _).alloc ab _;have HRI:=ad (ji p ep S ex se sq _ es _ (hE.next hb0) hS (Cells.next hc hb0) hn hx);have hEB:EB w.heap.size p ep S ex se sq (.slice sa sl sc) (w.alloc (.cells #[.int .i64 p,.int .i64 ep,.string S,.int .i64 ex,.int .i64 se,.int .i64 sq,.slice sa sl sc] 95)):=heap_alloc_new w _;have HEB:=ad hEB;clear hEB;go_enter func175,ntmps175;go_wp2_with fail;refine HRI.out.mono ?_;rintro e w1 ⟨rfl,b1⟩;have hbw:=Below.up hb0 ab b1;have hE1:=hE.next hbw;have hc1:=Cells.next hc hbw;have eb1:=HEB.out.next b1;clear HRI HEB b1 hb0 hc;cases hr:Evt.bC ⟨p,ep,⟨S.data.toList,ex,se,sq,es⟩⟩with
 |false =>
  have HP:=ad (show Evt.put ⟨p,ep,⟨S.data.toList,ex,se,sq,es⟩⟩=[]by rw[Evt.put,hr];rfl);clear hr;go_wp2;go_ret;exact⟨_,rfl,by rw[HP.out];rfl,hbw⟩
 |true =>
  have HP:=ad (show Evt.put ⟨p,ep,⟨S.data.toList,ex,se,sq,es⟩⟩=Num.put (Num.held p)++Num.put (Num.held ep)++Evt.dm ⟨S.data.toList,ex,se,sq,es⟩by rw[Evt.put,hr];rfl);clear hr;obtain⟨A1,hA1,e1,s1⟩:=bf (Num.put (Num.held p));obtain⟨A2,hA2,e2,s2⟩:=bf (Num.put (Num.held ep));obtain⟨A3,hA3,e3,s3⟩:=bf (Evt.dm ⟨S.data.toList,ex,se,sq,es⟩);obtain⟨B1,_,f1,t1⟩:=bf (A1.data.toList++A2.data.toList);obtain⟨B2,_,f2,t2⟩:=bf (B1.data.toList++A3.data.toList);have c1:=dF p;have c2:=dF ep;have c3:=fun (W:World) (h:Env W) (h2:dp W (.slice sa sl sc) es)=>zn S ex se sq (.slice sa sl sc) es W h hS h2 hn hx;rw[hA1]at c1;rw[hA2]at c2;rw[hA3]at c3;have l1:A1.size<=6:=by rw[s1];exact Num.ct _ (Num.cB p)
  have l2:A2.size<=6:=by rw[s2];exact Num.ct _ (Num.cB ep)
  have l3:A3.size<=3000:=by rw[s3];exact Evt.mF _
  rw[List.length_append,<-Lib.size_eq,<-Lib.size_eq]at t1 t2;have a1:∀w,(Op.stringOp .add A1 A2).run prog w=.ok (.string B1) w:=fun w=>cK w _ _ _ (by omega) f1.symm;have a2:∀w,(Op.stringOp .add B1 A3).run prog w=.ok (.string B2) w:=fun w=>cK w _ _ _ (by omega) f2.symm;have HB:=ad (show B2.data.toList=Evt.put ⟨p,ep,⟨S.data.toList,ex,se,sq,es⟩⟩by rw[HP.out,f2,f1,e1,e2,e3]);obtain⟨k0,k1,k2,k3,k4,k5,k6⟩:=eb1.cells;clear e1 e2 e3 s1 s2 s3 f1 f2 t1 t2 hA1 hA2 hA3 HP eb1;have hE2:Env w1.drew:=hE1.next ((ae _ w1).drew);have hc2:dp w1.drew (.slice sa sl sc) es:=Cells.next hc1 ((ae _ w1).drew);clear hE1 hc1;go_wp2
  go_region_held3 (fun w'=>w'.cell? ⟨w.heap.size,0,none⟩=some (.int .i64 p)/\w'.cell? ⟨w.heap.size,1,none⟩=some (.int .i64 ep)/\w'.cell? ⟨w.heap.size,2,none⟩=some (.string S)/\w'.cell? ⟨w.heap.size,3,none⟩=some (.int .i64 ex)/\w'.cell? ⟨w.heap.size,4,none⟩=some (.int .i64 se)/\w'.cell? ⟨w.heap.size,5,none⟩=some (.int .i64 sq)/\w'.cell? ⟨w.heap.size,6,none⟩=some (.slice sa sl sc)/\Below w.heap.size w w')
   (first|exact⟨k0,k1,k2,k3,k4,k5,k6,hbw.drew⟩|exact Li (by assumption) hb)
   (first
    |(go_at_call_of 84 (Value.int .i64 p);refine(c1 _).mono ?_;rintro e w' ⟨rfl,hb⟩;have hE2:=hE2.next hb;have hc2:=Cells.next hc2 hb)
    |(go_at_call_of 84 (Value.int .i64 ep);refine(c2 _).mono ?_;rintro e w' ⟨rfl,hb⟩;have hE2:=hE2.next hb;have hc2:=Cells.next hc2 hb)
    |(go_at_call 128;refine(c3 _ hE2 hc2).mono ?_;rintro e w' ⟨rfl,hb⟩))
  have hq:w'.cell? ⟨w.heap.size,0,none⟩=some (.int .i64 p)/\w'.cell? ⟨w.heap.size,1,none⟩=some (.int .i64 ep)/\w'.cell? ⟨w.heap.size,2,none⟩=some (.string S)/\w'.cell? ⟨w.heap.size,3,none⟩=some (.int .i64 ex)/\w'.cell? ⟨w.heap.size,4,none⟩=some (.int .i64 se)/\w'.cell? ⟨w.heap.size,5,none⟩=some (.int .i64 sq)/\w'.cell? ⟨w.heap.size,6,none⟩=some (.slice sa sl sc)/\Below w.heap.size w w':=by assumption
  have hbN:=hq.2.2.2.2.2.2.2;clear hq c1 c2 c3 k0 k1 k2 k3 k4 k5 k6;go_wp2;go_ret;exact⟨B2,rfl,HB,hbN⟩
theorem ij:(prog.info? 95).map (·.size)=some 7:=by kernel_rfl
theorem EB.frozen {b:Nat} {p ep:Int} {S:ByteArray} {ex se sq:Int} {v:Value} {w:World} (h:EB b p ep S ex se sq v w):∀i,w.frozen? ⟨b,i,none⟩=false:=fun i=>ay h i
theorem EB.Kh {b:Nat} {p ep:Int} {S:ByteArray} {ex se sq:Int} {v:Value} {w:World} (h:EB b p ep S ex se sq v w) (p':Int):EB b p' ep S ex se sq v (w.setCell ⟨b,0,none⟩ (.int .i64 p')):=av (i:=0) h _
theorem EB.Kg {b:Nat} {p ep:Int} {S:ByteArray} {ex se sq:Int} {v:Value} {w:World} (h:EB b p ep S ex se sq v w) (p':Int):EB b p p' S ex se sq v (w.setCell ⟨b,1,none⟩ (.int .i64 p')):=av (i:=1) h _
theorem EB.LO {b:Nat} {p ep:Int} {S:ByteArray} {ex se sq:Int} {v:Value} {w:World} (h:EB b p ep S ex se sq v w) (S':ByteArray):EB b p ep S' ex se sq v (w.setCell ⟨b,2,none⟩ (.string S')):=av (i:=2) h _
theorem EB.LN {b:Nat} {p ep:Int} {S:ByteArray} {ex se sq:Int} {v:Value} {w:World} (h:EB b p ep S ex se sq v w) (x:Int):EB b p ep S x se sq v (w.setCell ⟨b,3,none⟩ (.int .i64 x)):=av (i:=3) h _
theorem EB.LM {b:Nat} {p ep:Int} {S:ByteArray} {ex se sq:Int} {v:Value} {w:World} (h:EB b p ep S ex se sq v w) (x:Int):EB b p ep S ex x sq v (w.setCell ⟨b,4,none⟩ (.int .i64 x)):=av (i:=4) h _
theorem EB.LL {b:Nat} {p ep:Int} {S:ByteArray} {ex se sq:Int} {v:Value} {w:World} (h:EB b p ep S ex se sq v w) (x:Int):EB b p ep S ex se x v (w.setCell ⟨b,5,none⟩ (.int .i64 x)):=av (i:=5) h _
theorem EB.LK {b:Nat} {p ep:Int} {S:ByteArray} {ex se sq:Int} {v:Value} {w:World} (h:EB b p ep S ex se sq v w) (x:Value):EB b p ep S ex se sq x (w.setCell ⟨b,6,none⟩ x):=av (i:=6) h _
theorem EB.Kn {b:Nat} {p ep:Int} {S0:ByteArray} {e0 s0 q0:Int} {v0:Value} {w:World} (h:EB b p ep S0 e0 s0 q0 v0 w) (S:ByteArray) (ex se sq:Int) (v:Value) :
 EB b p ep S ex se sq v (((((w.setCell ⟨b,2,none⟩ (.string S)).setCell ⟨b,3,none⟩ (.int .i64 ex)).setCell ⟨b,4,none⟩ (.int .i64 se)).setCell ⟨b,5,none⟩ (.int .i64 sq)).setCell ⟨b,6,none⟩ v) /\
  w.grownBy (((((w.setCell ⟨b,2,none⟩ (.string S)).setCell ⟨b,3,none⟩ (.int .i64 ex)).setCell ⟨b,4,none⟩ (.int .i64 se)).setCell ⟨b,5,none⟩ (.int .i64 sq)).setCell ⟨b,6,none⟩ v) (some b):=by
 have h1:=((((h.LO S).LN ex).LM se).LL sq).LK v;exact⟨h1,aF (aF (aF (aF (az w b 2 (.string S)) (az _ b 3 (.int .i64 ex))) (az _ b 4 (.int .i64 se))) (az _ b 5 (.int .i64 sq))) (az _ b 6 v)⟩
theorem EB.zo {b:Nat} {p0 ep0:Int} {S0:ByteArray} {e0 s0 q0:Int} {v0:Value} {w:World} (h:EB b p0 ep0 S0 e0 s0 q0 v0 w) (p ep:Int) (S:ByteArray) (ex se sq:Int) (v:Value) :
 EB b p ep S ex se sq v (((((((w.setCell ⟨b,0,none⟩ (.int .i64 p)).setCell ⟨b,1,none⟩ (.int .i64 ep)).setCell ⟨b,2,none⟩ (.string S)).setCell ⟨b,3,none⟩ (.int .i64 ex)).setCell ⟨b,4,none⟩ (.int .i64 se)).setCell ⟨b,5,none⟩ (.int .i64 sq)).setCell ⟨b,6,none⟩ v) /\
  w.grownBy (((((((w.setCell ⟨b,0,none⟩ (.int .i64 p)).setCell ⟨b,1,none⟩ (.int .i64 ep)).setCell ⟨b,2,none⟩ (.string S)).setCell ⟨b,3,none⟩ (.int .i64 ex)).setCell ⟨b,4,none⟩ (.int .i64 se)).setCell ⟨b,5,none⟩ (.int .i64 sq)).setCell ⟨b,6,none⟩ v) (some b):=by
 have h1:=(h.Kh p).Kg ep;have g:=aF (az w b 0 (.int .i64 p)) (az _ b 1 (.int .i64 ep));have h2:=h1.Kn S ex se sq v;exact⟨h2.1,aF g h2.2⟩
set_option maxHeartbeats 4000000 in
set_option maxRecDepth 100000 in
theorem Bh (s:ByteArray) (w:World) (hE:Env w) (hs:s.size<=1000000) :
 Calls prog 259 #[.string s] w fun e w'=>∃(p ep:Int) (S:ByteArray) (ex se sq:Int) (v:Value) (es:List Evt.Event) (r:ByteArray) (c:Nat),e=.returned (.tuple #[.agg #[.int .i64 p,.int .i64 ep,.string S,.int .i64 ex,.int .i64 se,.int .i64 sq,v],.string r,.int .i64 (c:Int)]) /\
  Hid (Evt.take s.data.toList=(⟨p,ep,⟨S.data.toList,ex,se,sq,es⟩⟩,r.data.toList,c))/\w'.ownsRow w.heap.size 122 2 v es.length (cZ es)/\S.size<=1000000/\Small es/\es.length<=8/\r.size<=s.size/\Below w.heap.size w w':=by
 have z0:EB w.heap.size 0 0 ⟨#[]⟩ 0 0 0 (.slice none 0 0) ((w.alloc (.cells #[.int .i64 0,.int .i64 0,.string ⟨#[]⟩,.int .i64 0,.int .i64 0,.int .i64 0,.slice none 0 0] 95)).alloc (.cells #[.int .i64 0,.int .i64 0,.string ⟨#[]⟩,.int .i64 0,.int .i64 0,.int .i64 0,.slice none 0 0] 95)) :=
  EB.kept (heap_alloc_new w _) (World.grownBy_alloc _ _ none) (by simp)
 have e0:EB (w.heap.size+1) 0 0 ⟨#[]⟩ 0 0 0 (.slice none 0 0) ((w.alloc (.cells #[.int .i64 0,.int .i64 0,.string ⟨#[]⟩,.int .i64 0,.int .i64 0,.int .i64 0,.slice none 0 0] 95)).alloc (.cells #[.int .i64 0,.int .i64 0,.string ⟨#[]⟩,.int .i64 0,.int .i64 0,.int .i64 0,.slice none 0 0] 95)):=by
  have:=heap_alloc_new (w.alloc (.cells #[.int .i64 0,.int .i64 0,.string ⟨#[]⟩,.int .i64 0,.int .i64 0,.int .i64 0,.slice none 0 0] 95)) (.cells #[.int .i64 0,.int .i64 0,.string ⟨#[]⟩,.int .i64 0,.int .i64 0,.int .i64 0,.slice none 0 0] 95);rw[World.size_alloc]at this;exact this
 have hb0:Below w.heap.size w ((w.alloc (.cells #[.int .i64 0,.int .i64 0,.string ⟨#[]⟩,.int .i64 0,.int .i64 0,.int .i64 0,.slice none 0 0] 95)).alloc (.cells #[.int .i64 0,.int .i64 0,.string ⟨#[]⟩,.int .i64 0,.int .i64 0,.int .i64 0,.slice none 0 0] 95)) :=
  ((ae _ _).alloc ab _).alloc (by simp) _
 have hs0:((w.alloc (.cells #[.int .i64 0,.int .i64 0,.string ⟨#[]⟩,.int .i64 0,.int .i64 0,.int .i64 0,.slice none 0 0] 95)).alloc (.cells #[.int .i64 0,.int .i64 0,.string ⟨#[]⟩,.int .i64 0,.int .i64 0,.int .i64 0,.slice none 0 0] 95)).heap.size=w.heap.size+2:=by simp
 go_enter func259,ntmps259;go_wp2_with fail;obtain⟨W1,hW1⟩:∃W1,((w.alloc (.cells #[.int .i64 0,.int .i64 0,.string ⟨#[]⟩,.int .i64 0,.int .i64 0,.int .i64 0,.slice none 0 0] 95)).alloc (.cells #[.int .i64 0,.int .i64 0,.string ⟨#[]⟩,.int .i64 0,.int .i64 0,.int .i64 0,.slice none 0 0] 95))=W1:=⟨_,rfl⟩;rw[hW1]at z0 e0 hb0 hs0 ⊢;clear hW1;refine(fS s W1 (by omega)).mono ?_;rintro e w2 ⟨n1,r1,c1,rfl,H1,b1⟩;have hr1:r1.size<=s.size:=by have:=(Num.fH s.data.toList).2.1;rw[H1.out,<-Lib.size_eq,<-Lib.size_eq]at this;exact this
 have z2:=z0.next b1;have e2:=e0.next b1;have hb2:=Below.up hb0 ab b1;have hs2:w.heap.size+2<=w2.heap.size:=by have:=b1.size;omega
 obtain⟨k0,k1,k2,k3,k4,k5,k6⟩:=e2.cells;have f0:=e2.frozen 0;have e3:=e2.Kh (n1:Int);have z3:=z2.kept (az w2 (w.heap.size+1) 0 (.int .i64 (n1:Int))) (by simp);have hb3:Below w.heap.size w (w2.setCell ⟨w.heap.size+1,0,none⟩ (.int .i64 (n1:Int))):=hb2.setCell (p:=⟨w.heap.size+1,0,none⟩) (by simp) _;have hs3:w.heap.size+2<=(w2.setCell ⟨w.heap.size+1,0,none⟩ (.int .i64 (n1:Int))).heap.size:=by simp;omega
 have E3:=ad e3;have Z3:=ad z3;have HB3:=ad hb3;have HS3:=ad hs3;clear e3 z3 hb3 hs3 z0 e0 z2 e2 hb0 hb2 hs2 hs0 b1;by_cases hc1:c1=0
 ·subst hc1;go_wp2_with fail;obtain⟨W3,hW3⟩:∃W3,w2.setCell ⟨w.heap.size+1,0,none⟩ (.int .i64 (n1:Int))=W3:=⟨_,rfl⟩;rw[hW3]at E3 Z3 HB3 HS3 ⊢;clear hW3 k0 k1 k2 k3 k4 k5 k6 f0;refine(fS r1 W3 (by omega)).mono ?_;rintro e w4 ⟨n2,r2,c2,rfl,H2,b2⟩;have hr2:r2.size<=r1.size:=by have:=(Num.fH r1.data.toList).2.1;rw[H2.out,<-Lib.size_eq,<-Lib.size_eq]at this;exact this
  have z4:=Z3.out.next b2;have e4:=E3.out.next b2;have hb4:=Below.up HB3.out ab b2;have hs4:w.heap.size+2<=w4.heap.size:=by have:=b2.size;have:=HS3.out;omega
  obtain⟨k0,k1,k2,k3,k4,k5,k6⟩:=e4.cells;have f1:=e4.frozen 1;have e5:=e4.Kg (n2:Int);have z5:=z4.kept (az w4 (w.heap.size+1) 1 (.int .i64 (n2:Int))) (by simp);have hb5:Below w.heap.size w (w4.setCell ⟨w.heap.size+1,1,none⟩ (.int .i64 (n2:Int))):=hb4.setCell (p:=⟨w.heap.size+1,1,none⟩) (by simp) _;have hs5:w.heap.size+2<=(w4.setCell ⟨w.heap.size+1,1,none⟩ (.int .i64 (n2:Int))).heap.size:=by simp;omega
  have E5:=ad e5;have Z5:=ad z5;have HB5:=ad hb5;have HS5:=ad hs5;clear e5 z5 hb5 hs5 z4 e4 hb4 hs4 b2 E3 Z3 HB3 HS3;by_cases hc2:c2=0
  ·subst hc2;go_wp2_with fail;obtain⟨W5,hW5⟩:∃W5,w4.setCell ⟨w.heap.size+1,1,none⟩ (.int .i64 (n2:Int))=W5:=⟨_,rfl⟩;rw[hW5]at E5 Z5 HB5 HS5 ⊢;clear hW5 k0 k1 k2 k3 k4 k5 k6 f1;refine(xM r2 W5 (hE.next HB5.out) (by omega)).mono ?_;rintro e w6 ⟨S,ex,se,sq,v,es,r3,c3,rfl,H3,own6,hSs,hsm,hes,hr3,b3⟩;obtain⟨sa,sl,sc,rfl⟩:=cS own6;have z6:=Z5.out.next b3;have e6:=E5.out.next b3;have hb6:=Below.up HB5.out ab b3;have hs6:w.heap.size+2<=w6.heap.size:=by have:=b3.size;have:=HS5.out;omega
   have own6':=bV own6 (show w.heap.size<=W5.heap.size by have:=HS5.out;omega);obtain⟨k0,k1,k2,k3,k4,k5,k6⟩:=e6.cells;have f2:=e6.frozen 2;have f3:=e6.frozen 3;have f4:=e6.frozen 4;have f5:=e6.frozen 5;have f6:=e6.frozen 6;have e7:=e6.Kn S ex se sq (.slice sa sl sc);have own7:=own6'.kept e7.2 (.inr (fK e6 (by decide) own6').symm);have z7:=z6.kept e7.2 (by simp);have hb7:=hb6.trans (aU e7.2 (show w.heap.size<=w.heap.size+1 by omega) hb6.size);have E7:=ad e7;have O7:=ad own7;have Z7:=ad z7;have HB7:=ad hb7;clear e7 own7 z7 hb7 e6 own6 own6' z6 hb6 b3 E5 Z5 HB5 HS5;by_cases hc3:c3=0
   ·subst hc3;have HT0:=ad (show Evt.take s.data.toList=if Evt.bC ⟨n1,n2,⟨S.data.toList,ex,se,sq,es⟩⟩ then (⟨n1,n2,⟨S.data.toList,ex,se,sq,es⟩⟩,r3.data.toList,0) else (Evt.lx,[],2)by
     unfold Evt.take;simp only;rw[H1.out];simp only;rw[if_neg (by simp),H2.out];simp only;rw[if_neg (by simp),H3.out];simp only;rw[if_neg (by simp)])
    clear H1 H2 H3;go_wp2_with fail;obtain⟨W7,hW7⟩:∃W7,(((((w6.setCell ⟨w.heap.size+1,2,none⟩ (.string S)).setCell ⟨w.heap.size+1,3,none⟩ (.int .i64 ex)).setCell ⟨w.heap.size+1,4,none⟩ (.int .i64 se)).setCell ⟨w.heap.size+1,5,none⟩ (.int .i64 sq)).setCell ⟨w.heap.size+1,6,none⟩ (.slice sa sl sc))=W7:=⟨_,rfl⟩;rw[hW7]at E7 O7 Z7 HB7 ⊢;clear hW7 k0 k1 k2 k3 k4 k5 k6 f2 f3 f4 f5 f6;refine(ji (n1:Int) (n2:Int) S ex se sq _ es W7 (hE.next HB7.out) hSs (aj O7.out) (by omega) hsm).mono ?_;rintro e w8 ⟨rfl,b8⟩;have e8:=E7.out.1.next b8;have z8:=Z7.out.next b8;have o8:=bX O7.out b8;have hb8:=Below.up HB7.out ab b8;have hs8:=hb8.size;obtain⟨z0,z1,z2,z3,z4,z5,z6⟩:=z8.cells;obtain⟨k0,k1,k2,k3,k4,k5,k6⟩:=e8.cells;have f0:=z8.frozen 0;have f1:=z8.frozen 1;have f2:=z8.frozen 2;have f3:=z8.frozen 3;have f4:=z8.frozen 4;have f5:=z8.frozen 5;have f6:=z8.frozen 6;clear E7 O7 Z7 HB7 b8;cases hr:Evt.bC ⟨n1,n2,⟨S.data.toList,ex,se,sq,es⟩⟩with
    |true =>
     have HT:=ad (show Evt.take s.data.toList=(⟨n1,n2,⟨S.data.toList,ex,se,sq,es⟩⟩,r3.data.toList,0)by rw[HT0.out,if_pos hr]);have HP:=ad (z8.zo (n1:Int) (n2:Int) S ex se sq (.slice sa sl sc));have HON:=ad (o8.kept HP.out.2 (.inr (fK z8 (by decide) o8).symm));have HBN:=ad (hb8.trans (aU HP.out.2 ab hs8));clear HT0 hr e8 z8 o8 hb8;go_wp2
     (try simp only[Exit.inBlock,Exit.then])
     refine bodyPost_ret (fJ rfl _ _ w.heap.size _ _ _ _ rfl HP.out.1 underlying95 rfl ij) rfl ?_;exact⟨n1,n2,S,ex,se,sq,_,es,r3,0,rfl,HT,HON.out,hSs,hsm,hes,by omega,HBN.out⟩
    |false =>
     have HT:=ad (show Evt.take s.data.toList=(Evt.lx,[],2)by rw[HT0.out,if_neg (by rw[hr];simp)]);have HP:=ad (z8.zo 0 0 ⟨#[]⟩ 0 0 0 (.slice none 0 0));have HBN:=ad (hb8.trans (aU HP.out.2 ab hs8));clear HT0 hr e8 z8 o8 hb8;go_wp2
     (try simp only[Exit.inBlock,Exit.then])
     refine bodyPost_ret (fJ rfl _ _ w.heap.size _ _ _ _ rfl HP.out.1 underlying95 rfl ij) rfl ?_;exact⟨0,0,⟨#[]⟩,0,0,0,_,[],⟨#[]⟩,2,rfl,HT,World.ownsRow_nil _ _ _ _,Nat.zero_le _,(fun e he=>by cases he),by simp,Nat.zero_le _,HBN.out⟩
   ·have hcb:((c3:Int) != 0)=true:=by simp;omega
    have HT:=ad (show Evt.take s.data.toList=(Evt.lx,[],c3)by
     unfold Evt.take;simp only;rw[H1.out];simp only;rw[if_neg (by simp),H2.out];simp only;rw[if_neg (by simp),H3.out];simp only;rw[if_pos hc3])
    have z8:=Z7.out;have HP:=ad (z8.zo 0 0 ⟨#[]⟩ 0 0 0 (.slice none 0 0));have HBN:=ad (HB7.out.trans (aU HP.out.2 ab HB7.out.size));obtain⟨z0,z1,z2,z3,z4,z5,z6⟩:=z8.cells;have g0:=z8.frozen 0;have g1:=z8.frozen 1;have g2:=z8.frozen 2;have g3:=z8.frozen 3;have g4:=z8.frozen 4;have g5:=z8.frozen 5;have g6:=z8.frozen 6;clear H1 H2 H3 z8;go_wp2
    (try simp only[Exit.inBlock,Exit.then])
    refine bodyPost_ret (fJ rfl _ _ w.heap.size _ _ _ _ rfl HP.out.1 underlying95 rfl ij) rfl ?_;exact⟨0,0,⟨#[]⟩,0,0,0,_,[],⟨#[]⟩,c3,rfl,HT,World.ownsRow_nil _ _ _ _,Nat.zero_le _,(fun e he=>by cases he),by simp,Nat.zero_le _,HBN.out⟩
  ·have hcb:((c2:Int) != 0)=true:=by simp;omega
   have hcb':((c2:Int)==0)=false:=by simp;omega
   have HT:=ad (show Evt.take s.data.toList=(Evt.lx,[],c2)by
    unfold Evt.take;simp only;rw[H1.out];simp only;rw[if_neg (by simp),H2.out];simp only;rw[if_pos hc2])
   have z8:=Z5.out;have HP:=ad (z8.zo 0 0 ⟨#[]⟩ 0 0 0 (.slice none 0 0));have HBN:=ad (HB5.out.trans (aU HP.out.2 ab HB5.out.size));obtain⟨z0,z1,z2,z3,z4,z5,z6⟩:=z8.cells;have g0:=z8.frozen 0;have g1:=z8.frozen 1;have g2:=z8.frozen 2;have g3:=z8.frozen 3;have g4:=z8.frozen 4;have g5:=z8.frozen 5;have g6:=z8.frozen 6;clear H1 H2 z8;go_wp2
   (try simp only[Exit.inBlock,Exit.then])
   refine bodyPost_ret (fJ rfl _ _ w.heap.size _ _ _ _ rfl HP.out.1 underlying95 rfl ij) rfl ?_;exact⟨0,0,⟨#[]⟩,0,0,0,_,[],⟨#[]⟩,c2,rfl,HT,World.ownsRow_nil _ _ _ _,Nat.zero_le _,(fun e he=>by cases he),by simp,Nat.zero_le _,HBN.out⟩
 ·have hcb:((c1:Int) != 0)=true:=by simp;omega
  have hcb':((c1:Int)==0)=false:=by simp;omega
  have HT:=ad (show Evt.take s.data.toList=(Evt.lx,[],c1)by
   unfold Evt.take;simp only;rw[H1.out];simp only;rw[if_pos hc1])
  have z8:=Z3.out;have HP:=ad (z8.zo 0 0 ⟨#[]⟩ 0 0 0 (.slice none 0 0));have HBN:=ad (HB3.out.trans (aU HP.out.2 ab HB3.out.size));obtain⟨z0,z1,z2,z3,z4,z5,z6⟩:=z8.cells;have g0:=z8.frozen 0;have g1:=z8.frozen 1;have g2:=z8.frozen 2;have g3:=z8.frozen 3;have g4:=z8.frozen 4;have g5:=z8.frozen 5;have g6:=z8.frozen 6;clear H1 z8;go_wp2
  (try simp only[Exit.inBlock,Exit.then])
  refine bodyPost_ret (fJ rfl _ _ w.heap.size _ _ _ _ rfl HP.out.1 underlying95 rfl ij) rfl ?_;exact⟨0,0,⟨#[]⟩,0,0,0,_,[],⟨#[]⟩,c1,rfl,HT,World.ownsRow_nil _ _ _ _,Nat.zero_le _,(fun e he=>by cases he),by simp,Nat.zero_le _,HBN.out⟩
def aM (ps:List (Evt.Entry×Value)):List Value :=
 ps.flatMap fun p=>[.int .i64 p.1.pos,.int .i64 p.1.epoch,.string ⟨p.1.b.stream.toArray⟩,.int .i64 p.1.b.expect,.int .i64 p.1.b.br,.int .i64 p.1.b.seq,p.2]
theorem rB (p:Evt.Entry×Value) (ps:List (Evt.Entry×Value)):aM (p::ps)=.int .i64 p.1.pos::.int .i64 p.1.epoch::.string ⟨p.1.b.stream.toArray⟩::.int .i64 p.1.b.expect::.int .i64 p.1.b.br::.int .i64 p.1.b.seq::p.2::aM ps:=rfl
theorem lF:∀(ps:List (Evt.Entry×Value)),(aM ps).length=ps.length*7
 |[]=>rfl
 |p::ps=>by rw[rB];simp only[List.length_cons,lF ps];omega
theorem pF:∀(ps:List (Evt.Entry×Value)) (i:Nat) (hi:i<ps.length),
 (aM ps)[i*7]?=some (.int .i64 ps[i].1.pos)/\(aM ps)[i*7+1]?=some (.int .i64 ps[i].1.epoch)/\(aM ps)[i*7+2]?=some (.string ⟨ps[i].1.b.stream.toArray⟩)/\(aM ps)[i*7+3]?=some (.int .i64 ps[i].1.b.expect) /\
  (aM ps)[i*7+4]?=some (.int .i64 ps[i].1.b.br)/\(aM ps)[i*7+5]?=some (.int .i64 ps[i].1.b.seq)/\(aM ps)[i*7+6]?=some ps[i].2
 |p::ps,0,_=>⟨rfl,rfl,rfl,rfl,rfl,rfl,rfl⟩
 |p::ps,i+1,hi=>by
  have:=pF ps i (by simpa using hi);have e:∀k,(aM (p::ps))[(i+1)*7+k]?=(aM ps)[i*7+k]?:=fun k=>by
   rw[rB,show(i+1)*7+k=(i*7+k)+1+1+1+1+1+1+1 by omega];simp only[List.getElem?_cons_succ]
  have e0:=e 0;simp only[Nat.add_zero]at e0;simp only[e,e0,List.getElem_cons_succ];exact this
def l7 (e:Evt.Entry):Prop:=e.b.stream.length<=1000000/\Small e.b.events/\e.b.events.length<=1000000
def dk (w:World) (v:Value) (ps:List (Evt.Entry×Value)):Prop:=Cells w v 7 ps.length (aM ps)/\∀p∈ps,dp w p.2 p.1.b.events/\l7 p.1
def ag (ps:List (Evt.Entry×Value)):List Evt.Entry:=ps.map (·.1)
theorem dk.next {w w':World} {v:Value} {ps:List (Evt.Entry×Value)} (h:dk w v ps) (hb:Below w.heap.size w w'):dk w' v ps :=
 ⟨Cells.next h.1 hb,fun p hp=>⟨Cells.next (h.2 p hp).1 hb,(h.2 p hp).2⟩⟩
theorem jI {w:World} {v:Value} {ps:List (Evt.Entry×Value)} (h:dk w v ps) (i:Nat) (hi:i<ps.length) :
 ∃(b o c:Nat) (p ep:Int) (S:ByteArray) (ex se sq:Int) (sa:Option Addr) (sl sc:Nat) (es:List Evt.Event),v=.slice (some ⟨b,o,none⟩) ps.length c /\
  w.cell? ⟨b,o+i*7,none⟩=some (.int .i64 p)/\w.cell? ⟨b,o+i*7+1,none⟩=some (.int .i64 ep)/\w.cell? ⟨b,o+i*7+2,none⟩=some (.string S)/\w.cell? ⟨b,o+i*7+3,none⟩=some (.int .i64 ex)/\w.cell? ⟨b,o+i*7+4,none⟩=some (.int .i64 se)/\w.cell? ⟨b,o+i*7+5,none⟩=some (.int .i64 sq)/\w.cell? ⟨b,o+i*7+6,none⟩=some (.slice sa sl sc) /\
  dp w (.slice sa sl sc) es/\S.size<=1000000/\Small es/\es.length<=1000000/\Hid (ps[i].1=⟨p,ep,⟨S.data.toList,ex,se,sq,es⟩⟩)/\Hid (ps[i].2=.slice sa sl sc):=by
 rcases h.1.2 with⟨h0,_⟩|⟨b,o,c,h1,h2⟩
 ·omega
 ·obtain⟨k0,k1,k2,k3,k4,k5,k6⟩:=pF ps i hi;have hp:=h.2 ps[i] (List.getElem_mem hi);obtain⟨sa,sl,sc,hs⟩:=ee hp.1;obtain⟨S,hS,hS2,hS3⟩:=bf ps[i].1.b.stream;have q0:=h2 _ _ k0;have q1:=h2 _ _ k1;have q2:=h2 _ _ k2;have q3:=h2 _ _ k3;have q4:=h2 _ _ k4;have q5:=h2 _ _ k5;have q6:=h2 _ _ k6;rw[hS]at q2;rw[hs]at q6;refine⟨b,o,c,_,_,S,_,_,_,sa,sl,sc,ps[i].1.b.events,h1,q0,q1,q2,q3,q4,q5,q6,by rw[<-hs];exact hp.1,by rw[hS3];exact hp.2.1,hp.2.2.1,hp.2.2.2,?_,hs⟩;show ps[i].1=_;rw[hS2]
set_option maxHeartbeats 4000000 in
set_option maxRecDepth 100000 in
theorem nY (v:Value) (ps:List (Evt.Entry×Value)) (pos epoch:Int) (w:World) (hE:Env w) (hc:dk w v ps) (hn:ps.length<=1000000) (hp1 : -1000000000000<=pos) (hp2:pos<=1000000000000) :
 Calls prog 164 #[v,.int .i64 pos,.int .i64 epoch] w fun e w'=>e=.returned (.bool (Evt.follows (ag ps) pos epoch))/\Below w.heap.size w w':=by
 rcases cC hc.1 with⟨h0,a0,c0,rfl⟩|⟨b,o,c,rfl⟩
 ·have HN:=ad (aP h0);clear h0;go_enter func164,ntmps164;go_wp2
  go_loopw [11] (fun lv wr=>lv=.int .i64 0/\wr=w) (fun _ _=>0)
  case atStart=>exact⟨rfl,rfl⟩
  case round =>
   obtain⟨rfl,rfl⟩:=hrel;go_wp2;go_ret;exact⟨dR (by rw[HN.out];rfl),ae _ _⟩
 ·have HC:=ad hc;clear hc;go_enter func164,ntmps164;go_wp2
  go_loopw [1,2,11] (fun pv ev lv wr=>∃(i:Nat) (p e:Int),pv=.int .i64 p/\ev=.int .i64 e/\lv=.int .i64 i/\i<=ps.length/\-1000000000000<=p/\p<=1000000000000/\Below w.heap.size w wr/\Env wr/\Evt.follows (ag (ps.drop i)) p e=Evt.follows (ag ps) pos epoch) (fun _ _ lv _=>ps.length-(intOf lv).toNat)
  case atStart=>exact⟨0,pos,epoch,rfl,rfl,rfl,by omega,hp1,hp2,ae _ _,hE,rfl⟩
  case round =>
   obtain⟨i,p0,e0,rfl,rfl,rfl,hi,hq1,hq2,hbw,hEr,hf⟩:=hrel;have HF:=ad hf;clear hf;by_cases hp:i<ps.length
   ·obtain⟨b',o',c',p,ep,S,ex,se,sq,sa,sl,sc,es,hv,k0,k1,k2,k3,k4,k5,k6,hev,hS,hsm,hes,hpe,_⟩:=jI HC.out i hp;cases hv;have k0:=cell_kept hbw ab k0;have k1:=cell_kept hbw ab k1;have k2:=cell_kept hbw ab k2;have k3:=cell_kept hbw ab k3;have k4:=cell_kept hbw ab k4;have k5:=cell_kept hbw ab k5;have k6:=cell_kept hbw ab k6;have hev1:=Cells.next hev hbw;have hb1:Below w.heap.size w (wr.alloc (.cells #[.int .i64 p,.int .i64 ep,.string S,.int .i64 ex,.int .i64 se,.int .i64 sq,.slice sa sl sc] 95)):=hbw.alloc hbw.size _;have HD:=ad (show ag (ps.drop i)=⟨p,ep,⟨S.data.toList,ex,se,sq,es⟩⟩::ag (ps.drop (i+1))by rw[List.drop_eq_getElem_cons hp,<-hpe.out];rfl);by_cases h1:p=p0+1
    ·have h1b:(p != p0+1)=false:=by simp[h1]
     have hw1:wrap64 (p0+1)=p0+1:=IntWalk.wrap64_in _ (by omega);by_cases h2:ep<e0
     ·have HN:=ad (show Evt.follows (ag ps) pos epoch=false by rw[<-HF.out,HD.out,Evt.follows,if_pos (.inr (.inl h2))]);clear HF HD h1;go_wp2;go_ret;exact⟨dR (by rw[HN.out]),hb1⟩
     ·have hE1:=hEr.next ((ae _ wr).alloc ab (.cells #[.int .i64 p,.int .i64 ep,.string S,.int .i64 ex,.int .i64 se,.int .i64 sq,.slice sa sl sc] 95));have eb1:EB wr.heap.size p ep S ex se sq (.slice sa sl sc) (wr.alloc (.cells #[.int .i64 p,.int .i64 ep,.string S,.int .i64 ex,.int .i64 se,.int .i64 sq,.slice sa sl sc] 95)):=heap_alloc_new wr _;have hev2:=Cells.next hev1 ((ae _ wr).alloc ab (.cells #[.int .i64 p,.int .i64 ep,.string S,.int .i64 ex,.int .i64 se,.int .i64 sq,.slice sa sl sc] 95));have HRI:=ad (ji p ep S ex se sq _ es _ hE1 hS hev2 hes hsm);have HEB:=ad eb1;have h2':e0<=ep:=by omega
      have H1:=ad h1;clear eb1 h1;go_wp2_with fail;refine HRI.out.mono ?_;rintro e w2 ⟨rfl,b2⟩;have hb2:=Below.up hb1 ab b2;have hE2:=hE1.next b2;obtain⟨j0,j1,j2,j3,j4,j5,j6⟩:=(HEB.out.next b2).cells;cases hr:Evt.bC ⟨p,ep,⟨S.data.toList,ex,se,sq,es⟩⟩with
      |false =>
       have HN:=ad (show Evt.follows (ag ps) pos epoch=false by rw[<-HF.out,HD.out,Evt.follows,if_pos (.inr (.inr hr))]);clear HF HD hr HRI HEB b2;go_wp2;go_ret;exact⟨dR (by rw[HN.out]),hb2⟩
      |true =>
       have HN:=ad (show Evt.follows (ag (ps.drop (i+1))) p ep=Evt.follows (ag ps) pos epoch by
        rw [← HF.out, HD.out, Evt.follows, if_neg (by simp only [hr]; intro h; rcases h with h | h | h
                                                      · exact h H1.out
                                                      · omega
                                                      · cases h)])
       have hpr:=(Evt.fw p).1 (Evt.kE.1 hr).1;clear HF HD hr HRI HEB b2 k0 k1 k2 k3 k4 k5 k6 hev hev1 hev2;go_wp2;go_quiet (fail);go_wp2;exact⟨⟨i+1,p,ep,rfl,rfl,by go_num,by omega,by omega,by omega,below_drewN hb2 _,hE2.next (below_drewN (ae _ _) _),HN.out⟩,by simp[intOf];omega⟩
    ·have h1b:(p != p0+1)=true:=by simp[h1]
     have hw1:wrap64 (p0+1)=p0+1:=IntWalk.wrap64_in _ (by omega);have HN:=ad (show Evt.follows (ag ps) pos epoch=false by rw[<-HF.out,HD.out,Evt.follows,if_pos (.inl h1)]);clear HF HD;go_wp2;go_ret;exact⟨dR (by rw[HN.out]),hb1⟩
   ·obtain rfl:i=ps.length:=by omega
    have HN:=ad (show Evt.follows (ag ps) pos epoch=true by rw[<-HF.out,List.drop_length];rfl);go_wp2;go_ret;exact⟨dR (by rw[HN.out]),hbw⟩
end Go.Proofs.YtmgmknmaepjnoaaGreatDoor
