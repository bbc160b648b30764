/-
  Plain Lean, no program in sight: what Propose and Accept make of logs, one a beginning of the other. A replica's waits, Dirty, Waits.
-/
import Derived.Test.YtmgmknmaepjnoaaGreatDoorRep2
import Derived.Test.YtmgmknmaepjnoaaGreatDoorRep3
namespace Go.Proofs.YtmgmknmaepjnoaaGreatDoor
open Go.RowKit Go.Shelf Proofs.Tryz
section
namespace Lg
theorem pL:∀(L:List Evt.Entry),(af.aQ L).length<=8008*L.length
 |[]=>by simp[af.aQ]
 |e::l=>by
  have ih:=pL l;have h1:=(af.lB e).2;have h2:af.aQ (e::l)=Frm.bH (af.dx e)++af.aQ l:=rfl;rw[h2,List.length_append,Frm.gy,List.length_cons];omega
theorem JK {ex fs:List Dk.ai} {next:Int} {ar:List Int} {L:List Evt.Entry} (h:Holds ex fs next ar L) (k:Nat) (hk:L.length+k<=400000):BK k (aL next ar L):=by
 obtain⟨r1,r2,r3,r4⟩:=al.dC h.right;refine⟨by rw[show(aL next ar L).parts.length=ar.length from qM ar];omega,by show L.length+k<=500000;omega,by show 0<=next;omega,by show next+(k:Int)<=2147483648;omega,fun p hp=>?_⟩;obtain⟨i,hi⟩:=List.mem_iff_getElem?.1 hp;have hi2:(partsOf ar)[i]?=some p:=hi;rw[zs]at hi2;cases hn:ar[i]? with
 |none=>rw[hn]at hi2;cases hi2
 |some n =>
  rw[hn]at hi2;simp only[Option.map_some,Option.some.injEq]at hi2;subst hi2;have:=(List.getElem?_eq_some_iff.1 hn).1;simp only;omega
theorem Hi {ex fs:List Dk.ai} {next room E:Int} {ar:List Int} {L:List Evt.Entry} {b:Evt.Batch} (h:Holds ex fs next ar L) (hep:(al.cx fs).1=E) (hle:E<=274877906944) (hf:Evt.fits b=0) (h1:1<=E) (he:dd L<=E) (hl:L.length<=100) (hn:next<=1000)
 (hr:(1600+2*(af.aQ (L++[⟨(L.length:Int)+1,E,b⟩])).length:Int)<=room-Dk.total ex) :
 ∃f2 next2 nums2,ma room b (aL next ar L) fs=((f2,aL next2 nums2 (L++[⟨(L.length:Int)+1,E,b⟩])),0)/\Holds ex f2 next2 nums2 (L++[⟨(L.length:Int)+1,E,b⟩])/\next2<=next+1:=by
 have hfe:dz fs=E:=by unfold dz;rw[hep]
 have hfo:Evt.follows (L++[⟨(L.length:Int)+1,E,b⟩]) 0 0=true:=by
  rw[pw h.l9];refine af.dh.2 ⟨rfl,he,?_,rfl⟩;simp only[Evt.bC,Evt.number,hf,Bool.and_eq_true,decide_eq_true_eq,beq_self_eq_true,and_true];exact⟨⟨by omega,by omega⟩,h1,hle⟩
 have hlen:(L++[(⟨(L.length:Int)+1,E,b⟩:Evt.Entry)]).length=L.length+1:=by simp
 obtain⟨f2,n2,nums2,q1,q2,q3,_⟩:=h.append (room:=room) [⟨(L.length:Int)+1,E,b⟩] hfo (by omega) (by simp;omega) hr;refine⟨f2,n2,nums2,?_,q2,by simpa using q3⟩;unfold ma;rw[if_neg (by rw[hf];simp),if_neg (by rw[hfe];show ¬(E=0\/E<dd L);omega)];have:rR (aL next ar L) fs b=⟨(L.length:Int)+1,E,b⟩:=by unfold rR;rw[hfe];rfl
 rw[this];exact q1
theorem uR {L:List Evt.Entry} {i:Nat} {e:Evt.Entry} (h:L[i]?=some e):cR L ((i:Int)+1)=(e.epoch,true):=by
 unfold cR;rw[if_neg (by omega),show((i:Int)+1-1).toNat=i by omega,h]
theorem Ao {L:List Evt.Entry} {i:Nat} (h:L.length<=i):cR L ((i:Int)+1)=(0,false):=by
 unfold cR;rw[if_neg (by omega),show((i:Int)+1-1).toNat=i by omega,List.getElem?_eq_none h]
theorem rV (L:List Evt.Entry):cR L 0=(0,true):=by unfold cR;rw[if_pos (by omega)];rfl
theorem rW {L:List Evt.Entry} {k:Nat} (hk:k<=L.length):(cR L (k:Int)).1=dd (L.take k):=by
 cases k with
 |zero=>rw[show((0:Nat):Int)=0 from rfl,rV];rfl
 |succ i =>
  have hi:i<L.length:=hk;rw[show((i+1:Nat):Int)=(i:Int)+1 by omega,uR (aR hi)];have hl:(L.take (i+1)).length=i+1:=by rw[List.length_take];omega
  rw[ml (e:=L[i]) (by rw[hl,show i+1-1=i by omega,List.getElem?_take,if_pos (by omega),aR hi])]
theorem CI {L:List Evt.Entry} (h:Evt.follows L 0 0=true) {k:Nat} (hk:k<=L.length) (m:Nat):Evt.follows ((L.drop k).take m) (k:Int) (cR L (k:Int)).1=true:=by
 have h1:Evt.follows (L.take k++L.drop k) 0 0=true:=by rw[List.take_append_drop];exact h
 have h0:=((af.cQ _ _ _ _).1 h1).1;have h2:=(pw h0).1 h1;rw[List.length_take,Nat.min_eq_left hk,<-rW hk]at h2;have h3:Evt.follows ((L.drop k).take m++(L.drop k).drop m) (k:Int) (cR L (k:Int)).1=true:=by rw[List.take_append_drop];exact h2
 exact((af.cQ _ _ _ _).1 h3).1
theorem pos_at {L:List Evt.Entry} (h:Evt.follows L 0 0=true) {k:Nat} (hk:k<L.length):L[k].pos=(k:Int)+1:=by
 have h2:=CI h (Nat.le_of_lt hk) 1;rw[List.drop_eq_getElem_cons hk]at h2;exact(af.dh.1 h2).1
theorem Ak {L:List Evt.Entry} (h:Evt.follows L 0 0=true) (k:Nat):Evt.follows (L.take k) 0 0=true:=by
 have h1:Evt.follows (L.take k++L.drop k) 0 0=true:=by rw[List.take_append_drop];exact h
 exact((af.cQ _ _ _ _).1 h1).1
theorem Cn {L:List Evt.Entry} {j k:Nat} (hkj:k<j):(L.take j)[k]?=L[k]?:=by rw[List.getElem?_take,if_pos hkj]
theorem yX {L:List Evt.Entry} (h:Evt.follows L 0 0=true) (j:Nat):∀(m k:Nat),k<=j->kC (L.take j) ((L.drop k).take m)=(L.drop j).take (k+m-j)
 |0,k,hk=>by rw[List.take_zero,show k+0-j=0 by omega,List.take_zero];rfl
 |m+1,k,hk=>by
  by_cases hkl:k<L.length
  ·rw[List.drop_eq_getElem_cons hkl,List.take_succ_cons,kC,pos_at h hkl];by_cases hkj:k<j
   ·rw[uR (e:=L[k]) (by rw[Cn hkj,aR hkl]),if_pos ⟨rfl,rfl⟩,yX h j m (k+1) hkj,show k+1+m-j=k+(m+1)-j by omega]
   ·obtain rfl:k=j:=by omega
    rw[Ao (by rw[List.length_take];omega),if_neg (by simp),show k+(m+1)-k=m+1 by omega,List.drop_eq_getElem_cons hkl,List.take_succ_cons]
  ·rw[List.drop_eq_nil_of_le (by omega),List.drop_eq_nil_of_le (by omega),List.take_nil,List.take_nil];rfl
theorem GI {ex fs:List Dk.ai} {next room app:Int} {ar:List Int} {L:List Evt.Entry} {j k m:Nat} (hL:Evt.follows L 0 0=true) (hj:j<=L.length) (hk:k<=L.length) (h:Holds ex fs next ar (L.take j)) (hl:L.length<=60) (hn:next<=1000) (hr:(1600+2*(8008*60):Int)<=room-(Dk.total ex:Int)) :
 ∃f2 next2 nums2 j2 c,ku room (k:Int) (cR L (k:Int)).1 app ((L.drop k).take m) (aL next ar (L.take j)) fs=((f2,aL next2 nums2 (L.take j2)),c)/\Holds ex f2 next2 nums2 (L.take j2)/\j2<=L.length/\j<=j2/\next2<=next+(j2-j:Nat)/\(k<=j->c=0/\min (k+m) L.length<=j2):=by
 unfold ku;rw[if_neg (by rw[CI hL hk m];simp)];have hes:(aL next ar (L.take j)).es=L.take j:=rfl;rw[hes];by_cases hkj:k<=j
 ·have hep:(cR (L.take j) (k:Int)).2=true/\(cR (L.take j) (k:Int)).1=(cR L (k:Int)).1:=by
   cases k with
   |zero=>rw[show((0:Nat):Int)=0 from rfl,rV,rV];exact⟨rfl,rfl⟩
   |succ i =>
    have hi:i<L.length:=hk;rw[show((i+1:Nat):Int)=(i:Int)+1 by omega,uR (aR hi),uR (e:=L[i]) (by rw[Cn (by omega),aR hi])];exact⟨rfl,rfl⟩
  rw[if_neg (by rw[hep.1,hep.2];simp),yX hL j m k hkj];obtain⟨q,hq⟩:∃q,k+m-j=q:=⟨_,rfl⟩;rw[hq];have hput:zl room app ((L.drop j).take q) (aL next ar (L.take j)) fs=fQ room ((L.drop j).take q) (aL next ar (L.take j)) fs:=by
   cases hc:(L.drop j).take q with
   |nil=>rfl
   |cons e r =>
    have hjl:j<L.length:=by
     refine Nat.lt_of_not_le fun hle=>?_;rw[List.drop_eq_nil_of_le hle,List.take_nil]at hc;cases hc
    have he:e=L[j]:=by
     rw[List.drop_eq_getElem_cons hjl]at hc;cases q with
     |zero=>rw[List.take_zero]at hc;cases hc
     |succ q=>rw[List.take_succ_cons]at hc;cases hc;rfl
    unfold zl;rw[he];show(if (cR (L.take j) L[j].pos).2=false then _ else _)=_;rw[pos_at hL hjl,Ao (by rw[List.length_take];omega)];simp
  rw[hput];have htk:L.take j++(L.drop j).take q=L.take (j+q):=by rw[List.take_add]
  have hlq:((L.drop j).take q).length<=L.length-j:=by rw[List.length_take,List.length_drop];omega
  have hb:=pL (L.take (j+q));have hlt:(L.take (j+q)).length<=60:=by rw[List.length_take];omega
  obtain⟨f2,n2,nums2,q1,q2,q3,_⟩:=h.append (room:=room) ((L.drop j).take q) (by rw[htk];exact Ak hL _) (by rw[htk];omega) (by omega) (by rw[htk];omega);rw[htk]at q1 q2;have hmin:L.take (j+q)=L.take (min (j+q) L.length):=by
   by_cases h9:j+q<=L.length
   ·rw[Nat.min_eq_left h9]
   ·rw[Nat.min_eq_right (by omega),List.take_length,List.take_of_length_le (by omega)]
  rw[hmin]at q1 q2;refine⟨f2,n2,nums2,min (j+q) L.length,0,q1,q2,Nat.min_le_right _ _,by omega,?_,fun _=>⟨rfl,by omega⟩⟩;have:((L.drop j).take q).length=min (j+q) L.length-j:=by rw[List.length_take,List.length_drop];omega
  rw[this]at q3;exact q3
 ·have hep:(cR (L.take j) (k:Int)).2=false:=by
   obtain⟨i,rfl⟩:∃i,k=i+1:=⟨k-1,by omega⟩;rw[show((i+1:Nat):Int)=(i:Int)+1 by omega,Ao (by rw[List.length_take];omega)]
  rw[if_pos (.inl hep)];exact⟨fs,next,ar,j,11,rfl,h,hj,ab,by simp,fun h9=>absurd h9 hkj⟩
theorem wO {L:List Evt.Entry} {k:Nat} {m:Int} (hk:k<=L.length) (hm:0<=m):dT ((k:Int)+1) m L=(L.drop k).take m.toNat:=by
 unfold dT gK iA;have h1:max ((k:Int)+1) 1=(k:Int)+1:=by omega
 have h2:min ((k:Int)+1) ((L.length:Int)+1)=(k:Int)+1:=by omega
 rw[gK,h1,h2,show((k:Int)+1-1).toNat=k by omega,Int.max_eq_left hm];by_cases h3:m<=(L.length:Int)+1-((k:Int)+1)
 ·rw[Int.min_eq_left h3]
 ·rw[Int.min_eq_right (by omega),List.take_of_length_le (by rw[List.length_drop];omega),List.take_of_length_le (by rw[List.length_drop];omega)]
theorem FA {L:List Evt.Entry} {m:Int} (hm:(L.length:Int)<=m):dT 1 m L=L:=by
 have:=wO (L:=L) (k:=0) (m:=m) (Nat.zero_le _) (by omega);rw[show((0:Nat):Int)+1=1 by omega,List.drop_zero,List.take_of_length_le (by omega)]at this;exact this
end Lg
variable {R:(Nat->Prop)->(Nat->Prop)->World->Prop} {a w w0 w':World} {r lg d sb:Nat} {room:Int} {s s':Lg.S} {fs fs':List Dk.ai} {st st':Stat} {TL TS X:Nat->Prop} {J:List (Nat×Obj)}
set_option maxHeartbeats 1000000 in
theorem JH (bS:Nat) (nm:ByteArray) (S:ByteArray) (ex se sq:Int) (v:Value) (w:World) (hb:w.cell? ⟨bS,0,none⟩=some (.string nm)) (hv:∃a l c,v=.slice a l c) :
 Calls prog 112 #[.agg #[.string S,.int .i64 ex,.int .i64 se,.int .i64 sq,v],.pointer (some ⟨bS,0,none⟩)] w fun e w'=>e=.returned (.bool (S.toList==nm.toList))/\Below w.heap.size w w':=by
 obtain⟨sa,sl,sc,rfl⟩:=hv;have ba:Below w.heap.size w (w.alloc (.cells #[.string S,.int .i64 ex,.int .i64 se,.int .i64 sq,.slice sa sl sc] 38)):=(ae _ _).alloc ab _;have hb:=cell_kept ba ab hb;have HB:=ad ba;clear ba;go_enter func112,ntmps112;go_wp2;go_ret;exact⟨rfl,HB.out⟩
set_option maxHeartbeats 2000000 in
theorem JR (bS:Nat) (nm:ByteArray) (bI:Nat) (p ep:Int) (S:ByteArray) (ex se sq:Int) (v:Value) (w:World) (hi:w.cell? ⟨bI,0,none⟩=some (.func (.func 112) #[] #[.pointer (some ⟨bS,0,none⟩)])) (hb:w.cell? ⟨bS,0,none⟩=some (.string nm)) (hv:∃a l c,v=.slice a l c) :
 Calls prog 160 #[.agg #[.int .i64 p,.int .i64 ep,.string S,.int .i64 ex,.int .i64 se,.int .i64 sq,v],.pointer (some ⟨bI,0,none⟩)] w fun e w'=>e=.returned (.bool (S.toList==nm.toList))/\Below w.heap.size w w':=by
 obtain⟨sa,sl,sc,rfl⟩:=hv;obtain⟨W1,hW1⟩:∃W1,w.alloc (.cells #[.int .i64 p,.int .i64 ep,.string S,.int .i64 ex,.int .i64 se,.int .i64 sq,.slice sa sl sc] 95)=W1:=⟨_,rfl⟩;have ba:Below w.heap.size w W1:=by rw[<-hW1];exact(ae _ _).alloc ab _
 have he:bG W1 w.heap.size p ep S ex se sq (.slice sa sl sc):=by rw[<-hW1];exact heap_alloc_new w _
 have hi:=cell_kept ba ab hi;have hb:=cell_kept ba ab hb;have HI:=ad (JH bS nm S ex se sq (.slice sa sl sc) W1 hb ⟨_,_,_,rfl⟩);obtain⟨q0,q1,q2,q3,q4,q5,q6⟩:=he.cells;have HB:=ad ba;have HW1:=ad hW1;rw[<-hW1]at hi q0 q1 q2 q3 q4 q5 q6;clear ba hb he hW1;go_enter func160,ntmps160;go_wp2_with fail;rw[HW1.out];refine HI.out.mono ?_;rintro e w1 ⟨rfl,b1⟩;have HBB:=ad (HB.out.trans (b1.mono HB.out.size));clear b1 HI hi q0 q1 q2 q3 q4 q5 q6;go_wp2;go_ret;exact⟨rfl,HBB.out⟩
set_option maxHeartbeats 4000000 in
set_option maxRecDepth 100000 in
theorem Ir (bS:Nat) (nm:ByteArray) (bI:Nat) (v:Value) (qs:List bu) (w:World) (hc:dk w v qs) (hn:qs.length<=1000000) (hi:w.cell? ⟨bI,0,none⟩=some (.func (.func 112) #[] #[.pointer (some ⟨bS,0,none⟩)])) (hb:w.cell? ⟨bS,0,none⟩=some (.string nm)) :
 Calls prog 206 #[v,.func (.func 160) #[] #[.pointer (some ⟨bI,0,none⟩)]] w fun e w'=>∃x:Int,e=.returned (.int .i64 x)/\Hid (decide (0<=x)=(ag qs).any fun e=>(e.b.stream==nm.data.toList))/\Below w.heap.size w w':=by
 obtain⟨va,vc,rfl⟩:=aJ hc.1;have HC:=ad hc;have HI:=ad hi;have HBX:=ad hb;clear hc hb hi;go_enter func206,ntmps206;go_wp2
 go_loopw [8] (fun lv wr=>∃i:Nat,lv=.int .i64 i/\i<=qs.length/\Below w.heap.size w wr/\Hid (((ag qs).any fun e=>(e.b.stream==nm.data.toList))=(ag (qs.drop i)).any fun e=>(e.b.stream==nm.data.toList))) (fun lv _=>qs.length-(intOf lv).toNat)
 case atStart=>exact⟨0,rfl,by omega,ae _ _,ad (by simp)⟩
 case round =>
  obtain⟨i,rfl,hi,hbw,HK⟩:=hrel;by_cases hp:i<qs.length
  ·obtain⟨b,o,c,p,ep,S,ex,se,sq,sa,sl,sc,es,hv,q0,q1,q2,q3,q4,q5,q6,_,_,_,_,hpe,hp2⟩:=jI (HC.out.next hbw) i hp;cases hv;have hb:=HBX.out;have hb:=cell_kept hbw ab hb;have HF:=ad (JR bS nm bI p ep S ex se sq (.slice sa sl sc) wr (cell_kept hbw ab HI.out) hb ⟨_,_,_,rfl⟩);obtain⟨T,hT⟩:∃T,(S.toList==nm.toList)=T:=⟨_,rfl⟩;rw[hT]at HF;have HX:=ad (show((ag qs).any fun e=>(e.b.stream==nm.data.toList))=(T||(ag (qs.drop (i+1))).any fun e=>(e.b.stream==nm.data.toList))by
    have e0:(qs[i]).1=⟨p,ep,⟨S.data.toList,ex,se,sq,es⟩⟩:=hpe.out;rw[HK.out,List.drop_eq_getElem_cons hp,<-hT];show(((qs[i]).1.b.stream==nm.data.toList)||_)=_;rw[e0];rw[Lib.toList_data,Lib.toList_data];rfl)
   have HBW:=ad hbw;clear hbw HK hpe hp2 hb hT;go_wp2_with fail;refine HF.out.mono ?_;rintro e w1 ⟨rfl,b1⟩;have hb1:=Below.up HBW.out ab b1;cases T with
   |true =>
    have HE:=ad (show((ag qs).any fun e=>(e.b.stream==nm.data.toList))=true by rw[HX.out];rfl);have HB1:=ad hb1;clear hb1 b1 HF HX;go_wp2;go_ret;exact⟨_,rfl,ad (by rw[HE.out];simp),HB1.out⟩
   |false =>
    have HE:=ad (show((ag qs).any fun e=>(e.b.stream==nm.data.toList))=(ag (qs.drop (i+1))).any fun e=>(e.b.stream==nm.data.toList)by rw[HX.out];rfl);clear b1 HF HX;go_wp2;exact⟨⟨i+1,by go_num,by omega,hb1,HE⟩,by simp[intOf];omega⟩
  ·have HE:=ad (show((ag qs).any fun e=>(e.b.stream==nm.data.toList))=false by rw[HK.out,List.drop_eq_nil_of_le (by omega)];rfl);obtain rfl:i=qs.length:=by omega
   clear HK;go_wp2;go_ret;exact⟨-1,rfl,ad (by rw[HE.out];rfl),hbw⟩
set_option maxHeartbeats 1000000 in
theorem IC (bS:Nat) (nm:ByteArray) (bI:Nat) (v:Value) (qs:List bu) (w:World) (hc:dk w v qs) (hn:qs.length<=1000000) (hi:w.cell? ⟨bI,0,none⟩=some (.func (.func 112) #[] #[.pointer (some ⟨bS,0,none⟩)])) (hb:w.cell? ⟨bS,0,none⟩=some (.string nm)) :
 Calls prog 159 #[v,.func (.func 160) #[] #[.pointer (some ⟨bI,0,none⟩)]] w fun e w'=>e=.returned (.bool ((ag qs).any fun e=>(e.b.stream==nm.data.toList)))/\Below w.heap.size w w':=by
 have HI:=ad (Ir bS nm bI v qs w hc hn hi hb);clear hc hb hi;go_enter func159,ntmps159;go_wp2_with fail;refine HI.out.mono ?_;rintro e w1 ⟨x,rfl,HR,b1⟩;have HB:=ad b1;clear b1 HI;go_wp2;go_ret;exact⟨by rw[<-HR.out];rfl,HB.out⟩
set_option maxHeartbeats 4000000 in
set_option maxRecDepth 100000 in
theorem CY (bS:Nat) (nm:ByteArray) (h:RR R J a r lg d sb room s fs st w) (hR:aC a R) (hn:s.es.length<=300000) (happ:st.app<=1000000000000) (hb:w.cell? ⟨bS,0,none⟩=some (.string nm)) :
 Calls prog 105 #[.pointer (some ⟨r,0,none⟩),.func (.func 112) #[] #[.pointer (some ⟨bS,0,none⟩)]] w fun e w'=>e=.returned (.bool ((dT (st.app+1) s.es.length s.es).any fun e=>(e.b.stream==nm.data.toList)))/\Below w.heap.size w w':=by
 obtain⟨W1,hW1⟩:∃W1,w.alloc (.cells #[.func (.func 112) #[] #[.pointer (some ⟨bS,0,none⟩)]] 200)=W1:=⟨_,rfl⟩;have ba:Below w.heap.size w W1:=by rw[<-hW1];exact(ae _ _).alloc ab _
 have hi:W1.cell? ⟨w.heap.size,0,none⟩=some (.func (.func 112) #[] #[.pointer (some ⟨bS,0,none⟩)]):=by
  rw[<-hW1,aw (heap_alloc_new w _)];rfl
 have hb:=cell_kept ba ab hb;have h1:=h.next hR ba;have hbx:=h1.box.cells.2.1;have h0:=h.ok.a;have hw1:IntKind.i64.wrap (st.app+1)=st.app+1:=by rw[IntKind.wrap_i64];omega
 have HKS:=ad (show ∀Z,Below W1.heap.size W1 Z->Z.cell? ⟨r,1,none⟩=some (.pointer (some ⟨lg,0,none⟩))from fun Z hb=>cell_kept hb ab hbx);have HCM:=ad (fun W (hb:Below W1.heap.size W1 W)=>gW (h1.next hR hb));have HLA:=ad (fun W (hb:Below W1.heap.size W1 W)=>ly (h1.next hR hb));have HRG:=ad (fun W (hb:Below W1.heap.size W1 W)=>nW (st.app+1) (s.es.length:Int) (h1.next hR hb) hR (by omega));have H1:=ad (aB ba (aB hi hb));have HW1:=ad hW1;clear h h1 hbx ba hi hb hW1;go_enter func105,ntmps105;go_upto_region 1 with fail;try rw[HW1.out]
 go_cut [5] (fun lv wx=>∃va qs vc,lv=.slice va (qs.length:Nat) vc/\Hid (ag qs=dT (st.app+1) (s.es.length:Int) s.es)/\Hid (dk wx (.slice va qs.length vc) qs)/\Hid (Below W1.heap.size W1 wx))
 case first =>
  go_region_held3 (fun Z=>Z.cell? ⟨r,1,none⟩=some (.pointer (some ⟨lg,0,none⟩)))
   ((refine HKS.out _ ?_; first
     | with_reducible exact ae _ W1
     | with_reducible exact (ae _ W1).drew
     | with_reducible exact HB5.out))
   (first
    |(go_at_call 42;refine(HCM.out _ (ae _ W1).drew).mono ?_;rintro e w5 ⟨rfl,rfl⟩)
    |(go_at_call 41;refine(HLA.out _ (ae _ W1).drew).mono ?_;rintro e w5 ⟨rfl,rfl⟩)
    |(go_at_call 89;refine(HRG.out _ (ae _ W1).drew).mono ?_;rintro e w5 ⟨va,qs,vc,rfl,hpl,hcap,hrr,b5⟩;have HB5:=ad (show Below W1.heap.size W1 w5 from(ae _ W1).drew.trans b5);have HEN:=ad hrr.out.ey;clear b5 hcap hrr))
  all_goals go_wp2
  all_goals go_meet
  all_goals exact⟨va,qs,vc,rfl,hpl,HEN,HB5⟩
 case rest =>
  obtain⟨va,qs,vc,rfl,HPL,HEN,HBW⟩:=hcut;have hql:qs.length<=s.es.length:=by
   have h1:(ag qs).length<=s.es.length:=by
    rw[HPL.out,dT,List.length_take,List.length_drop];omega
   simpa[ag]using h1
  have hbW:=HBW.out;have hb:=H1.out.2.2;have hb:=cell_kept hbW ab hb;have HCO:=IC bS nm w.heap.size (.slice va qs.length vc) qs wc HEN.out (by omega) (cell_kept hbW ab H1.out.2.1) hb;rw[HPL.out]at HCO;have HCO:=ad HCO;have HBF:=ad (H1.out.1.trans (hbW.mono H1.out.1.size));clear HCM HLA HRG HKS hbW hb;go_wp2_with fail;refine HCO.out.mono ?_;rintro e w6 ⟨rfl,b6⟩;have HB6:=ad (Below.up HBF.out ab b6);clear b6 HCO;go_wp2;go_ret;exact⟨rfl,HB6.out⟩
set_option maxHeartbeats 1000000 in
theorem zh (nm:ByteArray) (h:RR R J a r lg d sb room s fs st w) (hR:aC a R) (hn:s.es.length<=300000) (happ:st.app<=1000000000000) :
 Calls prog 66 #[.pointer (some ⟨r,0,none⟩),.string nm] w fun e w'=>e=.returned (.bool ((dT (st.app+1) s.es.length s.es).any fun e=>(e.b.stream==nm.data.toList)))/\Below w.heap.size w w':=by
 have ba:Below w.heap.size w (w.alloc (.cells #[.string nm] 9)):=(ae _ _).alloc ab _;have hb:(w.alloc (.cells #[.string nm] 9)).cell? ⟨w.heap.size,0,none⟩=some (.string nm):=by
  rw[aw (heap_alloc_new w _)];rfl
 have HC:=ad (CY w.heap.size nm (h.next hR ba) hR hn happ hb);have HB:=ad ba;clear h ba hb;go_enter func66,ntmps66;go_wp2_with fail;refine HC.out.mono ?_;rintro e w1 ⟨rfl,b1⟩;have HBB:=ad (HB.out.trans (b1.mono HB.out.size));clear b1 HC;go_wp2;go_ret;exact⟨rfl,HBB.out⟩
set_option maxHeartbeats 1000000 in
theorem JG (b1 b2:Nat) (n1 n2:Int) (S:ByteArray) (ex se sq:Int) (v:Value) (w:World) (hb:w.cell? ⟨b1,0,none⟩=some (.int .i64 n1)/\w.cell? ⟨b2,0,none⟩=some (.int .i64 n2)) (hv:∃a l c,v=.slice a l c) :
 Calls prog 106 #[.agg #[.string S,.int .i64 ex,.int .i64 se,.int .i64 sq,v],.pointer (some ⟨b1,0,none⟩),.pointer (some ⟨b2,0,none⟩)] w fun e w'=>e=.returned (.bool (se==n1&&sq==n2))/\Below w.heap.size w w':=by
 obtain⟨sa,sl,sc,rfl⟩:=hv;have ba:Below w.heap.size w (w.alloc (.cells #[.string S,.int .i64 ex,.int .i64 se,.int .i64 sq,.slice sa sl sc] 38)):=(ae _ _).alloc ab _;have hb:=aB (cell_kept ba ab hb.1) (cell_kept ba ab hb.2);obtain⟨hb1,hb2⟩:=hb;have HB:=ad ba;clear ba;cases h1:se==n1 with
 |true =>
  go_enter func106,ntmps106;go_wp2;go_ret;exact⟨rfl,HB.out⟩
 |false =>
  go_enter func106,ntmps106;go_wp2;go_ret;exact⟨rfl,HB.out⟩
set_option maxHeartbeats 2000000 in
theorem JQ (b1 b2:Nat) (n1 n2:Int) (bI:Nat) (p ep:Int) (S:ByteArray) (ex se sq:Int) (v:Value) (w:World) (hi:w.cell? ⟨bI,0,none⟩=some (.func (.func 106) #[] #[.pointer (some ⟨b1,0,none⟩),.pointer (some ⟨b2,0,none⟩)])) (hb:w.cell? ⟨b1,0,none⟩=some (.int .i64 n1)/\w.cell? ⟨b2,0,none⟩=some (.int .i64 n2)) (hv:∃a l c,v=.slice a l c) :
 Calls prog 160 #[.agg #[.int .i64 p,.int .i64 ep,.string S,.int .i64 ex,.int .i64 se,.int .i64 sq,v],.pointer (some ⟨bI,0,none⟩)] w fun e w'=>e=.returned (.bool (se==n1&&sq==n2))/\Below w.heap.size w w':=by
 obtain⟨sa,sl,sc,rfl⟩:=hv;obtain⟨W1,hW1⟩:∃W1,w.alloc (.cells #[.int .i64 p,.int .i64 ep,.string S,.int .i64 ex,.int .i64 se,.int .i64 sq,.slice sa sl sc] 95)=W1:=⟨_,rfl⟩;have ba:Below w.heap.size w W1:=by rw[<-hW1];exact(ae _ _).alloc ab _
 have he:bG W1 w.heap.size p ep S ex se sq (.slice sa sl sc):=by rw[<-hW1];exact heap_alloc_new w _
 have hi:=cell_kept ba ab hi;have hb:=aB (cell_kept ba ab hb.1) (cell_kept ba ab hb.2);have HI:=ad (JG b1 b2 n1 n2 S ex se sq (.slice sa sl sc) W1 hb ⟨_,_,_,rfl⟩);obtain⟨q0,q1,q2,q3,q4,q5,q6⟩:=he.cells;have HB:=ad ba;have HW1:=ad hW1;rw[<-hW1]at hi q0 q1 q2 q3 q4 q5 q6;clear ba hb he hW1;go_enter func160,ntmps160;go_wp2_with fail;rw[HW1.out];refine HI.out.mono ?_;rintro e w1 ⟨rfl,b1⟩;have HBB:=ad (HB.out.trans (b1.mono HB.out.size));clear b1 HI hi q0 q1 q2 q3 q4 q5 q6;go_wp2;go_ret;exact⟨rfl,HBB.out⟩
set_option maxHeartbeats 4000000 in
set_option maxRecDepth 100000 in
theorem Io (b1 b2:Nat) (n1 n2:Int) (bI:Nat) (v:Value) (qs:List bu) (w:World) (hc:dk w v qs) (hn:qs.length<=1000000) (hi:w.cell? ⟨bI,0,none⟩=some (.func (.func 106) #[] #[.pointer (some ⟨b1,0,none⟩),.pointer (some ⟨b2,0,none⟩)])) (hb:w.cell? ⟨b1,0,none⟩=some (.int .i64 n1)/\w.cell? ⟨b2,0,none⟩=some (.int .i64 n2)) :
 Calls prog 206 #[v,.func (.func 160) #[] #[.pointer (some ⟨bI,0,none⟩)]] w fun e w'=>∃x:Int,e=.returned (.int .i64 x)/\Hid (decide (0<=x)=(ag qs).any fun e=>(e.b.br==n1&&e.b.seq==n2))/\Below w.heap.size w w':=by
 obtain⟨va,vc,rfl⟩:=aJ hc.1;have HC:=ad hc;have HI:=ad hi;have HBX:=ad hb;clear hc hb hi;go_enter func206,ntmps206;go_wp2
 go_loopw [8] (fun lv wr=>∃i:Nat,lv=.int .i64 i/\i<=qs.length/\Below w.heap.size w wr/\Hid (((ag qs).any fun e=>(e.b.br==n1&&e.b.seq==n2))=(ag (qs.drop i)).any fun e=>(e.b.br==n1&&e.b.seq==n2))) (fun lv _=>qs.length-(intOf lv).toNat)
 case atStart=>exact⟨0,rfl,by omega,ae _ _,ad (by simp)⟩
 case round =>
  obtain⟨i,rfl,hi,hbw,HK⟩:=hrel;by_cases hp:i<qs.length
  ·obtain⟨b,o,c,p,ep,S,ex,se,sq,sa,sl,sc,es,hv,q0,q1,q2,q3,q4,q5,q6,_,_,_,_,hpe,hp2⟩:=jI (HC.out.next hbw) i hp;cases hv;have hb:=HBX.out;have hb:=aB (cell_kept hbw ab hb.1) (cell_kept hbw ab hb.2);have HF:=ad (JQ b1 b2 n1 n2 bI p ep S ex se sq (.slice sa sl sc) wr (cell_kept hbw ab HI.out) hb ⟨_,_,_,rfl⟩);obtain⟨T,hT⟩:∃T,(se==n1&&sq==n2)=T:=⟨_,rfl⟩;rw[hT]at HF;have HX:=ad (show((ag qs).any fun e=>(e.b.br==n1&&e.b.seq==n2))=(T||(ag (qs.drop (i+1))).any fun e=>(e.b.br==n1&&e.b.seq==n2))by
    have e0:(qs[i]).1=⟨p,ep,⟨S.data.toList,ex,se,sq,es⟩⟩:=hpe.out;rw[HK.out,List.drop_eq_getElem_cons hp,<-hT];show(((qs[i]).1.b.br==n1&&(qs[i]).1.b.seq==n2)||_)=_;rw[e0];rfl)
   have HBW:=ad hbw;clear hbw HK hpe hp2 hb hT;go_wp2_with fail;refine HF.out.mono ?_;rintro e w1 ⟨rfl,b1⟩;have hb1:=Below.up HBW.out ab b1;cases T with
   |true =>
    have HE:=ad (show((ag qs).any fun e=>(e.b.br==n1&&e.b.seq==n2))=true by rw[HX.out];rfl);have HB1:=ad hb1;clear hb1 b1 HF HX;go_wp2;go_ret;exact⟨_,rfl,ad (by rw[HE.out];simp),HB1.out⟩
   |false =>
    have HE:=ad (show((ag qs).any fun e=>(e.b.br==n1&&e.b.seq==n2))=(ag (qs.drop (i+1))).any fun e=>(e.b.br==n1&&e.b.seq==n2)by rw[HX.out];rfl);clear b1 HF HX;go_wp2;exact⟨⟨i+1,by go_num,by omega,hb1,HE⟩,by simp[intOf];omega⟩
  ·have HE:=ad (show((ag qs).any fun e=>(e.b.br==n1&&e.b.seq==n2))=false by rw[HK.out,List.drop_eq_nil_of_le (by omega)];rfl);obtain rfl:i=qs.length:=by omega
   clear HK;go_wp2;go_ret;exact⟨-1,rfl,ad (by rw[HE.out];rfl),hbw⟩
set_option maxHeartbeats 1000000 in
theorem Iz (b1 b2:Nat) (n1 n2:Int) (bI:Nat) (v:Value) (qs:List bu) (w:World) (hc:dk w v qs) (hn:qs.length<=1000000) (hi:w.cell? ⟨bI,0,none⟩=some (.func (.func 106) #[] #[.pointer (some ⟨b1,0,none⟩),.pointer (some ⟨b2,0,none⟩)])) (hb:w.cell? ⟨b1,0,none⟩=some (.int .i64 n1)/\w.cell? ⟨b2,0,none⟩=some (.int .i64 n2)) :
 Calls prog 159 #[v,.func (.func 160) #[] #[.pointer (some ⟨bI,0,none⟩)]] w fun e w'=>e=.returned (.bool ((ag qs).any fun e=>(e.b.br==n1&&e.b.seq==n2)))/\Below w.heap.size w w':=by
 have HI:=ad (Io b1 b2 n1 n2 bI v qs w hc hn hi hb);clear hc hb hi;go_enter func159,ntmps159;go_wp2_with fail;refine HI.out.mono ?_;rintro e w1 ⟨x,rfl,HR,b1⟩;have HB:=ad b1;clear b1 HI;go_wp2;go_ret;exact⟨by rw[<-HR.out];rfl,HB.out⟩
set_option maxHeartbeats 4000000 in
set_option maxRecDepth 100000 in
theorem CX (b1 b2:Nat) (n1 n2:Int) (h:RR R J a r lg d sb room s fs st w) (hR:aC a R) (hn:s.es.length<=300000) (happ:st.app<=1000000000000) (hb:w.cell? ⟨b1,0,none⟩=some (.int .i64 n1)/\w.cell? ⟨b2,0,none⟩=some (.int .i64 n2)) :
 Calls prog 105 #[.pointer (some ⟨r,0,none⟩),.func (.func 106) #[] #[.pointer (some ⟨b1,0,none⟩),.pointer (some ⟨b2,0,none⟩)]] w fun e w'=>e=.returned (.bool ((dT (st.app+1) s.es.length s.es).any fun e=>(e.b.br==n1&&e.b.seq==n2)))/\Below w.heap.size w w':=by
 obtain⟨W1,hW1⟩:∃W1,w.alloc (.cells #[.func (.func 106) #[] #[.pointer (some ⟨b1,0,none⟩),.pointer (some ⟨b2,0,none⟩)]] 200)=W1:=⟨_,rfl⟩;have ba:Below w.heap.size w W1:=by rw[<-hW1];exact(ae _ _).alloc ab _
 have hi:W1.cell? ⟨w.heap.size,0,none⟩=some (.func (.func 106) #[] #[.pointer (some ⟨b1,0,none⟩),.pointer (some ⟨b2,0,none⟩)]):=by
  rw[<-hW1,aw (heap_alloc_new w _)];rfl
 have hb:=aB (cell_kept ba ab hb.1) (cell_kept ba ab hb.2);have h1:=h.next hR ba;have hbx:=h1.box.cells.2.1;have h0:=h.ok.a;have hw1:IntKind.i64.wrap (st.app+1)=st.app+1:=by rw[IntKind.wrap_i64];omega
 have HKS:=ad (show ∀Z,Below W1.heap.size W1 Z->Z.cell? ⟨r,1,none⟩=some (.pointer (some ⟨lg,0,none⟩))from fun Z hb=>cell_kept hb ab hbx);have HCM:=ad (fun W (hb:Below W1.heap.size W1 W)=>gW (h1.next hR hb));have HLA:=ad (fun W (hb:Below W1.heap.size W1 W)=>ly (h1.next hR hb));have HRG:=ad (fun W (hb:Below W1.heap.size W1 W)=>nW (st.app+1) (s.es.length:Int) (h1.next hR hb) hR (by omega));have H1:=ad (aB ba (aB hi hb));have HW1:=ad hW1;clear h h1 hbx ba hi hb hW1;go_enter func105,ntmps105;go_upto_region 1 with fail;try rw[HW1.out]
 go_cut [5] (fun lv wx=>∃va qs vc,lv=.slice va (qs.length:Nat) vc/\Hid (ag qs=dT (st.app+1) (s.es.length:Int) s.es)/\Hid (dk wx (.slice va qs.length vc) qs)/\Hid (Below W1.heap.size W1 wx))
 case first =>
  go_region_held3 (fun Z=>Z.cell? ⟨r,1,none⟩=some (.pointer (some ⟨lg,0,none⟩)))
   ((refine HKS.out _ ?_; first
     | with_reducible exact ae _ W1
     | with_reducible exact (ae _ W1).drew
     | with_reducible exact HB5.out))
   (first
    |(go_at_call 42;refine(HCM.out _ (ae _ W1).drew).mono ?_;rintro e w5 ⟨rfl,rfl⟩)
    |(go_at_call 41;refine(HLA.out _ (ae _ W1).drew).mono ?_;rintro e w5 ⟨rfl,rfl⟩)
    |(go_at_call 89;refine(HRG.out _ (ae _ W1).drew).mono ?_;rintro e w5 ⟨va,qs,vc,rfl,hpl,hcap,hrr,b5⟩;have HB5:=ad (show Below W1.heap.size W1 w5 from(ae _ W1).drew.trans b5);have HEN:=ad hrr.out.ey;clear b5 hcap hrr))
  all_goals go_wp2
  all_goals go_meet
  all_goals exact⟨va,qs,vc,rfl,hpl,HEN,HB5⟩
 case rest =>
  obtain⟨va,qs,vc,rfl,HPL,HEN,HBW⟩:=hcut;have hql:qs.length<=s.es.length:=by
   have h1:(ag qs).length<=s.es.length:=by
    rw[HPL.out,dT,List.length_take,List.length_drop];omega
   simpa[ag]using h1
  have hbW:=HBW.out;have hb:=H1.out.2.2;have hb:=aB (cell_kept hbW ab hb.1) (cell_kept hbW ab hb.2);have HCO:=Iz b1 b2 n1 n2 w.heap.size (.slice va qs.length vc) qs wc HEN.out (by omega) (cell_kept hbW ab H1.out.2.1) hb;rw[HPL.out]at HCO;have HCO:=ad HCO;have HBF:=ad (H1.out.1.trans (hbW.mono H1.out.1.size));clear HCM HLA HRG HKS hbW hb;go_wp2_with fail;refine HCO.out.mono ?_;rintro e w6 ⟨rfl,b6⟩;have HB6:=ad (Below.up HBF.out ab b6);clear b6 HCO;go_wp2;go_ret;exact⟨rfl,HB6.out⟩
set_option maxHeartbeats 1000000 in
theorem ze (n1 n2:Int) (h:RR R J a r lg d sb room s fs st w) (hR:aC a R) (hn:s.es.length<=300000) (happ:st.app<=1000000000000) :
 Calls prog 59 #[.pointer (some ⟨r,0,none⟩),.int .i64 n1,.int .i64 n2] w fun e w'=>e=.returned (.bool ((dT (st.app+1) s.es.length s.es).any fun e=>(e.b.br==n1&&e.b.seq==n2)))/\Below w.heap.size w w':=by
 have ba0:Below w.heap.size w (w.alloc (.cells #[.int .i64 n1] 3)):=(ae _ _).alloc ab _;have bab:Below (w.alloc (.cells #[.int .i64 n1] 3)).heap.size (w.alloc (.cells #[.int .i64 n1] 3)) ((w.alloc (.cells #[.int .i64 n1] 3)).alloc (.cells #[.int .i64 n2] 3)):=(ae _ _).alloc ab _;have ba:=ba0.trans (bab.mono ba0.size);have hb1:(w.alloc (.cells #[.int .i64 n1] 3)).cell? ⟨w.heap.size,0,none⟩=some (.int .i64 n1):=by
  rw[aw (heap_alloc_new w _)];rfl
 have hb1:=cell_kept bab ab hb1;have hb2:((w.alloc (.cells #[.int .i64 n1] 3)).alloc (.cells #[.int .i64 n2] 3)).cell? ⟨w.heap.size+1,0,none⟩=some (.int .i64 n2):=by
  have h9:=heap_alloc_new (w.alloc (.cells #[.int .i64 n1] 3)) (.cells #[.int .i64 n2] 3);rw[World.size_alloc]at h9;rw[aw h9];rfl
 have HC:=ad (CX w.heap.size (w.heap.size+1) n1 n2 (h.next hR ba) hR hn happ ⟨hb1,hb2⟩);have HB:=ad ba;clear h ba hb1 hb2 ba0 bab;go_enter func59,ntmps59;go_wp2_with fail;refine HC.out.mono ?_;rintro e w1 ⟨rfl,b1⟩;have HBB:=ad (HB.out.trans (b1.mono HB.out.size));clear b1 HC;go_wp2;go_ret;exact⟨rfl,HBB.out⟩
end
end Go.Proofs.YtmgmknmaepjnoaaGreatDoor
