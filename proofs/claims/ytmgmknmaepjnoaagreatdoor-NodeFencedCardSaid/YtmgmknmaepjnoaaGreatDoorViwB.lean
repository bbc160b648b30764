/-
  Views: Right, Place, Head, Tail, Ahead, Behind, Since, Boot.
-/
import Derived.Test.YtmgmknmaepjnoaaGreatDoorNodT
namespace Go.Proofs.YtmgmknmaepjnoaaGreatDoor
open Go.RowKit Go.Shelf Proofs.Tryz
theorem Ev {w:World} {a:Option Addr} {c:Nat} {l:List Int} (h:Cells w (.slice a l.length c) 1 l.length (aE l)) (i:Nat) (hi:i<=l.length) (c2:Nat):Cells w (.slice a i c2) 1 (l.take i).length (aE (l.take i)):=by
 have hlen:(l.take i).length=i:=by rw[List.length_take];omega
 refine⟨by simp[aE],?_⟩;rcases h.2 with⟨h0,_⟩|⟨b,o,c',he,hx⟩
 ·exact .inl ⟨by omega,a,c2,by rw[show i=0 by omega]⟩
 ·simp only[Value.slice.injEq]at he;refine .inr ⟨b,o,c2,by rw[he.1,hlen],fun j u hj=>hx j u ?_⟩;unfold aE at hj ⊢;rw[List.map_take,List.getElem?_take]at hj;split at hj
  ·exact hj
  ·cases hj
theorem jW {w:World} {a:Option Addr} {c:Nat} {l:List Int} (h:Cells w (.slice a l.length c) 1 l.length (aE l)) (i:Nat) (n:Int) (hi:l[i]?=some n):∃b o,a=some ⟨b,o,none⟩/\w.cell? ⟨b,o+i,none⟩=some (.int .i64 n):=by
 have hlt:=(List.getElem?_eq_some_iff.1 hi).1;obtain⟨b,o,c',hv,q0⟩:=lM h i hlt;rw[(List.getElem?_eq_some_iff.1 hi).2]at q0;simp only[Value.slice.injEq]at hv;exact⟨b,o,hv.1,q0⟩
def nj (V:Vw) (A:q_gk):Obj:=.cells #[.int .i64 V.ep,.slice A.ca V.ch.length A.cc,.slice A.sa V.si.length A.sc,.slice A.ba V.bo.length A.bc] 70 (0,0)
theorem ni {w:World} {b:Nat} {V:Vw} {A:q_gk} (h:w.heap[b]?=some (nj V A)):w.cell? ⟨b,0,none⟩=some (.int .i64 V.ep)/\w.cell? ⟨b,1,none⟩=some (.slice A.ca V.ch.length A.cc)/\w.cell? ⟨b,2,none⟩=some (.slice A.sa V.si.length A.sc)/\w.cell? ⟨b,3,none⟩=some (.slice A.ba V.bo.length A.bc):=by
 refine⟨?_,?_,?_,?_⟩ <;> (rw[aw h];rfl)
set_option maxHeartbeats 16000000 in
set_option maxRecDepth 100000 in
theorem mB (V:Vw) (A:q_gk) (w:World) (h:fE w V A) (hV:eU V) :
 Calls prog 102 #[dw V A] w fun e w'=>e=.returned (.bool true)/\Below w.heap.size w w':=by
 obtain⟨W,hW⟩:∃W,w.alloc (nj V A)=W:=⟨_,rfl⟩;have bW:Below w.heap.size w W:=by rw[<-hW];exact an (ae _ w) _
 have hz:W.heap[w.heap.size]?=some (nj V A):=by rw[<-hW];exact heap_alloc_new w _
 have hs:W.heap.size=w.heap.size+1:=by rw[<-hW];simp
 have h:=h.next bW;obtain⟨ep,ch,si,bo⟩:=V;obtain⟨ca,cc,sa,sc,ba,bc⟩:=A;obtain⟨g1,g2,g3,g4,g5,g6,h7⟩:=hV;simp only at g1 g2 g3 g4 g5 g6;have hz:W.heap[w.heap.size]?=some (.cells #[.int .i64 ep,.slice ca ch.length cc,.slice sa ch.length sc,.slice ba ch.length bc] 70 (0,0)):=by rw[hz];unfold nj;simp only[g5,g6]
 have hW:w.alloc (.cells #[.int .i64 ep,.slice ca ch.length cc,.slice sa ch.length sc,.slice ba ch.length bc] 70)=W:=by rw[<-hW];unfold nj;simp only[g5,g6]
 have HV:=ad h7;have HC:=ad h;have HL:=ad (aB g5 g6);have HBW:=ad bW;have k0:W.cell? ⟨w.heap.size,0,none⟩=some (.int .i64 ep):=aq hz rfl;have k1:W.cell? ⟨w.heap.size,1,none⟩=some (.slice ca ch.length cc):=aq hz rfl;have k2:W.cell? ⟨w.heap.size,2,none⟩=some (.slice sa ch.length sc):=aq hz rfl;have k3:W.cell? ⟨w.heap.size,3,none⟩=some (.slice ba ch.length bc):=aq hz rfl;have HW:=ad hW;have i1:(1:Int)<=(ch.length:Int):=by omega
 have i2:(ch.length:Int)<=6:=by omega
 rw[show dw ⟨ep,ch,si,bo⟩ ⟨ca,cc,sa,sc,ba,bc⟩=.agg #[.int .i64 ep,.slice ca ch.length cc,.slice sa ch.length sc,.slice ba ch.length bc]by unfold dw;simp only[g5,g6]];clear h h7 hz bW hW g5 g6;go_enter func102,ntmps102;go_wp2_with fail;rw[HW.out]
 go_loopw [43] (fun lv wr=>∃i:Nat,lv=.int .i64 i/\i<=ch.length/\Below W.heap.size W wr) (fun lv _=>ch.length-(intOf lv).toNat)
 case atStart=>exact⟨0,rfl,by omega,ae _ _⟩
 case round =>
  obtain⟨i,rfl,hi,hbw⟩:=hrel;by_cases hp:i<ch.length
  ·have hc:=HC.out.next hbw;obtain⟨n,hn⟩:∃n,ch[i]?=some n:=⟨_,aR hp⟩;obtain⟨sv,hsv⟩:∃n,si[i]?=some n:=⟨_,aR (by have:=HL.out.1;omega)⟩;obtain⟨bv,hbv⟩:∃n,bo[i]?=some n:=⟨_,aR (by have:=HL.out.2;omega)⟩;obtain⟨cb,co,hca,q1⟩:=jW hc.1 i n hn;obtain⟨sb,so,hsa,q2⟩:=jW hc.2.1 i sv hsv;obtain⟨bb,bo2,hba,q3⟩:=jW hc.2.2.1 i bv hbv;simp only at hca hsa hba;have hcap:i<=cc:=by have:ch.length<=cc:=hc.2.2.2;omega
   obtain⟨e1,e2,e3,e4,e5,e6,e7,e8⟩:=HV.out i n sv bv hn hsv hbv;have HCT:=ad (Ay _ (ch.take i) n wr (Ev hc.1 i (by omega) cc) (by rw[List.length_take];omega));have m0:=cell_kept hbw ab k0;have m1:=cell_kept hbw ab k1;have m2:=cell_kept hbw ab k2;have m3:=cell_kept hbw ab k3;have HNI:=ad e3;have HPV:=ad e4;have HN:=ad (aB hsv hc.2.1);have HBR:=ad hbw;subst hca;subst hsa;subst hba;clear hc hn hsv hbv e3 e4 hbw k0 k1 k2 k3;have HBF:=ad (show decide (n∈ch.take i)=false from decide_eq_false HNI.out);rw[HBF.out]at HCT;go_wp2_with fail;refine HCT.out.mono ?_;rintro e w1 ⟨rfl,rfl⟩;obtain⟨pv,hpv,HAT⟩:∃pv,pv<=sv/\Calls prog 157 #[.slice (some ⟨sb,so,none⟩) ch.length sc,.int .i64 ((i:Int)-1)] wr (fun e w'=>e=.returned (.int .i64 pv)/\Below wr.heap.size wr w'):=by
    rw[<-HL.out.1];have hsl:=HL.out.1;by_cases h0:i=0
    ·exact⟨0,by omega,CR _ si _ wr HN.out.2 (by omega) (.inl (by omega))⟩
    ·obtain⟨pv,hpv⟩:∃pv,si[i-1]?=some pv:=⟨_,aR (by omega)⟩;refine⟨pv,HPV.out pv (by omega) hpv,?_⟩;have hat:=GC _ si (i-1) pv wr HN.out.2 (by omega) hpv;rw[show(((i-1:Nat)):Int)=(i:Int)-1 by omega]at hat;refine hat.mono ?_;rintro e w' ⟨rfl,rfl⟩;exact⟨rfl,ae _ _⟩
   have HAT:=ad HAT;have hmx:¬sv<max pv 1:=by omega
   clear hpv;go_wp2_with fail;refine HAT.out.mono ?_;rintro e w2 ⟨rfl,hb2⟩;have m0':=cell_kept hb2 ab m0;have m3':=cell_kept hb2 ab m3;have q3':=cell_kept hb2 ab q3;have HB2:=ad (Below.up HBR.out ab hb2);clear hb2 HAT m0 m3 q3 m1 m2 q1 q2;go_wp2;exact⟨⟨i+1,by go_num,by omega,HB2.out⟩,by simp[intOf];omega⟩
  ·obtain rfl:i=ch.length:=by omega
   go_wp2;go_ret;exact⟨rfl,HBW.out.trans (hbw.mono HBW.out.size)⟩
theorem rL (V:Vw) (A:q_gk) (w:World) (h:fE w V A):∃W,w.alloc (.cells #[.int .i64 V.ep,.slice A.ca V.ch.length A.cc,.slice A.sa V.si.length A.sc,.slice A.ba V.bo.length A.bc] 70)=W/\Below w.heap.size w W/\fE W V A /\
 (W.cell? ⟨w.heap.size,0,none⟩=some (.int .i64 V.ep)/\W.cell? ⟨w.heap.size,1,none⟩=some (.slice A.ca V.ch.length A.cc)/\W.cell? ⟨w.heap.size,2,none⟩=some (.slice A.sa V.si.length A.sc)/\W.cell? ⟨w.heap.size,3,none⟩=some (.slice A.ba V.bo.length A.bc)) :=
 ⟨_,rfl,an (ae _ w) _,h.next (an (ae _ w) _),ni (heap_alloc_new w _)⟩
def place (V:Vw) (n:Int):Int:=il V.ch n 0
set_option maxHeartbeats 4000000 in
theorem et (V:Vw) (A:q_gk) (n:Int) (w:World) (h:fE w V A) (hV:eU V) :
 Calls prog 70 #[dw V A,.int .i64 n] w fun e w'=>e=.returned (.int .i64 (place V n))/\Below w.heap.size w w':=by
 obtain⟨W,hW,bW,h2,k0,k1,k2,k3⟩:=rL V A w h;have HR:=ad (mB V A W h2 hV);have HI:=ad (fun Z (hb:Below W.heap.size W Z)=>xh _ V.ch n Z (h2.1.next hb) (by have:=hV.2.2.2.1;omega));have HW:=ad hW;have HB:=ad bW;clear h h2 hW bW hV;unfold dw;go_enter func70,ntmps70;go_wp2_with fail;rw[HW.out];refine HR.out.mono ?_;rintro e w1 ⟨rfl,b1⟩;have HB1:=ad (HB.out.trans (b1.mono HB.out.size));have HIW:=ad (HI.out w1 b1);have m1:=cell_kept b1 ab k1;clear b1 HR HI k0 k1 k2 k3;go_wp2_with fail;refine HIW.out.mono ?_;rintro e w2 ⟨rfl,rfl⟩;go_wp2;go_ret;exact⟨rfl,HB1.out⟩
set_option maxHeartbeats 4000000 in
theorem yC (V:Vw) (A:q_gk) (n:Int) (w:World) (h:fE w V A) (hV:eU V) (hn:V.ch[0]?=some n) :
 Calls prog 56 #[dw V A] w fun e w'=>e=.returned (.int .i64 n)/\Below w.heap.size w w':=by
 obtain⟨W,hW,bW,h2,k0,k1,k2,k3⟩:=rL V A w h;obtain⟨cb,co,hca,q1⟩:=jW h2.1 0 n hn;have q1:W.cell? ⟨cb,co,none⟩=some (.int .i64 n):=q1;have HR:=ad (mB V A W h2 hV);have hl1:=hV.2.2.1;have HW:=ad hW;have HB:=ad bW;have HCA:=ad hca;clear h h2 hW bW hV hn hca;unfold dw;go_enter func56,ntmps56;go_wp2_with fail;rw[HW.out];refine HR.out.mono ?_;rintro e w1 ⟨rfl,b1⟩;have HB1:=ad (HB.out.trans (b1.mono HB.out.size));have m1:=cell_kept b1 ab k1;have m2:=cell_kept b1 ab q1;rw[HCA.out]at m1;clear b1 HR k0 k1 k2 k3 q1;go_wp2;go_ret;exact⟨rfl,HB1.out⟩
def AF (l:List Int) (i:Int):Int:=if i<0 then 0 else l[i.toNat]?.getD 0
def ahead (V:Vw) (n:Int):Int:=if 0<place V n then AF V.ch (place V n-1) else 0
def behind (V:Vw) (n:Int):Int:=if 0<=place V n then AF V.ch (place V n+1) else 0
def since (V:Vw) (n:Int):Int:=if 0<=place V n then AF V.si (place V n) else 0
def jO (V:Vw) (n:Int):Int:=if 0<=place V n then AF V.bo (place V n) else 0
theorem JI (l:List Int) (n:Int):∀k,il l n k<(k:Int)+(l.length:Int):=by
 induction l with
 |nil=>intro k;simp[il];omega
 |cons x l ih =>
  intro k;unfold il;have:=ih (k+1);simp only[List.length_cons];split <;> omega
theorem rU (l:List Int) (n:Int):∀k,-1<=il l n k:=by
 induction l with
 |nil=>intro k;simp[il]
 |cons x l ih =>
  intro k;unfold il;split
  ·omega
  ·exact ih _
theorem oZ {V:Vw} {n:Int} (h:0<=place V n):∃i:Nat,place V n=(i:Int)/\i<V.ch.length:=by
 have:=JI V.ch n 0;unfold place at *;exact⟨(il V.ch n 0).toNat,by omega,by omega⟩
theorem vi {l:List Int} {i:Nat} {x:Int} (h:l[i]?=some x):AF l (i:Int)=x:=by
 unfold AF;rw[if_neg (by omega),show((i:Int)).toNat=i by omega,h];rfl
set_option maxHeartbeats 4000000 in
theorem xH (V:Vw) (A:q_gk) (n:Int) (w:World) (h:fE w V A) (hV:eU V) :
 Calls prog 52 #[dw V A,.int .i64 n] w fun e w'=>e=.returned (.int .i64 (since V n))/\Below w.heap.size w w':=by
 obtain⟨W,hW,bW,h2,k0,k1,k2,k3⟩:=rL V A w h;have HP:=ad (et V A n W h2 hV);have hl:=rU V.ch n 0;have hl : -1<=place V n:=hl;have HW:=ad hW;have HB:=ad bW;by_cases hp:0<=place V n
 ·obtain⟨i,hi,hil⟩:=oZ hp;obtain⟨x,hx⟩:∃x,V.si[i]?=some x:=⟨_,aR (by have:=hV.2.2.2.2.1;have:=hV.2.2.2.2.2.1;omega)⟩;obtain⟨cb,co,hca,q1⟩:=jW h2.2.1 i x hx;have HS:=ad (show since V n=x by unfold since;rw[if_pos hp,hi,vi hx]);have HLE:=ad (show i<V.si.length from(List.getElem?_eq_some_iff.1 hx).1);rw[hca]at k2;rw[hi]at HP;have HCA:=ad hca;have hlt:=HLE.out;have hl6:=hV.2.2.2.1;clear h h2 hW bW hV hx hca hp hi hl;unfold dw;go_enter func52,ntmps52;go_wp2_with fail;rw[HW.out];refine HP.out.mono ?_;rintro e w1 ⟨rfl,b1⟩;have HB1:=ad (HB.out.trans (b1.mono HB.out.size));have m1:=cell_kept b1 ab k2;have m2:=cell_kept b1 ab q1;clear b1 HP k0 k1 k2 k3 q1;go_wp2;go_ret;exact⟨by rw[HS.out];rfl,HB1.out⟩
 ·have HS:=ad (show since V n=0 by unfold since;rw[if_neg hp]);have hm:place V n = -1:=by omega
  rw[hm]at HP;clear h h2 hW bW hV hp hl hm;unfold dw;go_enter func52,ntmps52;go_wp2_with fail;rw[HW.out];refine HP.out.mono ?_;rintro e w1 ⟨rfl,b1⟩;have HB1:=ad (HB.out.trans (b1.mono HB.out.size));clear b1 HP k0 k1 k2 k3;go_wp2;go_ret;exact⟨by rw[HS.out];rfl,HB1.out⟩
set_option maxHeartbeats 4000000 in
theorem yD (V:Vw) (A:q_gk) (n:Int) (w:World) (h:fE w V A) (hV:eU V) :
 Calls prog 176 #[dw V A,.int .i64 n] w fun e w'=>e=.returned (.int .i64 (jO V n))/\Below w.heap.size w w':=by
 obtain⟨W,hW,bW,h2,k0,k1,k2,k3⟩:=rL V A w h;have HP:=ad (et V A n W h2 hV);have hl:=rU V.ch n 0;have hl : -1<=place V n:=hl;have HW:=ad hW;have HB:=ad bW;by_cases hp:0<=place V n
 ·obtain⟨i,hi,hil⟩:=oZ hp;obtain⟨x,hx⟩:∃x,V.bo[i]?=some x:=⟨_,aR (by have:=hV.2.2.2.2.1;have:=hV.2.2.2.2.2.1;omega)⟩;obtain⟨cb,co,hca,q1⟩:=jW h2.2.2.1 i x hx;have HS:=ad (show jO V n=x by unfold jO;rw[if_pos hp,hi,vi hx]);have HLE:=ad (show i<V.bo.length from(List.getElem?_eq_some_iff.1 hx).1);rw[hca]at k3;rw[hi]at HP;have HCA:=ad hca;have hlt:=HLE.out;have hl6:=hV.2.2.2.1;clear h h2 hW bW hV hx hca hp hi hl;unfold dw;go_enter func176,ntmps176;go_wp2_with fail;rw[HW.out];refine HP.out.mono ?_;rintro e w1 ⟨rfl,b1⟩;have HB1:=ad (HB.out.trans (b1.mono HB.out.size));have m1:=cell_kept b1 ab k3;have m2:=cell_kept b1 ab q1;clear b1 HP k0 k1 k2 k3 q1;go_wp2;go_ret;exact⟨by rw[HS.out];rfl,HB1.out⟩
 ·have HS:=ad (show jO V n=0 by unfold jO;rw[if_neg hp]);have hm:place V n = -1:=by omega
  rw[hm]at HP;clear h h2 hW bW hV hp hl hm;unfold dw;go_enter func176,ntmps176;go_wp2_with fail;rw[HW.out];refine HP.out.mono ?_;rintro e w1 ⟨rfl,b1⟩;have HB1:=ad (HB.out.trans (b1.mono HB.out.size));clear b1 HP k0 k1 k2 k3;go_wp2;go_ret;exact⟨by rw[HS.out];rfl,HB1.out⟩
set_option maxHeartbeats 4000000 in
theorem xJ (V:Vw) (A:q_gk) (n:Int) (w:World) (h:fE w V A) (hV:eU V) :
 Calls prog 118 #[dw V A,.int .i64 n] w fun e w'=>e=.returned (.int .i64 (ahead V n))/\Below w.heap.size w w':=by
 obtain⟨W,hW,bW,h2,k0,k1,k2,k3⟩:=rL V A w h;have HP:=ad (et V A n W h2 hV);have hl:=rU V.ch n 0;have hl : -1<=place V n:=hl;have HW:=ad hW;have HB:=ad bW;by_cases hp:0<place V n
 ·obtain⟨j,hj,hjl⟩:=oZ (Int.le_of_lt hp);obtain⟨i,rfl⟩:∃i,j=i+1:=⟨j-1,by omega⟩;obtain⟨x,hx⟩:∃x,V.ch[i]?=some x:=⟨_,aR (by omega)⟩;obtain⟨cb,co,hca,q1⟩:=jW h2.1 i x hx;have HS:=ad (show ahead V n=x by unfold ahead;rw[if_pos hp,hj,show((i+1:Nat):Int)-1=(i:Int)by omega,vi hx]);rw[hca]at k1;rw[hj,show((i+1:Nat):Int)=(i:Int)+1 by omega]at HP;have HCA:=ad hca;have hlt:i<V.ch.length:=by omega
  have hl6:=hV.2.2.2.1;have hw1:wrap64 ((i:Int)+1-1)=(i:Int):=by rw[show(i:Int)+1-1=(i:Int)by omega];exact IntWalk.wrap64_in _ (by omega)
  have hw2:wrap64 (i:Int)=(i:Int):=IntWalk.wrap64_in _ (by omega);clear h h2 hW bW hV hx hca hp hj hl hjl;unfold dw;go_enter func118,ntmps118;go_wp2_with fail;rw[HW.out];refine HP.out.mono ?_;rintro e w1 ⟨rfl,b1⟩;have HB1:=ad (HB.out.trans (b1.mono HB.out.size));have m1:=cell_kept b1 ab k1;have m2:=cell_kept b1 ab q1;clear b1 HP k0 k1 k2 k3 q1;go_wp2;go_ret;exact⟨by rw[HS.out];rfl,HB1.out⟩
 ·have HS:=ad (show ahead V n=0 by unfold ahead;rw[if_neg hp]);obtain⟨q,hq⟩:∃q,place V n=q:=⟨_,rfl⟩;rw[hq]at HP hp;clear h h2 hW bW hV hl hq;unfold dw;go_enter func118,ntmps118;go_wp2_with fail;rw[HW.out];refine HP.out.mono ?_;rintro e w1 ⟨rfl,b1⟩;have HB1:=ad (HB.out.trans (b1.mono HB.out.size));clear b1 HP k0 k1 k2 k3;go_wp2;go_ret;exact⟨by rw[HS.out];rfl,HB1.out⟩
set_option maxHeartbeats 4000000 in
theorem vm (V:Vw) (A:q_gk) (n:Int) (w:World) (h:fE w V A) (hV:eU V) :
 Calls prog 114 #[dw V A,.int .i64 n] w fun e w'=>e=.returned (.int .i64 (behind V n))/\Below w.heap.size w w':=by
 obtain⟨W,hW,bW,h2,k0,k1,k2,k3⟩:=rL V A w h;have HP:=ad (et V A n W h2 hV);have hl:=rU V.ch n 0;have hl : -1<=place V n:=hl;have HW:=ad hW;have HB:=ad bW;by_cases hp:0<=place V n
 ·obtain⟨i,hi,hil⟩:=oZ hp;have hl6:=hV.2.2.2.1;have HAT:=ad (show ∀Z,Below W.heap.size W Z->Calls prog 157 #[.slice A.ca V.ch.length A.cc,.int .i64 ((i:Int)+1)] Z (fun e w'=>e=.returned (.int .i64 (behind V n))/\Below Z.heap.size Z w')from fun Z hb=>by
   unfold behind;rw[if_pos hp,hi];by_cases hz:i+1<V.ch.length
   ·have hx:V.ch[i+1]?=some V.ch[i+1]:=aR hz;rw[show(i:Int)+1=((i+1:Nat):Int)by omega,vi hx];refine(GC _ V.ch (i+1) _ Z (h2.1.next hb) (by omega) hx).mono ?_;rintro e w' ⟨rfl,rfl⟩;exact⟨rfl,ae _ _⟩
   ·refine(CR _ V.ch ((i:Int)+1) Z (h2.1.next hb) (by omega) (.inr (by omega))).mono ?_;rintro e w' ⟨rfl,hb⟩;refine⟨?_,hb⟩;unfold AF;rw[if_neg (by omega),List.getElem?_eq_none (by omega)];rfl)
  rw[hi]at HP;clear h h2 hW bW hV hp hi hl;unfold dw;go_enter func114,ntmps114;go_wp2_with fail;rw[HW.out];refine HP.out.mono ?_;rintro e w1 ⟨rfl,b1⟩;have HB1:=ad (HB.out.trans (b1.mono HB.out.size));have m1:=cell_kept b1 ab k1;have HA1:=ad (HAT.out w1 b1);clear b1 HP k0 k1 k2 k3 HAT;go_wp2_with fail;refine HA1.out.mono ?_;rintro e w2 ⟨rfl,b2⟩;have HB2:=ad (Below.up HB1.out ab b2);clear b2 HA1;go_wp2;go_ret;exact⟨rfl,HB2.out⟩
 ·have HS:=ad (show behind V n=0 by unfold behind;rw[if_neg hp]);obtain⟨q,hq⟩:∃q,place V n=q:=⟨_,rfl⟩;rw[hq]at HP hp;clear h h2 hW bW hV hl hq;unfold dw;go_enter func114,ntmps114;go_wp2_with fail;rw[HW.out];refine HP.out.mono ?_;rintro e w1 ⟨rfl,b1⟩;have HB1:=ad (HB.out.trans (b1.mono HB.out.size));clear b1 HP k0 k1 k2 k3;go_wp2;go_ret;exact⟨by rw[HS.out];rfl,HB1.out⟩
end Go.Proofs.YtmgmknmaepjnoaaGreatDoor
