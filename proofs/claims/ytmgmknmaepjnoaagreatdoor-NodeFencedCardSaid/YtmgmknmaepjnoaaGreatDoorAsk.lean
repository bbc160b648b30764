/-
  What is asked of the nodes of a chain, as it is handed in (the law package 21's): its cells; whether it is small; pick.
-/
import Derived.Test.YtmgmknmaepjnoaaGreatDoorOpn
namespace Go.Proofs.YtmgmknmaepjnoaaGreatDoor
open Go.RowKit Go.Shelf Proofs.Tryz
section
open Go.Deep Go.ChangeShapes
set_option maxHeartbeats 1000000 in
theorem DF (c n:Int) (w:World) (h1 : -9223372036854775808<=c) (h2:c<=9223372036854775807) (h3:1<=n) (h4:n<=1000000) :
 Calls prog 25 #[.int .i64 c,.int .i64 n] w fun e w'=>(∃k:Nat,e=.returned (.int .i64 (k:Int))/\(k:Int)<n)/\w'=w:=by
 by_cases hc:c<0
 ·have hw1:wrap64 (c+1)=c+1:=IntWalk.wrap64_in _ (by omega);have hw2:wrap64 (-(c+1)) = -(c+1):=IntWalk.wrap64_in _ (by omega);go_enter func25,ntmps25;go_wp2;go_ret;have hm : -((c+1).tmod n)=(-(c+1)) % n:=by rw[<-Int.neg_tmod,Int.tmod_eq_emod_of_nonneg (by omega)]
  exact⟨⟨((-(c+1)) % n).toNat,by rw[Int.toNat_of_nonneg (Int.emod_nonneg _ (by omega)),<-hm];rfl,by rw[Int.toNat_of_nonneg (Int.emod_nonneg _ (by omega))];exact Int.emod_lt_of_pos _ (by omega)⟩,rfl⟩
 ·go_enter func25,ntmps25;go_wp2;go_ret;exact⟨⟨(c % n).toNat,by rw[Int.toNat_of_nonneg (Int.emod_nonneg _ (by omega))];rfl,by rw[Int.toNat_of_nonneg (Int.emod_nonneg _ (by omega))];exact Int.emod_lt_of_pos _ (by omega)⟩,rfl⟩
set_option maxHeartbeats 4000000 in
set_option maxRecDepth 100000 in
theorem uP (v:Value) (ps:List (Evt.Entry×Value)) (w:World) (hc:kU w v ps) :
 Calls prog 20 #[v] w fun e w'=>e=.returned (.bool (gp (ag ps)))/\Below w.heap.size w w':=by
 have hpl:(ag ps).length=ps.length:=by simp[ag]
 rcases cC hc.1 with⟨h0,a0,c0,rfl⟩|⟨b,o,c,rfl⟩
 ·have HN:=ad (show gp (ag ps)=true by rw[aP h0];rfl);clear h0 hpl;go_enter func20,ntmps20;go_wp2
  go_loopw [3] (fun lv wr=>lv=.int .i64 0/\wr=w) (fun _ _=>0)
  case atStart=>exact⟨rfl,rfl⟩
  case round =>
   obtain⟨rfl,rfl⟩:=hrel;go_wp2;go_ret;exact⟨by rw[HN.out];rfl,ae _ _⟩
 ·by_cases h40:40<ps.length
  ·have HN:=ad (show gp (ag ps)=false by unfold gp;rw[hpl];simp;omega);have hi40:(40:Int)<(ps.length:Int):=by omega
   clear hpl;go_enter func20,ntmps20;go_wp2;go_ret;exact⟨by rw[HN.out];rfl,ae _ _⟩
  ·have HF:=ad (show gp (ag ps)=(ag ps).all j7 by unfold gp;rw[hpl];simp;omega);have HC:=ad hc;clear hc hpl;go_enter func20,ntmps20;go_wp2
   go_loopw [3] (fun lv wr=>∃i:Nat,lv=.int .i64 i/\i<=ps.length/\Below w.heap.size w wr/\(ag (ps.drop i)).all j7=gp (ag ps)) (fun lv _=>ps.length-(intOf lv).toNat)
   case atStart=>exact⟨0,rfl,by omega,ae _ _,HF.out.symm⟩
   case round =>
    obtain⟨i,rfl,hi,hbw,hall⟩:=hrel;by_cases hp:i<ps.length
    ·obtain⟨b',o',c',p,ep,S,ex,se,sq,sa,sl,sc,es,hv,k0,k1,k2,k3,k4,k5,k6,hev,hpe,_⟩:=Lm HC.out i hp;cases hv;have k0:=cell_kept hbw ab k0;have k1:=cell_kept hbw ab k1;have k2:=cell_kept hbw ab k2;have k3:=cell_kept hbw ab k3;have k4:=cell_kept hbw ab k4;have k5:=cell_kept hbw ab k5;have k6:=cell_kept hbw ab k6;have hev1:=Cells.next hev hbw;have HD:=ad (show(ag (ps.drop i)).all j7=(j7 ⟨p,ep,⟨S.data.toList,ex,se,sq,es⟩⟩&&(ag (ps.drop (i+1))).all j7)by
      rw[List.drop_eq_getElem_cons hp,<-hpe.out];rfl)
     have HA:=ad hall;clear hall hpe hev;have hbB:Below w.heap.size w (wr.alloc (.cells #[.string S,.int .i64 ex,.int .i64 se,.int .i64 sq,.slice sa sl sc] 38)):=hbw.alloc hbw.size _;have hb01:=(ae _ wr).alloc ab (.cells #[.string S,.int .i64 ex,.int .i64 se,.int .i64 sq,.slice sa sl sc] 38);have hsl:sl=es.length:=by
      rcases cC hev1 with⟨h,a',c'',e⟩|⟨b'',o'',c'',e⟩
      ·cases e;omega
      ·cases e;rfl
     subst hsl;by_cases hS:300<S.size
     ·have HN:=ad (show gp (ag ps)=false by
       rw[<-HA.out,HD.out];have:j7 ⟨p,ep,⟨S.data.toList,ex,se,sq,es⟩⟩=false:=by unfold j7;simp only[<-Lib.size_eq];simp;omega
       rw[this];rfl)
      have hSi:(300:Int)<(S.size:Int):=by omega
      clear HD HA;go_wp2;go_ret;exact⟨by rw[HN.out];rfl,hbB⟩
     by_cases hE:20<es.length
     ·have HN:=ad (show gp (ag ps)=false by
       rw[<-HA.out,HD.out];have:j7 ⟨p,ep,⟨S.data.toList,ex,se,sq,es⟩⟩=false:=by unfold j7;simp;omega
       rw[this];rfl)
      have hEi:(20:Int)<(es.length:Int):=by omega
      clear HD HA;go_wp2;go_ret;exact⟨by rw[HN.out];rfl,hbB⟩
     have HE:=ad (show j7 ⟨p,ep,⟨S.data.toList,ex,se,sq,es⟩⟩=es.all mP by unfold j7;simp only[<-Lib.size_eq];simp;omega);have hev2:=ad (Cells.next hev1 hb01);clear hev1 hb01;go_wp2
     go_loopw [5] (fun lv W=>∃j:Nat,lv=.int .i64 j/\j<=es.length/\W=wr.alloc (.cells #[.string S,.int .i64 ex,.int .i64 se,.int .i64 sq,.slice sa es.length sc] 38)/\(es.drop j).all mP=es.all mP) (fun lv _=>es.length-(intOf lv).toNat)
     case atStart=>exact⟨0,rfl,by omega,rfl,rfl⟩
     case round =>
      obtain⟨j,rfl,hj,rfl,hev⟩:=hrel;have HV:=ad hev;clear hev;by_cases hjp:j<es.length
      ·obtain⟨b2,o2,c2,hv2,e1,e2⟩:=vL hev2.out j hjp;cases hv2;have hdr:es.drop j=es[j]::es.drop (j+1):=List.drop_eq_getElem_cons hjp;obtain⟨x,hx⟩:∃x,es[j]=x:=⟨_,rfl⟩;rw[hx]at e1 e2 hdr;obtain⟨K,hK,hK2,hK3⟩:=bf x.kind;obtain⟨Dd,hDd,hD2,hD3⟩:=bf x.data;rw[hK]at e1;rw[hDd]at e2;have HX:=ad (show(es.drop j).all mP=(decide (K.size<=300)&&decide (Dd.size<=500)&&(es.drop (j+1)).all mP)by rw[hdr,hK3,hD3];rfl);clear hdr hx hK hDd hK2 hD2 hK3 hD3;by_cases h3:300<K.size
       ·have HN:=ad (show gp (ag ps)=false by
         have:decide (K.size<=300)=false:=by simp;omega
         rw[<-HA.out,HD.out,HE.out,<-HV.out,HX.out,this];rfl)
        have h3i:(300:Int)<(K.size:Int):=by omega
        clear HD HA HE HV HX;go_wp2;go_ret;exact⟨by rw[HN.out];rfl,hbB⟩
       ·by_cases h5:500<Dd.size
        ·have HN:=ad (show gp (ag ps)=false by
          have:decide (Dd.size<=500)=false:=by simp;omega
          rw[<-HA.out,HD.out,HE.out,<-HV.out,HX.out,this];simp)
         have h5i:(500:Int)<(Dd.size:Int):=by omega
         clear HD HA HE HV HX;go_wp2;go_ret;exact⟨by rw[HN.out];rfl,hbB⟩
        ·have HY:=ad (show(es.drop (j+1)).all mP=es.all mP by
          have q1:decide (K.size<=300)=true:=by simp;omega
          have q2:decide (Dd.size<=500)=true:=by simp;omega
          rw[<-HV.out,HX.out,q1,q2];simp)
         clear HV HX;go_wp2;exact⟨⟨j+1,by go_num,by omega,trivial,HY.out⟩,by simp[intOf];omega⟩
      ·have HY:=ad (show(ag (ps.drop (i+1))).all j7=gp (ag ps)by
        have:es.all mP=true:=by rw[<-HV.out,List.drop_eq_nil_of_le (by omega)];rfl
        rw[<-HA.out,HD.out,HE.out,this];simp)
       clear HD HA HE HV;go_wp2;exact⟨⟨i+1,by go_num,by omega,hbB,HY.out⟩,by simp[intOf];omega⟩
    ·have HN:=ad (show gp (ag ps)=true by
      rw[<-hall,List.drop_eq_nil_of_le (by omega)];rfl)
     clear hall;go_wp2;go_ret;exact⟨by rw[HN.out];rfl,hbw⟩
structure gQ where
 s:ByteArray
 ex:Int
 se:Int
 sq:Int
 es:List Evt.Event
 rd:Bool
 fr:Int
 ev:Value
def cw (ps:List gQ):List Value:=ps.flatMap fun p=>[.string p.s,.int .i64 p.ex,.int .i64 p.se,.int .i64 p.sq,p.ev,.bool p.rd,.int .i64 p.fr]
def nh (w:World) (p:gQ):Prop:=dp w p.ev p.es/\sV p.ex/\sV p.se/\sV p.sq/\sV p.fr/\p.s.size<=maxLen
def jG (w:World) (v:Value) (ps:List gQ):Prop:=Cells w v 7 ps.length (cw ps)/\∀p∈ps,nh w p
theorem nh.next {w w':World} {p:gQ} (h:nh w p) (hb:Below w.heap.size w w'):nh w' p:=⟨Cells.next h.1 hb,h.2⟩
theorem jG.next {w w':World} {v:Value} {ps:List gQ} (h:jG w v ps) (hb:Below w.heap.size w w'):jG w' v ps :=
 ⟨Cells.next h.1 hb,fun p hp=>(h.2 p hp).next hb⟩
theorem pZ:∀(ps:List gQ) (i:Nat) (hi:i<ps.length) (r:Nat),r<7->(cw ps)[i*7+r]?=(cw [ps[i]])[r]?
 |p::ps,0,_,r,hr=>by
  show(cw (p::ps))[0*7+r]?=(cw [p])[r]?;rw[show cw (p::ps)=cw [p]++cw ps by simp[cw],Nat.zero_mul,Nat.zero_add,List.getElem?_append_left (by simpa[cw]using hr)]
 |p::ps,i+1,hi,r,hr=>by
  have:=pZ ps i (by simpa using hi) r hr;rw[show cw (p::ps)=cw [p]++cw ps by simp[cw],List.getElem?_append_right (by simp[cw];omega),show(i+1)*7+r-(cw [p]).length=i*7+r by simp[cw];omega,this];rfl
theorem vW {w:World} {v:Value} {ps:List gQ} (h:jG w v ps) (i:Nat) (hi:i<ps.length) {s:ByteArray} {ex se sq fr:Int} {rd:Bool} {es:List Evt.Event} {ev:Value} (hx:ps[i]=⟨s,ex,se,sq,es,rd,fr,ev⟩) :
 ∃(b f c:Nat),v=.slice (some ⟨b,f,none⟩) ps.length c/\w.cell? ⟨b,f+i*7,none⟩=some (.string s)/\w.cell? ⟨b,f+i*7+1,none⟩=some (.int .i64 ex)/\w.cell? ⟨b,f+i*7+2,none⟩=some (.int .i64 se) /\
  w.cell? ⟨b,f+i*7+3,none⟩=some (.int .i64 sq)/\w.cell? ⟨b,f+i*7+4,none⟩=some ev/\w.cell? ⟨b,f+i*7+5,none⟩=some (.bool rd)/\w.cell? ⟨b,f+i*7+6,none⟩=some (.int .i64 fr)/\nh w ⟨s,ex,se,sq,es,rd,fr,ev⟩:=by
 rcases h.1.2 with⟨h0,_⟩|⟨b,f,c,h1,h2⟩
 ·omega
 ·have hp:=h.2 ps[i] (List.getElem_mem hi);have k:=pZ ps i hi;rw[hx]at k hp;exact⟨b,f,c,h1,h2 _ _ (k 0 (by omega)),h2 _ _ (k 1 (by omega)),h2 _ _ (k 2 (by omega)),h2 _ _ (k 3 (by omega)),h2 _ _ (k 4 (by omega)),h2 _ _ (k 5 (by omega)),h2 _ _ (k 6 (by omega)),hp⟩
instance:Inhabited gQ:=⟨⟨⟨#[]⟩,0,0,0,[],false,0,.nilIface⟩⟩
section
variable {H:Type} {enc:TypeId×Value->H} {W:World}
set_option maxRecDepth 10000 in
theorem Bs {fuel:Nat} {v:Value} {x:DataW H×List MemPlace} (h:DataW.trod enc prog W 0 (fun _=>true) true fuel 22 [v]=some x):∃ps:List gQ,jG W v ps:=by
 rcases open_slice underlying22 h with⟨hcs,_⟩|⟨a,len,cap,m,n,D,Pl,hcs,_,hl,hml,hm,_,hx⟩
 ·simp only[List.cons.injEq,and_true]at hcs;subst hcs;exact⟨[],⟨⟨rfl,.inl ⟨rfl,_,_,rfl⟩⟩,fun p hp=>by cases hp⟩⟩
 ·simp only[List.cons.injEq,and_true]at hcs;subst hcs;have hc7:prog.cellsOf 40=7:=by kernel_rfl
  have hc5:prog.cellsOf 38=5:=by kernel_rfl
  have hs1:prog.cellsOf 9=1:=by kernel_rfl
  have hi1:prog.cellsOf 3=1:=by kernel_rfl
  have hb1:prog.cellsOf 4=1:=by kernel_rfl
  have hw1:prog.cellsOf 36=1:=by kernel_rfl
  have each:∀i,i<len->∃p:gQ,nh W p/\∀r,r<7->W.cell? ((a.add (i*7)).add r)=(cw [p])[r]?:=by
   intro i hi;obtain⟨cs',h1,h2⟩:=hx i (by rw[hm];simp only[if_true];omega);rw[hc7]at h1;obtain⟨_,hl7,hat⟩:=World.cells?_some h1;obtain⟨u0,u1,u2,u3,u4,u5,u6,rfl⟩:∃u0 u1 u2 u3 u4 u5 u6,cs'=[u0,u1,u2,u3,u4,u5,u6]:=by
    match cs',hl7 with
    |[u0,u1,u2,u3,u4,u5,u6],_=>exact⟨u0,u1,u2,u3,u4,u5,u6,rfl⟩
   obtain⟨xs,n2,_,_,_,hlen,hf⟩:=DataW.trod_struct underlying40 h2;obtain⟨z0,z1,z2,rfl⟩:∃z0 z1 z2,xs=[z0,z1,z2]:=by
    match xs,hlen with
    |[z0,z1,z2],_=>exact⟨z0,z1,z2,rfl⟩
   have hz0:DataW.trod enc prog W 0 (fun _=>true) true n2 38 [u0,u1,u2,u3,u4]=some z0:=by simpa[hc5]using hf 0 _ rfl
   have hz1:DataW.trod enc prog W 0 (fun _=>true) true n2 4 [u5]=some z1:=by simpa[hc5,hb1]using hf 1 _ rfl
   have hz2:DataW.trod enc prog W 0 (fun _=>true) true n2 3 [u6]=some z2:=by simpa[hc5,hb1,hi1]using hf 2 _ rfl
   obtain⟨rd,e5,_⟩:=DataW.trod_bool underlying4 hz1;obtain⟨p6,e6,_,b6⟩:=DataW.trod_int underlying3 hz2;obtain⟨ys,n3,_,_,_,hlen3,hg⟩:=DataW.trod_struct underlying38 hz0;obtain⟨q0,q1,q2,q3,q4,rfl⟩:∃q0 q1 q2 q3 q4,ys=[q0,q1,q2,q3,q4]:=by
    match ys,hlen3 with
    |[q0,q1,q2,q3,q4],_=>exact⟨q0,q1,q2,q3,q4,rfl⟩
   have hq0:DataW.trod enc prog W 0 (fun _=>true) true n3 9 [u0]=some q0:=by simpa[hs1]using hg 0 _ rfl
   have hq1:DataW.trod enc prog W 0 (fun _=>true) true n3 3 [u1]=some q1:=by simpa[hs1,hi1]using hg 1 _ rfl
   have hq2:DataW.trod enc prog W 0 (fun _=>true) true n3 3 [u2]=some q2:=by simpa[hs1,hi1]using hg 2 _ rfl
   have hq3:DataW.trod enc prog W 0 (fun _=>true) true n3 3 [u3]=some q3:=by simpa[hs1,hi1]using hg 3 _ rfl
   have hq4:DataW.trod enc prog W 0 (fun _=>true) true n3 36 [u4]=some q4:=by simpa[hs1,hi1,hw1]using hg 4 _ rfl
   obtain⟨s0,e0,_,hsz⟩:=DataW.trod_string underlying9 hq0;obtain⟨p1,e1,_,b1⟩:=DataW.trod_int underlying3 hq1;obtain⟨p2,e2,_,b2⟩:=DataW.trod_int underlying3 hq2;obtain⟨p3,e3,_,b3⟩:=DataW.trod_int underlying3 hq3;obtain⟨es,hev⟩:=su hq4;simp only[List.cons.injEq,and_true]at e0 e1 e2 e3 e5 e6;subst e0 e1 e2 e3 e5 e6;refine⟨⟨s0,p1,p2,p3,es,rd,p6,u4⟩,⟨hev,uE b1,uE b2,uE b3,uE b6,hsz⟩,fun r hr=>?_⟩;rw[hat r hr];rfl
  obtain⟨f,hf⟩:=choose_lt (α:=gQ) (p:=fun i p=>nh W p/\∀r,r<7->W.cell? ((a.add (i*7)).add r)=(cw [p])[r]?) each;have hc:=pJ (w:=W) (a:=a) (len:=len) (cap:=cap) (sz:=7) (fun i=>cw [f i]) (fun i _=>rfl) (by omega) (fun i hi r hr=>(hf i hi).2 r hr);refine⟨(List.range len).map f,⟨?_,fun p hp=>?_⟩⟩
  ·have e:cw ((List.range len).map f)=(List.range len).flatMap fun i=>cw [f i]:=by
    simp[cw,List.flatMap_map]
   rw[e,List.length_map,List.length_range];exact hc
  ·obtain⟨i,hi,rfl⟩:=List.mem_map.1 hp;exact(hf i (List.mem_range.1 hi)).1
end
def gQ.en (a:gQ):Evt.Entry:=⟨0,0,⟨a.s.data.toList,a.ex,a.se,a.sq,a.es⟩⟩
def gm (l:List gQ):Bool:=decide (l.length<=40)&&l.all fun p=>gp [p.en]
set_option maxHeartbeats 4000000 in
set_option maxRecDepth 100000 in
theorem A7 (v:Value) (ps:List gQ) (w:World) (hc:jG w v ps) :
 Calls prog 7 #[v] w fun e w'=>e=.returned (.bool (gm ps))/\Below w.heap.size w w':=by
 obtain⟨va,vc,rfl⟩:=pK hc.1;by_cases h40:40<ps.length
 ·have HN:=ad (show gm ps=false by unfold gm;simp;omega);have hi40:(40:Int)<(ps.length:Int):=by omega
  clear hc;go_enter func7,ntmps7;go_wp2;go_ret;exact⟨by rw[HN.out];rfl,ae _ _⟩
 ·have hi40:¬(40:Int)<(ps.length:Int):=by omega
  have HF:=ad (show gm ps=ps.all (fun p=>gp [p.en])by unfold gm;simp;omega);have HC:=ad hc;clear hc;go_enter func7,ntmps7;go_wp2
  go_loopw [3] (fun lv wr=>∃i:Nat,lv=.int .i64 i/\i<=ps.length/\Below w.heap.size w wr/\((ps.drop i).all fun p=>gp [p.en])=gm ps) (fun lv _=>ps.length-(intOf lv).toNat)
  case atStart=>exact⟨0,rfl,by omega,ae _ _,HF.out.symm⟩
  case round =>
   obtain⟨i,rfl,hi,hbw,hall⟩:=hrel;by_cases hp:i<ps.length
   ·obtain⟨⟨s,ex,se,sq,es,rd,fr,ev⟩,hx⟩:∃x,ps[i]=x:=⟨_,rfl⟩;obtain⟨b,f,c,hv,k0,k1,k2,k3,k4,_,_,hR⟩:=vW (HC.out.next hbw) i hp hx;obtain⟨ea,el,ec,hev⟩:=ee hR.1;have hev:ev=.slice ea el ec:=hev;subst hev;cases hv;have HD:=ad (show((ps.drop i).all fun p=>gp [p.en])=(gp [(⟨0,0,⟨s.data.toList,ex,se,sq,es⟩⟩:Evt.Entry)]&&((ps.drop (i+1)).all fun p=>gp [p.en]))by
     rw[List.drop_eq_getElem_cons hp,hx];rfl)
    have HA:=ad hall;obtain⟨W1,hW1⟩:∃W1,wr.alloc (.cells #[.int .i64 0,.int .i64 0,.string s,.int .i64 ex,.int .i64 se,.int .i64 sq,.slice ea el ec] 95)=W1:=⟨_,rfl⟩;have b2:Below wr.heap.size wr W1:=by rw[<-hW1];exact(ae _ wr).alloc ab _
    have HFE:=ad (show kU W1 (.slice (some ⟨wr.heap.size,0,none⟩) 1 1) [(⟨0,0,⟨s.data.toList,ex,se,sq,es⟩⟩,.slice ea el ec)]from
     ⟨⟨rfl,.inr ⟨wr.heap.size,0,1,rfl,fun j x hj=>by
      have hh:W1.heap[wr.heap.size]?=some (.cells #[.int .i64 0,.int .i64 0,.string s,.int .i64 ex,.int .i64 se,.int .i64 sq,.slice ea el ec] 95):=by rw[<-hW1];exact heap_alloc_new wr _
      rw[Nat.zero_add,aw hh];simpa[aM]using hj⟩⟩,
      fun p hp=>by
       cases aN.1 hp;exact Cells.next hR.1 b2⟩)
    have HFX:=ad (uP _ _ W1 HFE.out);obtain⟨G,hG⟩:∃G,gp [(⟨0,0,⟨s.data.toList,ex,se,sq,es⟩⟩:Evt.Entry)]=G:=⟨_,rfl⟩;rw[show ag [((⟨0,0,⟨s.data.toList,ex,se,sq,es⟩⟩:Evt.Entry),(.slice ea el ec:Value))]=[⟨0,0,⟨s.data.toList,ex,se,sq,es⟩⟩]from rfl,hG]at HFX;rw[hG]at HD;have HB2:=ad (Below.up hbw ab b2);have HW:=ad hW1;clear hall hx hR hG hbw HFE b2 hW1;go_wp2_with fail;try rw[HW.out]
    refine HFX.out.mono ?_;rintro e w2 ⟨rfl,b3⟩;have HB3:=ad (Below.up HB2.out ab b3);clear HFX HB2 b3 k0 k1 k2 k3 k4 HW;cases G with
    |false =>
     have HN:=ad (show gm ps=false by rw[<-HA.out,HD.out];rfl);clear HD HA;go_wp2;go_ret;exact⟨by rw[HN.out];rfl,HB3.out⟩
    |true =>
     have HY:=ad (show((ps.drop (i+1)).all fun p=>gp [p.en])=gm ps by rw[<-HA.out,HD.out];simp);clear HD HA;go_wp2;exact⟨⟨i+1,by go_num,by omega,HB3.out,HY.out⟩,by simp[intOf];omega⟩
   ·have HN:=ad (show gm ps=true by
     rw[<-hall,List.drop_eq_nil_of_le (by omega)];rfl)
    clear hall;go_wp2;go_ret;exact⟨by rw[HN.out];rfl,hbw⟩
end
end Go.Proofs.YtmgmknmaepjnoaaGreatDoor
