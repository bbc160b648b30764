/-
  The walks of the law package's pick and fits (layer 9): of entries of whatever size.
-/
import Derived.Deep.Slices
import Derived.Deep.Strs
import Derived.Test.YtmgmknmaepjnoaaGreatDoorAt
namespace Go.Proofs.YtmgmknmaepjnoaaGreatDoor
open Go.RowKit Go.Shelf Proofs.Tryz
def AK (v:Value):Prop:=v=.slice none 0 0\/∃a l c,v=.slice (some a) l c/\l<=c/\c<=maxLen
def kU (w:World) (v:Value) (ps:List (Evt.Entry×Value)):Prop:=Cells w v 7 ps.length (aM ps)/\∀p∈ps,dp w p.2 p.1.b.events
theorem kU.next {w w':World} {v:Value} {ps:List (Evt.Entry×Value)} (h:kU w v ps) (hb:Below w.heap.size w w'):kU w' v ps :=
 ⟨Cells.next h.1 hb,fun p hp=>Cells.next (h.2 p hp) hb⟩
def mP (e:Evt.Event):Bool:=decide (e.kind.length<=300)&&decide (e.data.length<=500)
def j7 (e:Evt.Entry):Bool:=decide (e.b.stream.length<=300)&&decide (e.b.events.length<=20)&&e.b.events.all mP
def gp (l:List Evt.Entry):Bool:=decide (l.length<=40)&&l.all j7
theorem Iv {w:World} {v:Value} {ps:List (Evt.Entry×Value)} (h:kU w v ps) (hf:gp (ag ps)=true):dk w v ps/\ps.length<=40:=by
 simp only[gp,Bool.and_eq_true,decide_eq_true_eq,List.all_eq_true,ag,List.length_map,List.mem_map]at hf;refine⟨⟨h.1,fun p hp=>⟨h.2 p hp,?_⟩⟩,hf.1⟩;have:=hf.2 p.1 ⟨p,hp,rfl⟩;simp only[j7,Bool.and_eq_true,decide_eq_true_eq,List.all_eq_true,mP]at this;obtain⟨⟨h1,h2⟩,h3⟩:=this;exact⟨by omega,fun e he=>by have:=h3 e he;omega,by omega⟩
theorem Lm {w:World} {v:Value} {ps:List (Evt.Entry×Value)} (h:kU w v ps) (i:Nat) (hi:i<ps.length) :
 ∃(b o c:Nat) (p ep:Int) (S:ByteArray) (ex se sq:Int) (sa:Option Addr) (sl sc:Nat) (es:List Evt.Event),v=.slice (some ⟨b,o,none⟩) ps.length c /\
  w.cell? ⟨b,o+i*7,none⟩=some (.int .i64 p)/\w.cell? ⟨b,o+i*7+1,none⟩=some (.int .i64 ep)/\w.cell? ⟨b,o+i*7+2,none⟩=some (.string S)/\w.cell? ⟨b,o+i*7+3,none⟩=some (.int .i64 ex)/\w.cell? ⟨b,o+i*7+4,none⟩=some (.int .i64 se)/\w.cell? ⟨b,o+i*7+5,none⟩=some (.int .i64 sq)/\w.cell? ⟨b,o+i*7+6,none⟩=some (.slice sa sl sc) /\
  dp w (.slice sa sl sc) es/\Hid (ps[i].1=⟨p,ep,⟨S.data.toList,ex,se,sq,es⟩⟩)/\Hid (ps[i].2=.slice sa sl sc):=by
 rcases h.1.2 with⟨h0,_⟩|⟨b,o,c,h1,h2⟩
 ·omega
 ·obtain⟨k0,k1,k2,k3,k4,k5,k6⟩:=pF ps i hi;have hp:=h.2 ps[i] (List.getElem_mem hi);obtain⟨sa,sl,sc,hs⟩:=ee hp;obtain⟨S,hS,hS2,hS3⟩:=bf ps[i].1.b.stream;have q0:=h2 _ _ k0;have q1:=h2 _ _ k1;have q2:=h2 _ _ k2;have q3:=h2 _ _ k3;have q4:=h2 _ _ k4;have q5:=h2 _ _ k5;have q6:=h2 _ _ k6;rw[hS]at q2;rw[hs]at q6;refine⟨b,o,c,_,_,S,_,_,_,sa,sl,sc,ps[i].1.b.events,h1,q0,q1,q2,q3,q4,q5,q6,by rw[<-hs];exact hp,?_,hs⟩;show ps[i].1=_;rw[hS2]
section
open Go.Deep Go.ChangeShapes
instance:Inhabited Evt.Event:=⟨⟨[],[]⟩⟩
instance:Inhabited (Evt.Entry×Value):=⟨(Evt.lx,.nilIface)⟩
theorem addr_add (b off j:Nat):((⟨b,off,none⟩:Addr).add j)=⟨b,off+j,none⟩:=by unfold Addr.add;split <;> simp_all
theorem jS {c:Nat->List Value} {sz:Nat}:∀(len:Nat),(∀i,i<len->(c i).length=sz)->((List.range len).flatMap c).length=len*sz
 |0,_=>by simp
 |n+1,h=>by
  rw[List.range_succ,List.flatMap_append,List.length_append,jS n (fun i hi=>h i (by omega))];simp[h n (by omega),Nat.succ_mul]
theorem CJ {c:Nat->List Value} {sz:Nat}:∀(len:Nat),(∀i,i<len->(c i).length=sz)->∀i r,i<len->r<sz->((List.range len).flatMap c)[i*sz+r]?=(c i)[r]?
 |0,_,i,r,hi,_=>by omega
 |n+1,h,i,r,hi,hr=>by
  have hl:=jS n (fun i hi=>h i (by omega));rw[List.range_succ,List.flatMap_append];by_cases e:i<n
  ·have hlt:i*sz+r<n*sz:=by
    have h1:i*sz+r<(i+1)*sz:=by rw[Nat.succ_mul];omega
    exact Nat.lt_of_lt_of_le h1 (Nat.mul_le_mul_right _ e)
   rw[List.getElem?_append_left (by rw[hl];exact hlt)];exact CJ n (fun i hi=>h i (by omega)) i r e hr
  ·obtain rfl:i=n:=by omega
   rw[List.getElem?_append_right (by rw[hl];omega),hl];simp
theorem pJ {w:World} {a:Addr} {len cap sz:Nat} (c:Nat->List Value) (hlen:∀i,i<len->(c i).length=sz) (hsz:0<sz) (hcell:∀i,i<len->∀r,r<sz->w.cell? ((a.add (i*sz)).add r)=(c i)[r]?) :
 Cells w (.slice (some a) len cap) sz len ((List.range len).flatMap c):=by
 refine⟨jS len hlen,?_⟩;by_cases h0:len=0
 ·subst h0;exact .inl ⟨rfl,_,_,rfl⟩
 ·right;have h1:=hcell 0 (by omega) 0 hsz;have hx:∃u,(c 0)[0]?=some u:=⟨_,aR (by rw[hlen 0 (by omega)];exact hsz)⟩;obtain⟨u,hu⟩:=hx;rw[hu]at h1;obtain⟨b,off,spot⟩:=a;have hspot:spot=none:=by simpa[Addr.add]using World.cell?_spot h1
  subst hspot;refine⟨b,off,cap,rfl,fun j u hj=>?_⟩;have hjl:=(List.getElem?_eq_some_iff.1 hj).1;rw[jS len hlen]at hjl;have hj2:j=(j / sz)*sz+j % sz:=by rw[Nat.mul_comm];exact(Nat.div_add_mod j sz).symm
  have hi:j / sz<len:=Nat.div_lt_of_lt_mul (by rw[Nat.mul_comm];exact hjl);have hr:j % sz<sz:=Nat.mod_lt _ hsz;rw[hj2,CJ len hlen _ _ hi hr]at hj;have:=hcell _ hi _ hr;rw[hj,add_add,<-hj2,addr_add]at this;exact this
section
variable {H:Type} {enc:TypeId×Value->H} {W:World}
set_option maxRecDepth 10000 in
theorem su {fuel:Nat} {v:Value} {x:DataW H×List MemPlace} (h:DataW.trod enc prog W 0 (fun _=>true) true fuel 36 [v]=some x):∃es,dp W v es:=by
 rcases open_slice underlying36 h with⟨hcs,_⟩|⟨a,len,cap,m,n,D,Pl,hcs,_,hl,_,hm,_,hx⟩
 ·simp only[List.cons.injEq,and_true]at hcs;subst hcs;exact⟨[],rfl,.inl ⟨rfl,_,_,rfl⟩⟩
 ·simp only[List.cons.injEq,and_true]at hcs;subst hcs;have hc2:prog.cellsOf 122=2:=by kernel_rfl
  have each:∀i,i<len->∃e:Evt.Event,∀r,r<2->W.cell? ((a.add (i*2)).add r)=([Value.string ⟨e.kind.toArray⟩,Value.string ⟨e.data.toArray⟩]:List Value)[r]?:=by
   intro i hi;obtain⟨cs',h1,h2⟩:=hx i (by rw[hm];simp only[if_true];omega);rw[hc2]at h1;obtain⟨_,hl2,hat⟩:=World.cells?_some h1;obtain⟨y0,y1,n',hx',_,q0,q1⟩:=trod_struct2 underlying122 h2;obtain⟨u0,u1,rfl⟩:∃u0 u1,cs'=[u0,u1]:=by
    match cs',hl2 with
    |[u0,u1],_=>exact⟨u0,u1,rfl⟩
   have hs1:prog.cellsOf 9=1:=by kernel_rfl
   obtain⟨s0,e0,_,_⟩:=DataW.trod_string underlying9 q0;obtain⟨s1,e1,_,_⟩:=DataW.trod_string underlying9 q1;simp only[hs1,List.drop_zero,List.drop_succ_cons,List.take_succ_cons,List.take_zero,List.cons.injEq,and_true]at e0 e1;subst e0 e1;refine⟨⟨s0.data.toList,s1.data.toList⟩,fun r hr=>?_⟩;rw[hat r hr]
  obtain⟨f,hf⟩:=choose_lt (α:=Evt.Event) (p:=fun i e=>∀r,r<2->W.cell? ((a.add (i*2)).add r)=([Value.string ⟨e.kind.toArray⟩,Value.string ⟨e.data.toArray⟩]:List Value)[r]?) each;have hc:=pJ (w:=W) (a:=a) (len:=len) (cap:=cap) (sz:=2) (fun i=>[Value.string ⟨(f i).kind.toArray⟩,Value.string ⟨(f i).data.toArray⟩]) (fun i _=>rfl) (by omega) (fun i hi r hr=>hf i hi r hr);refine⟨(List.range len).map f,?_⟩;have e:cZ ((List.range len).map f)=(List.range len).flatMap fun i=>[Value.string ⟨(f i).kind.toArray⟩,Value.string ⟨(f i).data.toArray⟩]:=by
   simp[cZ,List.flatMap_map]
  unfold dp;rw[e,List.length_map,List.length_range];exact hc
set_option maxRecDepth 10000 in
theorem zx {fuel:Nat} {v:Value} {x:DataW H×List MemPlace} (h:DataW.trod enc prog W 0 (fun _=>true) true fuel 67 [v]=some x):∃ps:List (Evt.Entry×Value),kU W v ps/\AK v:=by
 rcases open_slice underlying67 h with⟨hcs,_⟩|⟨a,len,cap,m,n,D,Pl,hcs,_,hl,hml,hm,_,hx⟩
 ·simp only[List.cons.injEq,and_true]at hcs;subst hcs;exact⟨[],⟨⟨rfl,.inl ⟨rfl,_,_,rfl⟩⟩,fun p hp=>by cases hp⟩,.inl rfl⟩
 ·simp only[List.cons.injEq,and_true]at hcs;subst hcs;have hc7:prog.cellsOf 95=7:=by kernel_rfl
  have hc5:prog.cellsOf 38=5:=by kernel_rfl
  have hs1:prog.cellsOf 9=1:=by kernel_rfl
  have hi1:prog.cellsOf 3=1:=by kernel_rfl
  have hv1:prog.cellsOf 36=1:=by kernel_rfl
  have each:∀i,i<len->∃p:Evt.Entry×Value,dp W p.2 p.1.b.events/\∀r,r<7->W.cell? ((a.add (i*7)).add r)=(aM [p])[r]?:=by
   intro i hi;obtain⟨cs',h1,h2⟩:=hx i (by rw[hm];simp only[if_true];omega);rw[hc7]at h1;obtain⟨_,hl7,hat⟩:=World.cells?_some h1;obtain⟨y0,y1,y2,n',_,_,q0,q1,q2⟩:=trod_struct3 underlying95 h2;obtain⟨u0,u1,u2,u3,u4,u5,u6,rfl⟩:∃u0 u1 u2 u3 u4 u5 u6,cs'=[u0,u1,u2,u3,u4,u5,u6]:=by
    match cs',hl7 with
    |[u0,u1,u2,u3,u4,u5,u6],_=>exact⟨u0,u1,u2,u3,u4,u5,u6,rfl⟩
   obtain⟨p0,e0,_,_⟩:=DataW.trod_int underlying3 q0;obtain⟨p1,e1,_,_⟩:=DataW.trod_int underlying3 q1;simp only[hi1,List.drop_zero,List.drop_succ_cons,List.take_succ_cons,List.take_zero,List.cons.injEq,and_true]at e0 e1;simp only[hc5,List.drop_zero,List.drop_succ_cons,List.take_succ_cons,List.take_zero]at q2;obtain⟨xs,n2,_,_,_,hlen,hf⟩:=DataW.trod_struct underlying38 q2;obtain⟨z0,z1,z2,z3,z4,rfl⟩:∃z0 z1 z2 z3 z4,xs=[z0,z1,z2,z3,z4]:=by
    match xs,hlen with
    |[z0,z1,z2,z3,z4],_=>exact⟨z0,z1,z2,z3,z4,rfl⟩
   have hz0:DataW.trod enc prog W 0 (fun _=>true) true n2 9 [u2]=some z0:=by simpa[hs1]using hf 0 _ rfl
   have hz1:DataW.trod enc prog W 0 (fun _=>true) true n2 3 [u3]=some z1:=by simpa[hi1]using hf 1 _ rfl
   have hz2:DataW.trod enc prog W 0 (fun _=>true) true n2 3 [u4]=some z2:=by simpa[hi1]using hf 2 _ rfl
   have hz3:DataW.trod enc prog W 0 (fun _=>true) true n2 3 [u5]=some z3:=by simpa[hi1]using hf 3 _ rfl
   have hz4:DataW.trod enc prog W 0 (fun _=>true) true n2 36 [u6]=some z4:=by simpa[hv1]using hf 4 _ rfl
   obtain⟨s2,e2,_,_⟩:=DataW.trod_string underlying9 hz0;obtain⟨p3,e3,_,_⟩:=DataW.trod_int underlying3 hz1;obtain⟨p4,e4,_,_⟩:=DataW.trod_int underlying3 hz2;obtain⟨p5,e5,_,_⟩:=DataW.trod_int underlying3 hz3;obtain⟨es,hev⟩:=su hz4;simp only[List.cons.injEq,and_true]at e2 e3 e4 e5;subst e0 e1 e2 e3 e4 e5;refine⟨(⟨p0,p1,⟨s2.data.toList,p3,p4,p5,es⟩⟩,u6),hev,fun r hr=>?_⟩;rw[hat r hr];rfl
  obtain⟨f,hf⟩:=choose_lt (α:=Evt.Entry×Value) (p:=fun i p=>dp W p.2 p.1.b.events/\∀r,r<7->W.cell? ((a.add (i*7)).add r)=(aM [p])[r]?) each;have hc:=pJ (w:=W) (a:=a) (len:=len) (cap:=cap) (sz:=7) (fun i=>aM [f i]) (fun i _=>rfl) (by omega) (fun i hi r hr=>(hf i hi).2 r hr);refine⟨(List.range len).map f,⟨?_,fun p hp=>?_⟩,.inr ⟨a,len,cap,rfl,hl,hml⟩⟩
  ·have e:aM ((List.range len).map f)=(List.range len).flatMap fun i=>aM [f i]:=by
    simp[aM,List.flatMap_map]
   rw[e,List.length_map,List.length_range];exact hc
  ·obtain⟨i,hi,rfl⟩:=List.mem_map.1 hp;exact(hf i (List.mem_range.1 hi)).1
end
end
section
open Go.Deep Go.ChangeShapes
structure Lw where
 op:Int
 n:Int
 m:Int
 s:ByteArray
 ex:Int
 se:Int
 sq:Int
 es:List Evt.Event
 l:List (Evt.Entry×Value)
 tv:List Int
structure K0 where
 a:Lw
 ev:Value
 lv:Value
 kv:Value
def sV (n:Int):Prop:=-9223372036854775808<=n/\n<=9223372036854775807
theorem uE {n:Int} (h:(Lit.int .i64 n).wf=true):sV n:=by
 have h2:(decide (IntKind.i64.min<=n)&&decide (n<=IntKind.i64.max))=true:=h;rw[Bool.and_eq_true,decide_eq_true_eq,decide_eq_true_eq]at h2;have e1:IntKind.i64.min = -9223372036854775808:=by decide
 have e2:IntKind.i64.max=9223372036854775807:=by decide
 rw[e1,e2]at h2;exact h2
theorem pK {w:World} {v:Value} {sz n:Nat} {xs:List Value} (h:Cells w v sz n xs):∃va vc,v=.slice va n vc:=by
 rcases cC h with⟨h0,a,c,rfl⟩|⟨b,o,c,rfl⟩
 ·exact⟨a,c,by rw[h0]⟩
 ·exact⟨_,_,rfl⟩
instance:Inhabited K0:=⟨⟨⟨0,0,0,⟨#[]⟩,0,0,0,[],[],[]⟩,.nilIface,.nilIface,.nilIface⟩⟩
end
end Go.Proofs.YtmgmknmaepjnoaaGreatDoor
