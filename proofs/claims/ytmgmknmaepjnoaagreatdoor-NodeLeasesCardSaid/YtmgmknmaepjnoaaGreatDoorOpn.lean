/-
  The walks of the law package's pick and fits (layer 9): of entries of whatever size.
-/
import Derived.Deep.Slices
import Derived.Deep.Strs
import Derived.Test.YtmgmknmaepjnoaaGreatDoorAt
namespace Go.Proofs.YtmgmknmaepjnoaaGreatDoor
open Go.RowKit Go.Shelf Proofs.Tryz
def DK (w:World) (v:Value) (ps:List (Evt.Entry×Value)):Prop:=Cells w v 7 ps.length (aN ps)∧∀p∈ps,dz w p.2 p.1.b.events
def nH (e:Evt.Event):Bool:=decide (e.kind.length≤300)&&decide (e.data.length≤500)
def ky (e:Evt.Entry):Bool:=decide (e.b.stream.length≤300)&&decide (e.b.events.length≤20)&&e.b.events.all nH
def gI (l:List Evt.Entry):Bool:=decide (l.length≤40)&&l.all ky
theorem JS {w:World} {v:Value} {ps:List (Evt.Entry×Value)} (h:DK w v ps) (i:Nat) (hi:i<ps.length) :
 ∃(b o c:Nat) (p ep:Int) (S:ByteArray) (ex se sq:Int) (sa:Option Addr) (sl sc:Nat) (es:List Evt.Event),v=.slice (some ⟨b,o,none⟩) ps.length c ∧
  w.cell? ⟨b,o+i*7,none⟩=some (.int .i64 p)∧w.cell? ⟨b,o+i*7+1,none⟩=some (.int .i64 ep)∧w.cell? ⟨b,o+i*7+2,none⟩=some (.string S)∧w.cell? ⟨b,o+i*7+3,none⟩=some (.int .i64 ex)∧w.cell? ⟨b,o+i*7+4,none⟩=some (.int .i64 se)∧w.cell? ⟨b,o+i*7+5,none⟩=some (.int .i64 sq)∧w.cell? ⟨b,o+i*7+6,none⟩=some (.slice sa sl sc) ∧
  dz w (.slice sa sl sc) es∧Hid (ps[i].1=⟨p,ep,⟨S.data.toList,ex,se,sq,es⟩⟩)∧Hid (ps[i].2=.slice sa sl sc):=by
 rcases h.1.2 with⟨h0,_⟩|⟨b,o,c,h1,h2⟩
 ·omega
 ·obtain⟨k0,k1,k2,k3,k4,k5,k6⟩:=o5 ps i hi
  have hp:=h.2 ps[i] (List.getElem_mem hi)
  obtain⟨sa,sl,sc,hs⟩:=eS hp
  obtain⟨S,hS,hS2,hS3⟩:=bh ps[i].1.b.stream
  have q0:=h2 _ _ k0
  have q1:=h2 _ _ k1
  have q2:=h2 _ _ k2
  have q3:=h2 _ _ k3
  have q4:=h2 _ _ k4
  have q5:=h2 _ _ k5
  have q6:=h2 _ _ k6
  rw[hS]at q2
  rw[hs]at q6
  refine⟨b,o,c,_,_,S,_,_,_,sa,sl,sc,ps[i].1.b.events,h1,q0,q1,q2,q3,q4,q5,q6,by rw[←hs];exact hp,?_,hs⟩
  show ps[i].1=_
  rw[hS2]
section
open Go.Deep Go.ChangeShapes
instance:Inhabited Evt.Event:=⟨⟨[],[]⟩⟩
instance:Inhabited (Evt.Entry×Value):=⟨(Evt.kR,.nilIface)⟩
theorem addr_add (b off j:Nat):((⟨b,off,none⟩:Addr).add j)=⟨b,off+j,none⟩:=by unfold Addr.add;split <;> simp_all
theorem jB {c:Nat→List Value} {sz:Nat}:∀(len:Nat),(∀i,i<len→(c i).length=sz)→((List.range len).flatMap c).length=len*sz
 |0,_=>by simp
 |n+1,h=>by
  rw[List.range_succ,List.flatMap_append,List.length_append,jB n (fun i hi=>h i (by omega))]
  simp[h n (by omega),Nat.succ_mul]
theorem BH {c:Nat→List Value} {sz:Nat}:∀(len:Nat),(∀i,i<len→(c i).length=sz)→∀i r,i<len→r<sz→((List.range len).flatMap c)[i*sz+r]?=(c i)[r]?
 |0,_,i,r,hi,_=>by omega
 |n+1,h,i,r,hi,hr=>by
  have hl:=jB n (fun i hi=>h i (by omega))
  rw[List.range_succ,List.flatMap_append]
  by_cases e:i<n
  ·have hlt:i*sz+r<n*sz:=by
    have h1:i*sz+r<(i+1)*sz:=by rw[Nat.succ_mul];omega
    exact Nat.lt_of_lt_of_le h1 (Nat.mul_le_mul_right _ e)
   rw[List.getElem?_append_left (by rw[hl];exact hlt)]
   exact BH n (fun i hi=>h i (by omega)) i r e hr
  ·obtain rfl:i=n:=by omega
   rw[List.getElem?_append_right (by rw[hl];omega),hl]
   simp
theorem uj {w:World} {a:Addr} {len cap sz:Nat} (c:Nat→List Value) (hlen:∀i,i<len→(c i).length=sz) (hsz:0<sz) (hcell:∀i,i<len→∀r,r<sz→w.cell? ((a.add (i*sz)).add r)=(c i)[r]?) :
 Cells w (.slice (some a) len cap) sz len ((List.range len).flatMap c):=by
 refine⟨jB len hlen,?_⟩
 by_cases h0:len=0
 ·subst h0;exact .inl ⟨rfl,_,_,rfl⟩
 ·right
  have h1:=hcell 0 (by omega) 0 hsz
  have hx:∃u,(c 0)[0]?=some u:=⟨_,aT (by rw[hlen 0 (by omega)];exact hsz)⟩
  obtain⟨u,hu⟩:=hx
  rw[hu]at h1
  obtain⟨b,off,spot⟩:=a
  have hspot:spot=none:=by simpa[Addr.add]using World.cell?_spot h1
  subst hspot
  refine⟨b,off,cap,rfl,fun j u hj=>?_⟩
  have hjl:=(List.getElem?_eq_some_iff.1 hj).1
  rw[jB len hlen]at hjl
  have hj2:j=(j / sz)*sz+j % sz:=by rw[Nat.mul_comm];exact(Nat.div_add_mod j sz).symm
  have hi:j / sz<len:=Nat.div_lt_of_lt_mul (by rw[Nat.mul_comm];exact hjl)
  have hr:j % sz<sz:=Nat.mod_lt _ hsz
  rw[hj2,BH len hlen _ _ hi hr]at hj
  have:=hcell _ hi _ hr
  rw[hj,add_add,←hj2,addr_add]at this
  exact this
section
variable {H:Type} {enc:TypeId×Value→H} {W:World}
set_option maxRecDepth 10000 in
theorem Aq {fuel:Nat} {v:Value} {x:DataW H×List MemPlace} (h:DataW.trod enc prog W 0 (fun _=>true) true fuel 36 [v]=some x):∃es,dz W v es:=by
 rcases open_slice underlying36 h with⟨hcs,_⟩|⟨a,len,cap,m,n,D,Pl,hcs,_,hl,_,hm,_,hx⟩
 ·simp only[List.cons.injEq,and_true]at hcs
  subst hcs
  exact⟨[],rfl,.inl ⟨rfl,_,_,rfl⟩⟩
 ·simp only[List.cons.injEq,and_true]at hcs
  subst hcs
  have hc2:prog.cellsOf 122=2:=by kernel_rfl
  have each:∀i,i<len→∃e:Evt.Event,∀r,r<2→W.cell? ((a.add (i*2)).add r)=([Value.string ⟨e.kind.toArray⟩,Value.string ⟨e.data.toArray⟩]:List Value)[r]?:=by
   intro i hi
   obtain⟨cs',h1,h2⟩:=hx i (by rw[hm];simp only[if_true];omega)
   rw[hc2]at h1
   obtain⟨_,hl2,hat⟩:=World.cells?_some h1
   obtain⟨y0,y1,n',hx',_,q0,q1⟩:=trod_struct2 underlying122 h2
   obtain⟨u0,u1,rfl⟩:∃u0 u1,cs'=[u0,u1]:=by
    match cs',hl2 with
    |[u0,u1],_=>exact⟨u0,u1,rfl⟩
   have hs1:prog.cellsOf 9=1:=by kernel_rfl
   obtain⟨s0,e0,_,_⟩:=DataW.trod_string underlying9 q0
   obtain⟨s1,e1,_,_⟩:=DataW.trod_string underlying9 q1
   simp only[hs1,List.drop_zero,List.drop_succ_cons,List.take_succ_cons,List.take_zero,List.cons.injEq,and_true]at e0 e1
   subst e0 e1
   refine⟨⟨s0.data.toList,s1.data.toList⟩,fun r hr=>?_⟩
   rw[hat r hr]
  obtain⟨f,hf⟩:=choose_lt (α:=Evt.Event) (p:=fun i e=>∀r,r<2→W.cell? ((a.add (i*2)).add r)=([Value.string ⟨e.kind.toArray⟩,Value.string ⟨e.data.toArray⟩]:List Value)[r]?) each
  have hc:=uj (w:=W) (a:=a) (len:=len) (cap:=cap) (sz:=2) (fun i=>[Value.string ⟨(f i).kind.toArray⟩,Value.string ⟨(f i).data.toArray⟩]) (fun i _=>rfl) (by omega) (fun i hi r hr=>hf i hi r hr)
  refine⟨(List.range len).map f,?_⟩
  have e:cI ((List.range len).map f)=(List.range len).flatMap fun i=>[Value.string ⟨(f i).kind.toArray⟩,Value.string ⟨(f i).data.toArray⟩]:=by
   simp[cI,List.flatMap_map]
  unfold dz
  rw[e,List.length_map,List.length_range]
  exact hc
end
end
section
open Go.Deep Go.ChangeShapes
structure J6 where
 op:Int
 n:Int
 m:Int
 s:ByteArray
 ex:Int
 se:Int
 sq:Int
 es:List Evt.Event
 l:List (Evt.Entry×Value)
 sJ:List Int
structure JD where
 a:J6
 ev:Value
 lv:Value
 kv:Value
def rV (n:Int):Prop:=-9223372036854775808≤n∧n≤9223372036854775807
theorem tP {n:Int} (h:(Lit.int .i64 n).wf=true):rV n:=by
 have h2:(decide (IntKind.i64.min≤n)&&decide (n≤IntKind.i64.max))=true:=h
 rw[Bool.and_eq_true,decide_eq_true_eq,decide_eq_true_eq]at h2
 have e1:IntKind.i64.min = -9223372036854775808:=by decide
 have e2:IntKind.i64.max=9223372036854775807:=by decide
 rw[e1,e2]at h2
 exact h2
theorem um {w:World} {v:Value} {sz n:Nat} {xs:List Value} (h:Cells w v sz n xs):∃va vc,v=.slice va n vc:=by
 rcases cR h with⟨h0,a,c,rfl⟩|⟨b,o,c,rfl⟩
 ·exact⟨a,c,by rw[h0]⟩
 ·exact⟨_,_,rfl⟩
instance:Inhabited JD:=⟨⟨⟨0,0,0,⟨#[]⟩,0,0,0,[],[],[]⟩,.nilIface,.nilIface,.nilIface⟩⟩
end
end Go.Proofs.YtmgmknmaepjnoaaGreatDoor
