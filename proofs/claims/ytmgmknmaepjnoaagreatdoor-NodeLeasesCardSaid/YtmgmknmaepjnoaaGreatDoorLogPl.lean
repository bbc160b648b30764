/-
  Plain Lean, no program in sight: a log on a disk (layer 11): its segments hold eight entries each, but for the last.
-/
import Derived.Test.YtmgmknmaepjnoaaGreatDoorAt
namespace Go.Proofs.YtmgmknmaepjnoaaGreatDoor
open Go.RowKit Proofs.Tryz
namespace Lg
def chunk (i:Nat) (L:List Evt.Entry):List Evt.Entry:=(L.drop (8*i)).take 8
def jG (i:Nat) (n:Int) (L:List Evt.Entry):Dk.ah:=⟨af.nameOf n,af.whole ((8*i+1:Nat):Int) (chunk i L),(af.whole ((8*i+1:Nat):Int) (chunk i L)).size⟩
def yR (next:Int) (al:List Int):Dk.ah:=⟨aj.file,aj.bytes next al,(aj.bytes next al).size⟩
def nV (fs:List Dk.ah):Nat:=match Dk.look fs aj.file with|none=>0|some x=>x.bytes.size
def eZ (fs:List Dk.ah) (k:List UInt8):Nat:=match Dk.look fs k with|none=>0|some x=>x.bytes.size
theorem D8 {α:Type} {f g:α→Nat}:∀(l:List α),(∀x,f x≤g x)→(l.map f).sum≤(l.map g).sum
 |[],_=>ab
 |x::l,h=>by
  have:=D8 l h
  have:=h x
  simp only[List.map_cons,List.sum_cons];omega
theorem kV:∀(K:List (List UInt8)) (fs:List Dk.ah),Dk.Sorted fs→(∀k,Dk.look fs k≠none→k∈K)→Dk.total fs≤(K.map (eZ fs)).sum∧fs.length≤K.length
 |[],fs,_,h=>by
  cases fs with
  |nil=>simp[Dk.total]
  |cons x fs=>have:=h x.name (by simp[Dk.look]);cases this
 |k::K,fs,hs,h=>by
  have hsd:=Dk.sorted_del k fs hs
  obtain⟨h1,h2⟩:=kV K (Dk.del k fs) hsd (fun j hj=>by
   by_cases e:j=k
   ·subst e;exact absurd (Dk.eN j fs hs) hj
   ·rw[Dk.cL k e]at hj
    rcases List.mem_cons.1 (h j hj)with h|h
    ·exact absurd h e
    ·exact h)
  have h3:((K.map (eZ (Dk.del k fs))).sum)≤(K.map (eZ fs)).sum:=D8 K (fun j=>by
   unfold eZ
   by_cases e:j=k
   ·subst e;rw[Dk.eN j fs hs];exact Nat.zero_le _
   ·rw[Dk.cL k e];exact ab)
  have ht:=Dk.lA k fs
  have hl:=Dk.rm k fs
  simp only[List.map_cons,List.sum_cons,List.length_cons]
  unfold eZ
  unfold eZ at h1 h3
  cases e:Dk.look fs k with
  |none =>
   rw[e]at ht hl
   simp only[Option.isSome_none,Bool.false_eq_true,if_false]at ht hl ⊢
   exact⟨by omega,by omega⟩
  |some x =>
   rw[e]at ht hl
   simp only[Option.isSome_some,if_true]at ht hl ⊢
   exact⟨by omega,by omega⟩
theorem wh (fs:List Dk.ah) (L:List Evt.Entry):∀(l:List Int) (i:Nat),(∀(j:Nat) (n:Int),l[j]?=some n→eZ fs (af.nameOf n)≤15+(af.aM (chunk (i+j) L)).length)→((l.map af.nameOf).map (eZ fs)).sum≤15*l.length+(af.aM (L.drop (8*i))).length
 |[],i,_=>by simp
 |n::l,i,h=>by
  have h0:=h 0 n rfl
  have ih:=wh fs L l (i+1) (fun j n' hj=>by
   have:=h (j+1) n' (by simpa using hj)
   rwa [show i+(j+1)=i+1+j by omega]at this)
  have e:(af.aM (L.drop (8*i))).length=(af.aM (chunk i L)).length+(af.aM (L.drop (8*(i+1)))).length:=by
   have:L.drop (8*i)=chunk i L++L.drop (8*(i+1)):=by
    unfold chunk
    rw[show 8*(i+1)=8*i+8 by omega,←List.drop_drop,List.take_append_drop]
   rw[this,af.jD,List.length_append]
  simp only[List.map_cons,List.sum_cons,List.length_cons,Nat.add_zero]at h0 ⊢
  omega
theorem vK:∀{fs:List Dk.ah} {x:Dk.ah},Dk.Sorted fs→x∈fs→Dk.look fs x.name=some x
 |[],_,_,h=>by cases h
 |y::fs,x,hs,h=>by
  have h':=List.pairwise_cons.1 hs
  rcases List.mem_cons.1 h with rfl|h
  ·simp[Dk.look]
  ·have:=h'.1 x h
   rw[Dk.look,if_neg (fun e=>by rw[e]at this;exact Std.lt_irrefl this)]
   exact vK h'.2 h
structure mG (ex:List Dk.ah):Prop where
 sorted:Dk.Sorted ex
 pA:Dk.look ex aj.file=none
 bJ:Dk.look ex af.bJ=none
 number:∀x∈ex,af.numberOf x.name=0
 sync:∀x∈ex,x.synced=x.bytes.size
 KH:ex.length≤5
theorem tA:mG []:=⟨by simp[Dk.Sorted],rfl,rfl,(fun x hx=>by cases hx),(fun x hx=>by cases hx),by simp⟩
theorem mG.pt {ex:List Dk.ah} (h:mG ex) (n:Int) (h1:1≤n) (h2:n≤1073741824):Dk.look ex (af.nameOf n)=none:=by
 cases e:Dk.look ex (af.nameOf n)with
 |none=>rfl
 |some x =>
  obtain⟨e1,e2⟩:=Dk.gR e
  have:=h.number x e2
  rw[e1,af.jt n h1 h2]at this
  omega
theorem x9 {fs:List Dk.ah}:∀(ex:List Dk.ah),(∀x∈ex,eZ fs x.name=x.bytes.size)→((ex.map (·.name)).map (eZ fs)).sum=Dk.total ex
 |[],_=>rfl
 |x::ex,h=>by
  have ih:=x9 ex (fun y hy=>h y (List.mem_cons_of_mem _ hy))
  have h0:=h x List.mem_cons_self
  simp only[List.map_cons,List.sum_cons,Dk.total]at ih ⊢
  omega
structure Holds (ex fs:List Dk.ah) (next:Int) (al:List Int) (L:List Evt.Entry):Prop where
 sorted:Dk.Sorted fs
 right:aj.right next al=true
 pA:(al=[]∧next=1∧Dk.look fs aj.file=none)∨Dk.look fs aj.file=some (yR next al)
 pt:∀(i:Nat) (n:Int),al[i]?=some n→Dk.look fs (af.nameOf n)=some (jG i n L)
 oth:∀k,k≠aj.file→(∀n∈al,k≠af.nameOf n)→Dk.look fs k=Dk.look ex k
 exs:mG ex
 lo:al=[]→L=[]
 low:8*al.length≤L.length+8
 high:L.length≤8*al.length
 kH:Evt.follows L 0 0=true
theorem Holds.known {ex fs:List Dk.ah} {next:Int} {al:List Int} {L:List Evt.Entry} (h:Holds ex fs next al L):Dk.total fs≤nV fs+15*al.length+(af.aM L).length+Dk.total ex∧fs.length≤al.length+1+ex.length:=by
 have hin:∀k x,Dk.look ex k=some x→k∈ex.map (·.name):=fun k x e=>by
  obtain⟨e1,e2⟩:=Dk.gR e
  rw[←e1];exact List.mem_map.2 ⟨x,e2,rfl⟩
 obtain⟨h1,h2⟩:=kV (aj.file::(al.map af.nameOf++ex.map (·.name))) fs h.sorted (fun k hk=>by
  apply Classical.byContradiction
  intro hn
  rw[List.mem_cons,List.mem_append,List.mem_map]at hn
  refine hk ?_
  rw[h.oth k (fun e=>hn (.inl e)) (fun n hm e=>hn (.inr (.inl ⟨n,hm,e.symm⟩)))]
  cases e:Dk.look ex k with
  |none=>rfl
  |some x=>exact absurd (.inr (.inr (hin k x e))) hn)
 have h3:=wh fs L al 0 (fun j n hj=>by
  unfold eZ
  rw[h.pt j n hj]
  simp only[jG]
  rw[Lib.size_eq]
  have:=af.gj ((8*j+1:Nat):Int)
  simp only[af.whole,List.length_append,Nat.zero_add];omega)
 have h4:eZ fs aj.file=nV fs:=rfl
 have h5:=x9 (fs:=fs) ex (fun x hx=>by
  have hl:=vK h.exs.sorted hx
  have hf:x.name≠aj.file:=fun e=>by rw[e,h.exs.pA]at hl;cases hl
  have hs:∀n∈al,x.name≠af.nameOf n:=fun n hn e=>by
   have g:=(aj.dw h.right).2.2.2 n hn
   have g2:=(aj.dw h.right).2.1
   rw[e,h.exs.pt n (by omega) (by omega)]at hl;cases hl
  unfold eZ
  rw[h.oth x.name hf hs,hl])
 simp only[List.map_cons,List.map_append,List.sum_cons,List.sum_append,List.length_cons,List.length_append,List.length_map,Nat.mul_zero,List.drop_zero]at h1 h2 h3 h5
 exact⟨by omega,by omega⟩
theorem Holds.J7 {ex fs:List Dk.ah} {next:Int} {al:List Int} {L:List Evt.Entry} (h:Holds ex fs next al L):Dk.total fs≤nV fs+15*al.length+(af.aM L).length+Dk.total ex:=h.known.1
theorem Holds.len {ex fs:List Dk.ah} {next:Int} {al:List Int} {L:List Evt.Entry} (h:Holds ex fs next al L):fs.length≤al.length+6:=by have:=h.known.2;have:=h.exs.KH;omega
theorem gh:∀(l:List Int) (a b:Int),aj.dD a l=some b→l.Pairwise (·< ·)
 |[],_,_,_=>List.Pairwise.nil
 |n::l,a,b,h=>by
  rw[aj.dD]at h
  split at h
  ·cases h
  ·exact List.pairwise_cons.2 ⟨fun m hm=>((aj.qw _ _ _ h).2 m hm).1,gh l n b h⟩
theorem Eg {next:Int} {al:List Int} (h:aj.right next al=true) {i j:Nat} {n:Int} (hi:al[i]?=some n) (hj:al[j]?=some n):i=j:=by
 obtain⟨last,h1,_⟩:=aj.mU.1 h
 have hp:=gh _ _ _ h1
 obtain⟨li,ei⟩:=List.getElem?_eq_some_iff.1 hi
 obtain⟨lj,ej⟩:=List.getElem?_eq_some_iff.1 hj
 rcases Nat.lt_trichotomy i j with h|h|h
 ·have:=List.pairwise_iff_getElem.1 hp i j li lj h
  omega
 ·exact h
 ·have:=List.pairwise_iff_getElem.1 hp j i lj li h
  omega
theorem Ih {next:Int} {al:List Int} (h:aj.right next al=true) {n m:Int} (hn:n∈al) (hm:m∈al) (e:af.nameOf n=af.nameOf m):n=m:=by
 obtain⟨h1,h2,h3,h4⟩:=aj.dw h
 have g1:=h4 n hn
 have g2:=h4 m hm
 exact af.sE (by omega) (by omega) (by omega) (by omega) e
theorem GK:Holds [] [] 1 [] [] :=
 ⟨by simp[Dk.Sorted],by simp[aj.right,aj.dD],.inl ⟨rfl,rfl,rfl⟩,fun i n h=>by simp at h,fun _ _ _=>rfl,tA,fun _=>rfl,by simp,by simp,rfl⟩
theorem vH (next:Int) (al:List Int) (h:al.length≤30):(aj.bytes next al).size≤200:=by
 have:=(aj.ph next al).1
 rw[Lib.size_eq]
 simp only[aj.bytes,Frm.gi];omega
theorem Holds.yQ {ex fs:List Dk.ah} {next:Int} {al:List Int} {L:List Evt.Entry} (h:Holds ex fs next al L):nV fs≤200:=by
 have h3:=(aj.dw h.right).2.2.1
 unfold nV
 rcases h.pA with⟨_,_,e⟩|e
 ·rw[e];exact Nat.zero_le _
 ·rw[e];exact vH _ _ h3
theorem Holds.grow {ex fs:List Dk.ah} {next room:Int} {al:List Int} {L:List Evt.Entry} (h:Holds ex fs next al L) (hf:L.length=8*al.length) (h30:al.length<30) (hn:next<1073741824) (hr:(200+200+15*(al.length+1)+(af.aM L).length:Int)≤room-(Dk.total ex:Int)) :
 ∃f1 f2,af.create room next (L.length+1) fs=(f1,0)∧aj.save room (next+1) (al++[next]) f1=(f2,0)∧Holds ex f2 (next+1) (al++[next]) L:=by
 obtain⟨r1,r2,r3,r4⟩:=aj.dw h.right
 have hml:=h.yQ
 have htot:=h.J7
 have hlen:=h.len
 have hnew:Dk.look fs (af.nameOf next)=none:=by
  rw[h.oth _ (aj.kZ next) (fun n hm e=>?_),h.exs.pt next r1 (by omega)]
  have g:=r4 n hm
  have:=af.sE (n:=next) (m:=n) r1 r2 g.1 (by omega) e
  omega
 have hc:=af.A8 (room:=room) (n:=next) (first:=(L.length:Int)+1) (fs:=fs) r1 r2 (by omega) (by omega) h.sorted hnew (by omega) (by omega)
 obtain⟨y,hy⟩:∃y:Dk.ah,y=⟨af.nameOf next,⟨(af.cz ((L.length:Int)+1)).toArray⟩,(⟨(af.cz ((L.length:Int)+1)).toArray⟩:ByteArray).size⟩:=⟨_,rfl⟩
 rw[←hy]at hc
 have hyn:y.name=af.nameOf next:=by rw[hy]
 have hys:y.bytes.size≤15:=by rw[hy];simp only;rw[Lib.size_eq];exact af.gj _
 have s1:=Dk.sorted_put y fs h.sorted
 have t1:=Dk.jP y fs h.sorted
 rw[hyn,hnew]at t1
 simp only at t1
 have l1:=Dk.gq y fs h.sorted
 rw[hyn,hnew]at l1
 simp only[Option.isSome_none,Bool.false_eq_true,if_false]at l1
 have hrt:=aj.ye h.right hn h30
 have temp1:Dk.look (Dk.put y fs) af.bJ=none:=by
  rw[Dk.aF y (by rw[hyn];exact fun e=>af.Bi next e.symm)]
  exact(h.oth _ (fun e=>aj.qF e.symm) (fun n _ e=>af.Bi n e.symm)).trans h.exs.bJ
 have man1:Dk.look (Dk.put y fs) aj.file=Dk.look fs aj.file:=Dk.aF y (by rw[hyn];exact fun e=>aj.kZ next e.symm) fs
 have hb:=vH (next+1) (al++[next]) (by simp;omega)
 have hw:=aj.xz (room:=room) (k:=aj.file) (s:=aj.bytes (next+1) (al++[next])) s1 aj.De aj.qF temp1 (by omega) (by omega)
 refine⟨_,_,hc,by rw[aj.save,if_pos hrt];exact hw,Dk.sorted_put _ _ s1,hrt,.inr (Dk.aZ (yR (next+1) (al++[next])) _),?_,?_,h.exs,fun e=>by simp at e,by simp;omega,by simp;omega,h.kH⟩
 ·intro i n hi
  have hne:af.nameOf n≠(yR (next+1) (al++[next])).name:=aj.kZ n
  rw[Dk.aF (yR (next+1) (al++[next])) hne]
  by_cases hil:i<al.length
  ·rw[List.getElem?_append_left hil]at hi
   have hnm:n∈al:=List.mem_of_getElem? hi
   rw[Dk.aF y (by rw[hyn];intro e;have g:=r4 n hnm;have:=af.sE (n:=n) (m:=next) g.1 (by omega) r1 r2 e;omega)]
   exact h.pt i n hi
  ·have hie:i=al.length:=by
    have:=(List.getElem?_eq_some_iff.1 hi).1
    simp at this;omega
   subst hie
   rw[List.getElem?_append_right ab,Nat.sub_self]at hi
   simp only[List.getElem?_cons_zero,Option.some.injEq]at hi
   subst hi
   have e1:=Dk.aZ y fs
   rw[hyn]at e1
   rw[e1,hy]
   have hch:chunk al.length L=[]:=by unfold chunk;rw[List.drop_eq_nil_of_le (by omega)];rfl
   have hcast:((8*al.length+1:Nat):Int)=(L.length:Int)+1:=by omega
   simp only[jG,hch,hcast,af.whole,af.Dy,List.append_nil]
 ·intro k hk hks
  rw[Dk.aF (yR (next+1) (al++[next])) hk,Dk.aF y (by rw[hyn];exact hks next (by simp))]
  exact h.oth k hk (fun n hn=>hks n (by simp[hn]))
theorem pC:∀(l:List Evt.Entry) (pos e e':Int),e'≤e→Evt.follows l pos e=true→Evt.follows l pos e'=true
 |[],_,_,_,_,_=>rfl
 |x::l,pos,e,e',h,hf=>by
  obtain⟨h1,h2,h3,h4⟩:=af.cZ.1 hf
  exact af.cZ.2 ⟨h1,by omega,h3,h4⟩
theorem rl:∀(l:List Evt.Entry) (pos e:Int),Evt.follows l pos e=true→(af.dQ pos e l).1=pos+l.length∧e≤(af.dQ pos e l).2
 |[],_,_,_=>by simp[af.dQ]
 |x::l,pos,e,hf=>by
  obtain⟨h1,h2,h3,h4⟩:=af.cZ.1 hf
  obtain⟨g1,g2⟩:=rl l _ _ h4
  rw[af.dQ,g1,List.length_cons]
  exact⟨by omega,by omega⟩
theorem GM:∀(l:List Evt.Entry) (p e p' e':Int),l≠[]→af.dQ p e l=af.dQ p' e' l
 |[],_,_,_,_,h=>absurd rfl h
 |_::_,_,_,_,_,_=>rfl
theorem qJ:∀(a b:List Evt.Entry) (p e:Int),af.dQ p e (a++b)=af.dQ (af.dQ p e a).1 (af.dQ p e a).2 b
 |[],_,_,_=>rfl
 |x::a,b,p,e=>by rw[List.cons_append,af.dQ,qJ a b,af.dQ]
theorem Holds.chunks {ex fs:List Dk.ah} {next:Int} {al:List Int} {L:List Evt.Entry} (h:Holds ex fs next al L) (i:Nat) (hi:i<al.length):Evt.follows (chunk i L) (8*i:Nat) 0=true:=by
 have e:L=L.take (8*i)++(chunk i L++(L.drop (8*i)).drop 8):=by
  unfold chunk;rw[List.take_append_drop,List.take_append_drop]
 have hf:=h.kH
 rw[e]at hf
 obtain⟨f1,f2⟩:=(af.cM _ _ _ _).1 hf
 obtain⟨g1,g2⟩:=rl _ _ _ f1
 have f3:=((af.cM _ _ _ _).1 f2).1
 have hl:(L.take (8*i)).length=8*i:=by
  have:=h.low
  rw[List.length_take];omega
 rw[g1,hl]at f3
 have f4:=pC _ _ _ 0 g2 f3
 simpa using f4
theorem Holds.add {ex fs:List Dk.ah} {next room:Int} {al:List Int} {L m:List Evt.Entry} {n:Int} (h:Holds ex fs next al L) (hn:al[al.length-1]?=some n) (hm:(L++m).length≤8*al.length) (hfo:Evt.follows (L++m) 0 0=true) (hr:(200+15*al.length+(af.aM (L++m)).length:Int)≤room-(Dk.total ex:Int)) :
 ∃f,af.jr room n m fs=(f,0)∧Holds ex f next al (L++m):=by
 obtain⟨r1,r2,r3,r4⟩:=aj.dw h.right
 have hml:=h.yQ
 have htot:=h.J7
 have hlow:=h.low
 have hlt:al.length-1<al.length:=(List.getElem?_eq_some_iff.1 hn).1
 obtain⟨i,hi⟩:∃i,al.length-1=i:=⟨_,rfl⟩
 rw[hi]at hn hlt
 have hnl:al.length=i+1:=by omega
 have hnr:=r4 n (List.mem_of_getElem? hn)
 have hch:=h.chunks i hlt
 have hlk:=h.pt i n hn
 have hld:af.cx n fs=(⟨((8*i+1:Nat):Int),chunk i L,false⟩,0):=by
  rw[af.tM hlk]
  exact af.tL _ _ (by omega) (by omega) (by rw[show(((8*i+1:Nat):Int)-1)=((8*i:Nat):Int)by omega];exact hch)
 have eL:L=L.take (8*i)++chunk i L:=by
  have e:(L.drop (8*i)).take 8=L.drop (8*i):=List.take_of_length_le (by rw[List.length_drop];have:=h.high;omega)
  unfold chunk;rw[e,List.take_append_drop]
 have hlt8:(L.take (8*i)).length=8*i:=by rw[List.length_take];omega
 have hgo:Evt.follows m (af.last ⟨((8*i+1:Nat):Int),chunk i L,false⟩).1 (af.last ⟨((8*i+1:Nat):Int),chunk i L,false⟩).2=true:=by
  rw[af.Gu]
  simp only
  have f:=((af.cM L m 0 0).1 hfo).2
  have fl:=h.kH
  rw[eL]at fl
  obtain⟨f1,f2⟩:=(af.cM _ _ _ _).1 fl
  obtain⟨g1,g2⟩:=rl _ _ _ f1
  rw[hlt8]at g1
  rw[eL,qJ]at f
  by_cases hc:chunk i L=[]
  ·rw[hc]at f ⊢
   simp only[af.dQ]at f ⊢
   rw[g1]at f
   have:=pC _ _ _ 0 g2 f
   rw[show(((8*i+1:Nat):Int)-1)=0+((8*i:Nat):Int)by omega];exact this
  ·rw[GM (chunk i L) _ _ (((8*i+1:Nat):Int)-1) 0 hc]at f;exact f
 have hcm:chunk i (L++m)=chunk i L++m:=by
  unfold chunk
  rw[List.length_append]at hm
  rw[List.drop_append_of_le_length (by omega),List.take_of_length_le (by rw[List.length_append,List.length_drop];omega),List.take_of_length_le (by rw[List.length_drop];omega)]
 have hbb:(af.aM (L++m)).length=(af.aM L).length+(af.aM m).length:=by rw[af.jD,List.length_append]
 rw[af.G3 hld]
 simp only[Bool.false_eq_true,if_false,hgo,Bool.true_eq_false]
 by_cases hm0:m=[]
 ·subst hm0
  rw[if_pos rfl,List.append_nil]
  exact⟨fs,rfl,h⟩
 ·rw[if_neg hm0]
  have hbs:(⟨(af.aM m).toArray⟩:ByteArray).size=(af.aM m).length:=by rw[Lib.size_eq]
  obtain⟨a1,a2⟩:=af.EH (room:=room) (s:=⟨(af.aM m).toArray⟩) h.sorted (af.tF n (by omega) (by omega)) hlk (by rw[hbs];omega)
  rw[a2,a1,if_pos rfl]
  have hfile:(⟨af.nameOf n,(jG i n L).bytes++⟨(af.aM m).toArray⟩,((jG i n L).bytes++⟨(af.aM m).toArray⟩).size⟩:Dk.ah)=jG i n (L++m):=by
   simp only[jG,hcm,af.xD]
  rw[hfile]
  have hsn:(jG i n (L++m)).name=af.nameOf n:=rfl
  have hman:Dk.look (Dk.put (jG i n (L++m)) fs) aj.file=Dk.look fs aj.file:=Dk.aF (jG i n (L++m)) (fun e=>aj.kZ n e.symm) fs
  refine⟨_,rfl,Dk.sorted_put _ _ h.sorted,h.right,?_,?_,?_,h.exs,fun e=>by rw[e]at hlt;simp at hlt,by rw[List.length_append];omega,hm,hfo⟩
  ·rw[hman];exact h.pA
  ·intro j n' hj
   by_cases e:j=i
   ·subst e
    rw[hn]at hj
    cases hj
    exact Dk.aZ (jG j n (L++m)) fs
   ·have hjl:=(List.getElem?_eq_some_iff.1 hj).1
    have hne:af.nameOf n'≠(jG i n (L++m)).name:=fun e2=>by
     have:=Ih h.right (List.mem_of_getElem? hj) (List.mem_of_getElem? hn) e2
     subst this
     exact e (Eg h.right hj hn)
    rw[Dk.aF (jG i n (L++m)) hne,h.pt j n' hj]
    have hcj:chunk j (L++m)=chunk j L:=by
     unfold chunk
     rw[List.drop_append_of_le_length (by omega),List.take_append_of_le_length (by rw[List.length_drop];omega)]
    simp only[jG,hcj]
  ·intro k hk hks
   rw[Dk.aF (jG i n (L++m)) (hks n (List.mem_of_getElem? hn))]
   exact h.oth k hk hks
def jq:List Int→List Dk.ah→List Dk.ah
 |[],fs=>fs
 |n::l,fs=>jq l (Dk.del (af.nameOf n) fs)
theorem Holds.Gm {ex fs:List Dk.ah} {next:Int} {al:List Int} {L:List Evt.Entry} (h:Holds ex fs next al L):aj.load fs=((next,al),0):=by
 rcases h.pA with⟨h1,h2,h3⟩|h1
 ·rw[h1,h2];exact aj.EL h3
 ·exact aj.Ik h.right h1
theorem Holds.Eu {ex fs:List Dk.ah} {next:Int} {al:List Int} {L:List Evt.Entry} (h:Holds ex fs next al L) {i:Nat} {n:Int} (hi:al[i]?=some n):af.cx n fs=(⟨((8*i+1:Nat):Int),chunk i L,false⟩,0):=by
 have hlt:=(List.getElem?_eq_some_iff.1 hi).1
 have h30:=(aj.dw h.right).2.2.1
 rw[af.tM (h.pt i n hi)]
 exact af.tL _ _ (by omega) (by omega) (by rw[show(((8*i+1:Nat):Int)-1)=((8*i:Nat):Int)by omega];exact h.chunks i hlt)
theorem mP (i:Nat) (L:List Evt.Entry):L.take (8*i)++chunk i L=L.take (8*(i+1)):=by
 unfold chunk
 rw[show 8*(i+1)=8*i+8 by omega,List.take_add]
theorem Holds.Hy {ex fs:List Dk.ah} {next:Int} {al:List Int} {L:List Evt.Entry} (h:Holds ex fs next al L) {i:Nat} (hi:i<al.length):(L.take (8*i)).length=8*i∧∀e l,chunk i L=e::l→(af.dQ 0 0 (L.take (8*i))).2≤e.epoch:=by
 have hlow:=h.low
 refine⟨by rw[List.length_take];omega,fun e l he=>?_⟩
 have hf:=h.kH
 rw[←List.take_append_drop (8*(i+1)) L,←mP]at hf
 have h1:=((af.cM _ _ _ _).1 hf).1
 have h2:=((af.cM _ _ _ _).1 h1).2
 rw[he]at h2
 exact(af.cZ.1 h2).2.1
theorem Holds.FI {ex fs:List Dk.ah} {next:Int} {al:List Int} {L:List Evt.Entry} (h:Holds ex fs next al L):L.take (8*al.length)=L:=List.take_of_length_le h.high
structure S where
 next:Int
 parts:List (Int×Int)
 es:List Evt.Entry
def S.al (s:S):List Int:=s.parts.map (·.1)
def cX (es:List Evt.Entry):Int:=(af.dQ 0 0 es).2
def nZ (g:af.af) (es:List Evt.Entry):Bool :=
 decide (g.first=(es.length:Int)+1)&&(match g.entries with|[]=>true|e::_=>decide (cX es≤e.epoch))
def S.more (s:S) (n:Int) (g:af.af):S:=⟨s.next,s.parts++[(n,g.first)],s.es++g.entries⟩
def qZ (room n:Int) (s:S) (fs:List Dk.ah):(List Dk.ah×S)×Bool×Nat :=
 if (af.cx n fs).2=0∧nZ (af.cx n fs).1 s.es=true then
  if (af.cx n fs).1.cC=true then
   if (af.fm room n ((af.cx n fs).1.first+(af.cx n fs).1.entries.length-1) fs).2=0 then (((af.fm room n ((af.cx n fs).1.first+(af.cx n fs).1.entries.length-1) fs).1,s.more n (af.cx n fs).1),true,0)
   else (((af.fm room n ((af.cx n fs).1.first+(af.cx n fs).1.entries.length-1) fs).1,s),false,(af.fm room n ((af.cx n fs).1.first+(af.cx n fs).1.entries.length-1) fs).2)
  else ((fs,s.more n (af.cx n fs).1),true,0)
 else ((fs,s),false,0)
def xu (al:List Int) (k:List UInt8):Bool:=k==af.bJ||(decide (0<af.numberOf k)&&!al.contains (af.numberOf k))
def mq (room:Int) (s:S) (fs:List Dk.ah):(List Dk.ah×S)×Int×Nat :=
 if 30≤s.parts.length then ((fs,s),0,4) else
 if (af.create room s.next ((s.es.length:Int)+1) fs).2≠0 then (((af.create room s.next ((s.es.length:Int)+1) fs).1,s),0,(af.create room s.next ((s.es.length:Int)+1) fs).2) else
 if (aj.save room (s.next+1) (s.al++[s.next]) (af.create room s.next ((s.es.length:Int)+1) fs).1).2≠0 then
  (((Dk.delete (af.nameOf s.next) (aj.save room (s.next+1) (s.al++[s.next]) (af.create room s.next ((s.es.length:Int)+1) fs).1).1).1,s),0,(aj.save room (s.next+1) (s.al++[s.next]) (af.create room s.next ((s.es.length:Int)+1) fs).1).2)
 else (((aj.save room (s.next+1) (s.al++[s.next]) (af.create room s.next ((s.es.length:Int)+1) fs).1).1,⟨s.next+1,s.parts++[(s.next,(s.es.length:Int)+1)],s.es⟩),8,0)
def dC (room:Int) (s:S) (fs:List Dk.ah):(List Dk.ah×S)×Int×Nat :=
 match s.parts.getLast? with
 |none=>mq room s fs
 |some p=>if (s.es.length:Int)+1-p.2<8 then ((fs,s),8-((s.es.length:Int)+1-p.2),0) else mq room s fs
def jA (s:S):Int:=match s.parts.getLast? with|none=>0|some p=>p.1
def S.plus (s:S) (m:List Evt.Entry):S:=⟨s.next,s.parts,s.es++m⟩
def mC (room:Int):Nat→List Evt.Entry→S→List Dk.ah→(List Dk.ah×S)×Nat
 |0,_,s,fs=>((fs,s),0)
 |k+1,e,s,fs =>
  if e=[] then ((fs,s),0) else
  if (dC room s fs).2.2≠0 then ((dC room s fs).1,(dC room s fs).2.2) else
  if (af.jr room (jA (dC room s fs).1.2) (e.take (min (dC room s fs).2.1.toNat e.length)) (dC room s fs).1.1).2≠0 then
   (((af.jr room (jA (dC room s fs).1.2) (e.take (min (dC room s fs).2.1.toNat e.length)) (dC room s fs).1.1).1,(dC room s fs).1.2),(af.jr room (jA (dC room s fs).1.2) (e.take (min (dC room s fs).2.1.toNat e.length)) (dC room s fs).1.1).2)
  else mC room k (e.drop (min (dC room s fs).2.1.toNat e.length)) ((dC room s fs).1.2.plus (e.take (min (dC room s fs).2.1.toNat e.length))) (af.jr room (jA (dC room s fs).1.2) (e.take (min (dC room s fs).2.1.toNat e.length)) (dC room s fs).1.1).1
def fI (room:Int) (e:List Evt.Entry) (s:S) (fs:List Dk.ah):(List Dk.ah×S)×Nat :=
 if Evt.follows e s.es.length (cX s.es)=true then mC room e.length e s fs else ((fs,s),11)
def cT (last:Int) (ps:List (Int×Int)):Nat:=(ps.takeWhile fun p=>decide (p.2≤last)).length
def uP (ps:List (Int×Int)) (k:Nat):Int:=match ps[k]? with|none=>0|some p=>p.2
def mB (room last:Int) (s:S) (fs:List Dk.ah):(List Dk.ah×S)×Nat :=
 match s.parts.getLast? with
 |none=>((fs,⟨s.next,s.parts,s.es.take (min s.es.length last.toNat)⟩),0)
 |some p=>if (af.fm room p.1 last fs).2≠0 then (((af.fm room p.1 last fs).1,s),(af.fm room p.1 last fs).2)
  else (((af.fm room p.1 last fs).1,⟨s.next,s.parts,s.es.take (min s.es.length last.toNat)⟩),0)
def S.upto (s:S) (k:Nat):S:=⟨s.next,s.parts.take k,s.es.take (min s.es.length (uP s.parts k-1).toNat)⟩
def lk (room last:Int) (s:S) (fs:List Dk.ah):(List Dk.ah×S)×Nat :=
 if last<0 then ((fs,s),1) else if (s.es.length:Int)≤last then ((fs,s),0) else
 if cT last s.parts<s.parts.length then
  if (aj.save room s.next ((s.parts.take (cT last s.parts)).map (·.1)) fs).2≠0 then (((aj.save room s.next ((s.parts.take (cT last s.parts)).map (·.1)) fs).1,s),(aj.save room s.next ((s.parts.take (cT last s.parts)).map (·.1)) fs).2)
  else mB room last (s.upto (cT last s.parts)) (jq ((s.parts.drop (cT last s.parts)).map (·.1)) (aj.save room s.next ((s.parts.take (cT last s.parts)).map (·.1)) fs).1)
 else mB room last s fs
def partsOf (al:List Int):List (Int×Int):=al.zipIdx.map fun p=>(p.1,((8*p.2+1:Nat):Int))
def aI (next:Int) (al:List Int) (L:List Evt.Entry):S:=⟨next,partsOf al,L⟩
theorem CD (al:List Int):(partsOf al).map (·.1)=al:=by
 unfold partsOf
 rw[List.map_map]
 exact List.zipIdx_map_fst 0 al
theorem p7 (al:List Int):(partsOf al).length=al.length:=by simp[partsOf]
theorem yw (al:List Int) (i:Nat):(partsOf al)[i]?=al[i]?.map fun n=>(n,((8*i+1:Nat):Int)):=by
 simp[partsOf,List.getElem?_zipIdx]
 rfl
theorem tx (al:List Int) (n:Int):partsOf al++[(n,((8*al.length+1:Nat):Int))]=partsOf (al++[n]):=by
 simp[partsOf,List.zipIdx_append]
theorem Ej {ex fs:List Dk.ah} {next room:Int} {al:List Int} {L:List Evt.Entry} (h:Holds ex fs next al L) {i:Nat} {n:Int} (hi:al[i]?=some n) :
 qZ room n ⟨next,partsOf (al.take i),L.take (8*i)⟩ fs=((fs,⟨next,partsOf (al.take (i+1)),L.take (8*(i+1))⟩),true,0):=by
 have hlt:=(List.getElem?_eq_some_iff.1 hi).1
 have hl:=h.Eu hi
 obtain⟨g1,g2⟩:=h.Hy hlt
 have hgo:nZ ⟨((8*i+1:Nat):Int),chunk i L,false⟩ (L.take (8*i))=true:=by
  unfold nZ
  simp only
  rw[g1,decide_eq_true (by omega),Bool.true_and]
  cases hc:chunk i L with
  |nil=>rfl
  |cons e l=>exact decide_eq_true (g2 e l hc)
 unfold qZ
 rw[hl]
 simp only[hgo,and_self,if_true,Bool.false_eq_true,if_false]
 have hs:al.take (i+1)=al.take i++[n]:=by
  rw[List.take_add_one,hi];rfl
 have hp:=tx (al.take i) n
 rw[List.length_take,Nat.min_eq_left (by omega)]at hp
 simp only[S.more,mP,hp,hs]
def roomy (room:Int) (al:List Int) (L:List Evt.Entry):Prop:=(800+15*(al.length+1)+2*(af.aM L).length+15:Int)≤room
theorem C9 {α:Type} (l:List α):l.getLast?=l[l.length-1]?:=List.getLast?_eq_getElem?
theorem tz {al:List Int}:(partsOf al).getLast?=(al[al.length-1]?).map fun n=>(n,((8*(al.length-1)+1:Nat):Int)):=by
 rw[C9,p7,yw]
theorem Holds.room {ex fs:List Dk.ah} {next room:Int} {al:List Int} {L:List Evt.Entry} (h:Holds ex fs next al L) (h30:L.length<240) (hn:next<1073741824) (hr:roomy (room-(Dk.total ex:Int)) al L) :
 ∃f2 next2 nums2 k,dC room (aI next al L) fs=((f2,aI next2 nums2 L),((k:Nat):Int),0)∧Holds ex f2 next2 nums2 L∧1≤k∧L.length+k=8*nums2.length∧next2≤next+1∧nums2.length≤L.length / 8+1∧nums2≠[]:=by
 unfold roomy at hr
 have hlow:=h.low
 have hhigh:=h.high
 have hrm:=aj.dw h.right
 unfold dC
 have hnew:L.length=8*al.length→∃f2 next2 nums2 k,mq room (aI next al L) fs=((f2,aI next2 nums2 L),((k:Nat):Int),0)∧Holds ex f2 next2 nums2 L∧1≤k∧L.length+k=8*nums2.length∧next2≤next+1∧nums2.length≤L.length / 8+1∧nums2≠[]:=by
  intro he
  obtain⟨f1,f2,g1,g2,g3⟩:=h.grow (room:=room) he (by omega) hn (by omega)
  refine⟨f2,next+1,al++[next],8,?_,g3,by omega,by simp;omega,Int.le_refl _,by simp;omega,by simp⟩
  have hp:(aI next al L).parts.length=al.length:=p7 al
  have hnn:(aI next al L).al=al:=CD al
  unfold mq
  rw[hp,hnn,if_neg (by omega)]
  have e1:(aI next al L).next=next:=rfl
  have e2:(aI next al L).es=L:=rfl
  rw[e1,e2,g1]
  simp only[ne_eq,not_true_eq_false,if_false]
  rw[g2]
  simp only[not_true_eq_false,if_false]
  have hps:=tx al next
  rw[show((8*al.length+1:Nat):Int)=(L.length:Int)+1 by omega]at hps
  have e3:(aI next al L).parts=partsOf al:=rfl
  rw[e3,hps];rfl
 have e3:(aI next al L).parts=partsOf al:=rfl
 have e2:(aI next al L).es=L:=rfl
 rw[e3,tz]
 cases hl:al[al.length-1]? with
 |none =>
  have hz:al=[]:=by
   rw[List.getElem?_eq_none_iff]at hl
   exact aR (by omega)
  simp only[Option.map_none]
  exact hnew (by rw[h.lo hz,hz];rfl)
 |some n =>
  have hlt:=(List.getElem?_eq_some_iff.1 hl).1
  simp only[Option.map_some,e2]
  by_cases hlt8:(L.length:Int)+1-((8*(al.length-1)+1:Nat):Int)<8
  ·rw[if_pos hlt8]
   refine⟨fs,next,al,8*al.length-L.length,?_,h,by omega,by omega,by omega,by omega,fun e=>by rw[e]at hlt;simp at hlt⟩
   congr 2
   omega
  ·rw[if_neg hlt8]
   exact hnew (by omega)
theorem Gv {next:Int} {al:List Int} {L:List Evt.Entry} {n:Int} (h:al[al.length-1]?=some n):jA (aI next al L)=n:=by
 have e3:(aI next al L).parts=partsOf al:=rfl
 unfold jA
 rw[e3,tz,h];rfl
theorem rT (a b:List Evt.Entry):(af.aM a).length≤(af.aM (a++b)).length:=by
 rw[af.jD,List.length_append];omega
theorem wv {ex:List Dk.ah} {room:Int}:∀(k:Nat) (e:List Evt.Entry) (fs:List Dk.ah) (next:Int) (al:List Int) (L:List Evt.Entry),e.length≤k→Holds ex fs next al L→Evt.follows (L++e) 0 0=true→(L++e).length≤240→next+e.length<1073741824 →
 (1600+2*(af.aM (L++e)).length:Int)≤room-(Dk.total ex:Int)→al.length≤(L.length+7) / 8+1 →
 ∃f2 next2 nums2,mC room k e (aI next al L) fs=((f2,aI next2 nums2 (L++e)),0)∧Holds ex f2 next2 nums2 (L++e)∧next2≤next+e.length∧nums2.length≤max al.length (((L++e).length+7) / 8)
 |0,e,fs,next,al,L,hk,h,hf,h240,hn,hr,hnl=>by
  have:e=[]:=aR (by omega)
  subst this
  rw[List.append_nil]
  exact⟨fs,next,al,rfl,h,by simp,Nat.le_max_left _ _⟩
 |k+1,e,fs,next,al,L,hk,h,hf,h240,hn,hr,hnl=>by
  rw[mC]
  by_cases he:e=[]
  ·subst he
   rw[if_pos rfl,List.append_nil]
   exact⟨fs,next,al,rfl,h,by simp,Nat.le_max_left _ _⟩
  have hlen:0<e.length:=List.length_pos_iff.2 he
  rw[if_neg he]
  have hll:(L++e).length=L.length+e.length:=List.length_append
  have hb1:=rT L e
  have h30:=(aj.dw h.right).2.2.1
  obtain⟨f1,next1,nums1,m,hrf,h1,hm1,hm2,hm3,hm4,hm5⟩:=h.room (room:=room) (by omega) (by omega) (by unfold roomy;omega)
  rw[hrf]
  simp only[ne_eq,not_true_eq_false,if_false,Int.toNat_natCast]
  have h31:=(aj.dw h1.right).2.2.1
  have hlt1:nums1.length-1<nums1.length:=by
   have:=List.length_pos_iff.2 hm5;omega
  have hgl:nums1[nums1.length-1]?=some nums1[nums1.length-1]:=aT hlt1
  rw[Gv hgl]
  obtain⟨c,hc⟩:∃c,min m e.length=c:=⟨_,rfl⟩
  rw[hc]
  have eL:L++e=(L++e.take c)++e.drop c:=by rw[List.append_assoc,List.take_append_drop]
  have htl:(e.take c).length=c:=by rw[List.length_take];omega
  have hdl:(e.drop c).length=e.length-c:=List.length_drop
  have hfo:Evt.follows (L++e.take c) 0 0=true:=by
   rw[eL]at hf
   exact((af.cM _ _ _ _).1 hf).1
  have hb2:=rT (L++e.take c) (e.drop c)
  rw[←eL]at hb2
  have hlc:(L++e.take c).length=L.length+c:=by rw[List.length_append,htl]
  obtain⟨f2,ha,h2⟩:=h1.add (room:=room) (m:=e.take c) hgl (by omega) hfo (by omega)
  rw[ha]
  simp only[not_true_eq_false,if_false]
  have hst:(aI next1 nums1 L).plus (e.take c)=aI next1 nums1 (L++e.take c):=rfl
  rw[hst]
  obtain⟨f3,next3,nums3,q1,q2,q3,q4⟩:=wv k (e.drop c) f2 next1 nums1 (L++e.take c) (by omega) h2 (by rw[←eL];exact hf) (by rw[←eL];omega) (by omega) (by rw[←eL];omega) (by omega)
  rw[←eL]at q1 q2 q4
  exact⟨f3,next3,nums3,q1,q2,by omega,by omega⟩
theorem Jn {L:List Evt.Entry} (h:Evt.follows L 0 0=true):af.dQ 0 0 L=((L.length:Int),cX L):=by
 have:=(rl L 0 0 h).1
 exact Prod.ext (by rw[this];omega) rfl
theorem oT {L e:List Evt.Entry} (h:Evt.follows L 0 0=true):Evt.follows (L++e) 0 0=true↔Evt.follows e L.length (cX L)=true:=by
 rw[af.cM,Jn h]
 exact⟨fun h=>h.2,fun h2=>⟨h,h2⟩⟩
theorem Holds.append {ex fs:List Dk.ah} {next room:Int} {al:List Int} {L:List Evt.Entry} (h:Holds ex fs next al L) (e:List Evt.Entry) (hf:Evt.follows (L++e) 0 0=true) (h240:(L++e).length≤240) (hn:next+e.length<1073741824)
 (hr:(1600+2*(af.aM (L++e)).length:Int)≤room-(Dk.total ex:Int)):∃f2 next2 nums2,fI room e (aI next al L) fs=((f2,aI next2 nums2 (L++e)),0)∧Holds ex f2 next2 nums2 (L++e)∧next2≤next+e.length∧nums2.length≤max al.length (((L++e).length+7) / 8):=by
 have e2:(aI next al L).es=L:=rfl
 unfold fI
 rw[e2,if_pos ((oT h.kH).1 hf)]
 have:=h.low
 exact wv e.length e fs next al L ab h hf h240 hn hr (by omega)
def Reads (room:Int):List Int→S→List Dk.ah→S→List Dk.ah→Prop
 |[],s,fs,s',fs'=>s'=s∧fs'=fs
 |n::l,s,fs,s',fs'=>∃s1 f1,qZ room n s fs=((f1,s1),true,0)∧Reads room l s1 f1 s' fs'
theorem tu {ex fs:List Dk.ah} {next room:Int} {al:List Int} {L:List Evt.Entry} (h:Holds ex fs next al L):∀(k i:Nat),i+k=al.length →
 Reads room (al.drop i) ⟨next,partsOf (al.take i),L.take (8*i)⟩ fs (aI next al L) fs
 |0,i,hk=>by
  have e:i=al.length:=by omega
  subst e
  rw[List.drop_length,List.take_length,h.FI]
  exact⟨rfl,rfl⟩
 |k+1,i,hk=>by
  have hlt:i<al.length:=by omega
  rw[List.drop_eq_getElem_cons hlt]
  exact⟨_,_,Ej (room:=room) h (aT hlt),tu h k (i+1) (by omega)⟩
theorem Holds.reads {ex fs:List Dk.ah} {next:Int} {al:List Int} {L:List Evt.Entry} (room:Int) (h:Holds ex fs next al L):Reads room al ⟨next,[],[]⟩ fs (aI next al L) fs:=by
 have:=tu (room:=room) h al.length 0 (by omega)
 simpa[partsOf]using this
def KI (es:List Int):List Dk.ah:=if es=[] then [] else [aj.eE es]
theorem AD:af.numberOf aj.mark=0:=by
 unfold af.numberOf aj.mark
 simp[Lib.parseUint10]
theorem qi (es:List Int) (e:Int):(⟨(aj.fT es).toArray⟩:ByteArray)++aj.dZ e=⟨(aj.fT (es++[e])).toArray⟩:=by
 apply ByteArray.ext
 apply Array.toList_inj.1
 rw[ByteArray.data_append,Array.toList_append,aj.CO]
 simp[aj.dZ]
theorem Bs {fs:List Dk.ah} {x y:Dk.ah} (hs:Dk.Sorted fs) (h:x.name=y.name):Dk.put y (Dk.put x fs)=Dk.put y fs:=by
 refine Dk.j7 _ _ (Dk.sorted_put _ _ (Dk.sorted_put _ _ hs)) (Dk.sorted_put _ _ hs) (fun j=>?_)
 by_cases e:j=y.name
 ·subst e
  rw[Dk.aZ y,Dk.aZ y]
 ·rw[Dk.aF y e,Dk.aF y e,Dk.aF x (by rw[h];exact e)]
end Lg
end Go.Proofs.YtmgmknmaepjnoaaGreatDoor
