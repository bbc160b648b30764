/-
  Plain Lean, no program in sight: a log on a disk (layer 11): its segments hold eight entries each, but for the last.
-/
import Derived.Test.YtmgmknmaepjnoaaGreatDoorAt
namespace Go.Proofs.YtmgmknmaepjnoaaGreatDoor
open Go.RowKit Proofs.Tryz
namespace Lg
def chunk (i:Nat) (L:List Evt.Entry):List Evt.Entry:=(L.drop (8*i)).take 8
def jX (i:Nat) (n:Int) (L:List Evt.Entry):Dk.ai:=⟨af.nameOf n,af.whole ((8*i+1:Nat):Int) (chunk i L),(af.whole ((8*i+1:Nat):Int) (chunk i L)).size⟩
def zT (next:Int) (ar:List Int):Dk.ai:=⟨al.file,al.bytes next ar,(al.bytes next ar).size⟩
def ox (fs:List Dk.ai):Nat:=match Dk.look fs al.file with|none=>0|some x=>x.bytes.size
def fp (fs:List Dk.ai) (k:List UInt8):Nat:=match Dk.look fs k with|none=>0|some x=>x.bytes.size
theorem Fc {α:Type} {f g:α->Nat}:∀(l:List α),(∀x,f x<=g x)->(l.map f).sum<=(l.map g).sum
 |[],_=>ab
 |x::l,h=>by
  have:=Fc l h;have:=h x;simp only[List.map_cons,List.sum_cons];omega
theorem lA:∀(K:List (List UInt8)) (fs:List Dk.ai),Dk.Sorted fs->(∀k,Dk.look fs k≠none->k∈K)->Dk.total fs<=(K.map (fp fs)).sum/\fs.length<=K.length
 |[],fs,_,h=>by
  cases fs with
  |nil=>simp[Dk.total]
  |cons x fs=>have:=h x.name (by simp[Dk.look]);cases this
 |k::K,fs,hs,h=>by
  have hsd:=Dk.sorted_del k fs hs;obtain⟨h1,h2⟩:=lA K (Dk.del k fs) hsd (fun j hj=>by
   by_cases e:j=k
   ·subst e;exact absurd (Dk.eT j fs hs) hj
   ·rw[Dk.cP k e]at hj;rcases List.mem_cons.1 (h j hj)with h|h
    ·exact absurd h e
    ·exact h)
  have h3:((K.map (fp (Dk.del k fs))).sum)<=(K.map (fp fs)).sum:=Fc K (fun j=>by
   unfold fp;by_cases e:j=k
   ·subst e;rw[Dk.eT j fs hs];exact Nat.zero_le _
   ·rw[Dk.cP k e];exact ab)
  have ht:=Dk.lP k fs;have hl:=Dk.rY k fs;simp only[List.map_cons,List.sum_cons,List.length_cons];unfold fp;unfold fp at h1 h3;cases e:Dk.look fs k with
  |none =>
   rw[e]at ht hl;simp only[Option.isSome_none,Bool.false_eq_true,if_false]at ht hl ⊢;exact⟨by omega,by omega⟩
  |some x =>
   rw[e]at ht hl;simp only[Option.isSome_some,if_true]at ht hl ⊢;exact⟨by omega,by omega⟩
theorem xv (fs:List Dk.ai) (L:List Evt.Entry):∀(l:List Int) (i:Nat),(∀(j:Nat) (n:Int),l[j]?=some n->fp fs (af.nameOf n)<=15+(af.aQ (chunk (i+j) L)).length)->((l.map af.nameOf).map (fp fs)).sum<=15*l.length+(af.aQ (L.drop (8*i))).length
 |[],i,_=>by simp
 |n::l,i,h=>by
  have h0:=h 0 n rfl;have ih:=xv fs L l (i+1) (fun j n' hj=>by
   have:=h (j+1) n' (by simpa using hj)
   rwa [show i+(j+1)=i+1+j by omega]at this)
  have e:(af.aQ (L.drop (8*i))).length=(af.aQ (chunk i L)).length+(af.aQ (L.drop (8*(i+1)))).length:=by
   have:L.drop (8*i)=chunk i L++L.drop (8*(i+1)):=by
    unfold chunk;rw[show 8*(i+1)=8*i+8 by omega,<-List.drop_drop,List.take_append_drop]
   rw[this,af.jU,List.length_append]
  simp only[List.map_cons,List.sum_cons,List.length_cons,Nat.add_zero]at h0 ⊢;omega
theorem xd:∀{fs:List Dk.ai} {x:Dk.ai},Dk.Sorted fs->x∈fs->Dk.look fs x.name=some x
 |[],_,_,h=>by cases h
 |y::fs,x,hs,h=>by
  have h':=List.pairwise_cons.1 hs;rcases List.mem_cons.1 h with rfl|h
  ·simp[Dk.look]
  ·have:=h'.1 x h;rw[Dk.look,if_neg (fun e=>by rw[e]at this;exact Std.lt_irrefl this)];exact xd h'.2 h
structure mX (ex:List Dk.ai):Prop where
 sorted:Dk.Sorted ex
 pW:Dk.look ex al.file=none
 bQ:Dk.look ex af.bQ=none
 number:∀x∈ex,af.numberOf x.name=0
 sync:∀x∈ex,x.synced=x.bytes.size
 Md:ex.length<=5
theorem uk:mX []:=⟨by simp[Dk.Sorted],rfl,rfl,(fun x hx=>by cases hx),(fun x hx=>by cases hx),by simp⟩
theorem mX.pR {ex:List Dk.ai} (h:mX ex) (n:Int) (h1:1<=n) (h2:n<=1073741824):Dk.look ex (af.nameOf n)=none:=by
 cases e:Dk.look ex (af.nameOf n)with
 |none=>rfl
 |some x =>
  obtain⟨e1,e2⟩:=Dk.ib e;have:=h.number x e2;rw[e1,af.jL n h1 h2]at this;omega
theorem yY {fs:List Dk.ai}:∀(ex:List Dk.ai),(∀x∈ex,fp fs x.name=x.bytes.size)->((ex.map (·.name)).map (fp fs)).sum=Dk.total ex
 |[],_=>rfl
 |x::ex,h=>by
  have ih:=yY ex (fun y hy=>h y (List.mem_cons_of_mem _ hy));have h0:=h x List.mem_cons_self;simp only[List.map_cons,List.sum_cons,Dk.total]at ih ⊢;omega
structure Holds (ex fs:List Dk.ai) (next:Int) (ar:List Int) (L:List Evt.Entry):Prop where
 sorted:Dk.Sorted fs
 right:al.right next ar=true
 pW:(ar=[]/\next=1/\Dk.look fs al.file=none)\/Dk.look fs al.file=some (zT next ar)
 pR:∀(i:Nat) (n:Int),ar[i]?=some n->Dk.look fs (af.nameOf n)=some (jX i n L)
 oth:∀k,k≠al.file->(∀n∈ar,k≠af.nameOf n)->Dk.look fs k=Dk.look ex k
 exs:mX ex
 lo:ar=[]->L=[]
 low:8*ar.length<=L.length+8
 high:L.length<=8*ar.length
 l9:Evt.follows L 0 0=true
theorem Holds.known {ex fs:List Dk.ai} {next:Int} {ar:List Int} {L:List Evt.Entry} (h:Holds ex fs next ar L):Dk.total fs<=ox fs+15*ar.length+(af.aQ L).length+Dk.total ex/\fs.length<=ar.length+1+ex.length:=by
 have hin:∀k x,Dk.look ex k=some x->k∈ex.map (·.name):=fun k x e=>by
  obtain⟨e1,e2⟩:=Dk.ib e;rw[<-e1];exact List.mem_map.2 ⟨x,e2,rfl⟩
 obtain⟨h1,h2⟩:=lA (al.file::(ar.map af.nameOf++ex.map (·.name))) fs h.sorted (fun k hk=>by
  apply Classical.byContradiction;intro hn;rw[List.mem_cons,List.mem_append,List.mem_map]at hn;refine hk ?_;rw[h.oth k (fun e=>hn (.inl e)) (fun n hm e=>hn (.inr (.inl ⟨n,hm,e.symm⟩)))];cases e:Dk.look ex k with
  |none=>rfl
  |some x=>exact absurd (.inr (.inr (hin k x e))) hn)
 have h3:=xv fs L ar 0 (fun j n hj=>by
  unfold fp;rw[h.pR j n hj];simp only[jX];rw[Lib.size_eq];have:=af.gz ((8*j+1:Nat):Int);simp only[af.whole,List.length_append,Nat.zero_add];omega)
 have h4:fp fs al.file=ox fs:=rfl;have h5:=yY (fs:=fs) ex (fun x hx=>by
  have hl:=xd h.exs.sorted hx;have hf:x.name≠al.file:=fun e=>by rw[e,h.exs.pW]at hl;cases hl
  have hs:∀n∈ar,x.name≠af.nameOf n:=fun n hn e=>by
   have g:=(al.dC h.right).2.2.2 n hn;have g2:=(al.dC h.right).2.1;rw[e,h.exs.pR n (by omega) (by omega)]at hl;cases hl
  unfold fp;rw[h.oth x.name hf hs,hl])
 simp only[List.map_cons,List.map_append,List.sum_cons,List.sum_append,List.length_cons,List.length_append,List.length_map,Nat.mul_zero,List.drop_zero]at h1 h2 h3 h5;exact⟨by omega,by omega⟩
theorem Holds.Lx {ex fs:List Dk.ai} {next:Int} {ar:List Int} {L:List Evt.Entry} (h:Holds ex fs next ar L):Dk.total fs<=ox fs+15*ar.length+(af.aQ L).length+Dk.total ex:=h.known.1
theorem Holds.len {ex fs:List Dk.ai} {next:Int} {ar:List Int} {L:List Evt.Entry} (h:Holds ex fs next ar L):fs.length<=ar.length+6:=by have:=h.known.2;have:=h.exs.Md;omega
theorem gx:∀(l:List Int) (a b:Int),al.dM a l=some b->l.Pairwise (·< ·)
 |[],_,_,_=>List.Pairwise.nil
 |n::l,a,b,h=>by
  rw[al.dM]at h;split at h
  ·cases h
  ·exact List.pairwise_cons.2 ⟨fun m hm=>((al.qZ _ _ _ h).2 m hm).1,gx l n b h⟩
theorem Fq {next:Int} {ar:List Int} (h:al.right next ar=true) {i j:Nat} {n:Int} (hi:ar[i]?=some n) (hj:ar[j]?=some n):i=j:=by
 obtain⟨last,h1,_⟩:=al.nz.1 h;have hp:=gx _ _ _ h1;obtain⟨li,ei⟩:=List.getElem?_eq_some_iff.1 hi;obtain⟨lj,ej⟩:=List.getElem?_eq_some_iff.1 hj;rcases Nat.lt_trichotomy i j with h|h|h
 ·have:=List.pairwise_iff_getElem.1 hp i j li lj h;omega
 ·exact h
 ·have:=List.pairwise_iff_getElem.1 hp j i lj li h;omega
theorem Jr {next:Int} {ar:List Int} (h:al.right next ar=true) {n m:Int} (hn:n∈ar) (hm:m∈ar) (e:af.nameOf n=af.nameOf m):n=m:=by
 obtain⟨h1,h2,h3,h4⟩:=al.dC h;have g1:=h4 n hn;have g2:=h4 m hm;exact af.tn (by omega) (by omega) (by omega) (by omega) e
theorem It:Holds [] [] 1 [] [] :=
 ⟨by simp[Dk.Sorted],by simp[al.right,al.dM],.inl ⟨rfl,rfl,rfl⟩,fun i n h=>by simp at h,fun _ _ _=>rfl,uk,fun _=>rfl,by simp,by simp,rfl⟩
theorem wX (next:Int) (ar:List Int) (h:ar.length<=30):(al.bytes next ar).size<=200:=by
 have:=(al.pM next ar).1;rw[Lib.size_eq];simp only[al.bytes,Frm.gy];omega
theorem Holds.zS {ex fs:List Dk.ai} {next:Int} {ar:List Int} {L:List Evt.Entry} (h:Holds ex fs next ar L):ox fs<=200:=by
 have h3:=(al.dC h.right).2.2.1;unfold ox;rcases h.pW with⟨_,_,e⟩|e
 ·rw[e];exact Nat.zero_le _
 ·rw[e];exact wX _ _ h3
theorem Holds.grow {ex fs:List Dk.ai} {next room:Int} {ar:List Int} {L:List Evt.Entry} (h:Holds ex fs next ar L) (hf:L.length=8*ar.length) (h30:ar.length<30) (hn:next<1073741824) (hr:(200+200+15*(ar.length+1)+(af.aQ L).length:Int)<=room-(Dk.total ex:Int)) :
 ∃f1 f2,af.create room next (L.length+1) fs=(f1,0)/\al.save room (next+1) (ar++[next]) f1=(f2,0)/\Holds ex f2 (next+1) (ar++[next]) L:=by
 obtain⟨r1,r2,r3,r4⟩:=al.dC h.right;have hml:=h.zS;have htot:=h.Lx;have hlen:=h.len;have hnew:Dk.look fs (af.nameOf next)=none:=by
  rw[h.oth _ (al.lE next) (fun n hm e=>?_),h.exs.pR next r1 (by omega)];have g:=r4 n hm;have:=af.tn (n:=next) (m:=n) r1 r2 g.1 (by omega) e;omega
 have hc:=af.Cc (room:=room) (n:=next) (first:=(L.length:Int)+1) (fs:=fs) r1 r2 (by omega) (by omega) h.sorted hnew (by omega) (by omega);obtain⟨y,hy⟩:∃y:Dk.ai,y=⟨af.nameOf next,⟨(af.cD ((L.length:Int)+1)).toArray⟩,(⟨(af.cD ((L.length:Int)+1)).toArray⟩:ByteArray).size⟩:=⟨_,rfl⟩;rw[<-hy]at hc;have hyn:y.name=af.nameOf next:=by rw[hy]
 have hys:y.bytes.size<=15:=by rw[hy];simp only;rw[Lib.size_eq];exact af.gz _
 have s1:=Dk.sorted_put y fs h.sorted;have t1:=Dk.kj y fs h.sorted;rw[hyn,hnew]at t1;simp only at t1;have l1:=Dk.gE y fs h.sorted;rw[hyn,hnew]at l1;simp only[Option.isSome_none,Bool.false_eq_true,if_false]at l1;have hrt:=al.y9 h.right hn h30;have temp1:Dk.look (Dk.put y fs) af.bQ=none:=by
  rw[Dk.aG y (by rw[hyn];exact fun e=>af.Cm next e.symm)];exact(h.oth _ (fun e=>al.rp e.symm) (fun n _ e=>af.Cm n e.symm)).trans h.exs.bQ
 have man1:Dk.look (Dk.put y fs) al.file=Dk.look fs al.file:=Dk.aG y (by rw[hyn];exact fun e=>al.lE next e.symm) fs;have hb:=wX (next+1) (ar++[next]) (by simp;omega);have hw:=al.yA (room:=room) (k:=al.file) (s:=al.bytes (next+1) (ar++[next])) s1 al.Ei al.rp temp1 (by omega) (by omega);refine⟨_,_,hc,by rw[al.save,if_pos hrt];exact hw,Dk.sorted_put _ _ s1,hrt,.inr (Dk.a8 (zT (next+1) (ar++[next])) _),?_,?_,h.exs,fun e=>by simp at e,by simp;omega,by simp;omega,h.l9⟩
 ·intro i n hi;have hne:af.nameOf n≠(zT (next+1) (ar++[next])).name:=al.lE n;rw[Dk.aG (zT (next+1) (ar++[next])) hne];by_cases hil:i<ar.length
  ·rw[List.getElem?_append_left hil]at hi;have hnm:n∈ar:=List.mem_of_getElem? hi;rw[Dk.aG y (by rw[hyn];intro e;have g:=r4 n hnm;have:=af.tn (n:=n) (m:=next) g.1 (by omega) r1 r2 e;omega)];exact h.pR i n hi
  ·have hie:i=ar.length:=by
    have:=(List.getElem?_eq_some_iff.1 hi).1;simp at this;omega
   subst hie;rw[List.getElem?_append_right ab,Nat.sub_self]at hi;simp only[List.getElem?_cons_zero,Option.some.injEq]at hi;subst hi;have e1:=Dk.a8 y fs;rw[hyn]at e1;rw[e1,hy];have hch:chunk ar.length L=[]:=by unfold chunk;rw[List.drop_eq_nil_of_le (by omega)];rfl
   have hcast:((8*ar.length+1:Nat):Int)=(L.length:Int)+1:=by omega
   simp only[jX,hch,hcast,af.whole,af.EC,List.append_nil]
 ·intro k hk hks;rw[Dk.aG (zT (next+1) (ar++[next])) hk,Dk.aG y (by rw[hyn];exact hks next (by simp))];exact h.oth k hk (fun n hn=>hks n (by simp[hn]))
theorem pY:∀(l:List Evt.Entry) (pos e e':Int),e'<=e->Evt.follows l pos e=true->Evt.follows l pos e'=true
 |[],_,_,_,_,_=>rfl
 |x::l,pos,e,e',h,hf=>by
  obtain⟨h1,h2,h3,h4⟩:=af.dh.1 hf;exact af.dh.2 ⟨h1,by omega,h3,h4⟩
theorem rX:∀(l:List Evt.Entry) (pos e:Int),Evt.follows l pos e=true->(af.dX pos e l).1=pos+l.length/\e<=(af.dX pos e l).2
 |[],_,_,_=>by simp[af.dX]
 |x::l,pos,e,hf=>by
  obtain⟨h1,h2,h3,h4⟩:=af.dh.1 hf;obtain⟨g1,g2⟩:=rX l _ _ h4;rw[af.dX,g1,List.length_cons];exact⟨by omega,by omega⟩
theorem Iy:∀(l:List Evt.Entry) (p e p' e':Int),l≠[]->af.dX p e l=af.dX p' e' l
 |[],_,_,_,_,h=>absurd rfl h
 |_::_,_,_,_,_,_=>rfl
theorem ry:∀(a b:List Evt.Entry) (p e:Int),af.dX p e (a++b)=af.dX (af.dX p e a).1 (af.dX p e a).2 b
 |[],_,_,_=>rfl
 |x::a,b,p,e=>by rw[List.cons_append,af.dX,ry a b,af.dX]
theorem Holds.chunks {ex fs:List Dk.ai} {next:Int} {ar:List Int} {L:List Evt.Entry} (h:Holds ex fs next ar L) (i:Nat) (hi:i<ar.length):Evt.follows (chunk i L) (8*i:Nat) 0=true:=by
 have e:L=L.take (8*i)++(chunk i L++(L.drop (8*i)).drop 8):=by
  unfold chunk;rw[List.take_append_drop,List.take_append_drop]
 have hf:=h.l9;rw[e]at hf;obtain⟨f1,f2⟩:=(af.cQ _ _ _ _).1 hf;obtain⟨g1,g2⟩:=rX _ _ _ f1;have f3:=((af.cQ _ _ _ _).1 f2).1;have hl:(L.take (8*i)).length=8*i:=by
  have:=h.low;rw[List.length_take];omega
 rw[g1,hl]at f3;have f4:=pY _ _ _ 0 g2 f3;simpa using f4
theorem Holds.add {ex fs:List Dk.ai} {next room:Int} {ar:List Int} {L m:List Evt.Entry} {n:Int} (h:Holds ex fs next ar L) (hn:ar[ar.length-1]?=some n) (hm:(L++m).length<=8*ar.length) (hfo:Evt.follows (L++m) 0 0=true) (hr:(200+15*ar.length+(af.aQ (L++m)).length:Int)<=room-(Dk.total ex:Int)) :
 ∃f,af.jK room n m fs=(f,0)/\Holds ex f next ar (L++m):=by
 obtain⟨r1,r2,r3,r4⟩:=al.dC h.right;have hml:=h.zS;have htot:=h.Lx;have hlow:=h.low;have hlt:ar.length-1<ar.length:=(List.getElem?_eq_some_iff.1 hn).1;obtain⟨i,hi⟩:∃i,ar.length-1=i:=⟨_,rfl⟩;rw[hi]at hn hlt;have hnl:ar.length=i+1:=by omega
 have hnr:=r4 n (List.mem_of_getElem? hn);have hch:=h.chunks i hlt;have hlk:=h.pR i n hn;have hld:af.cA n fs=(⟨((8*i+1:Nat):Int),chunk i L,false⟩,0):=by
  rw[af.uB hlk];exact af.uz _ _ (by omega) (by omega) (by rw[show(((8*i+1:Nat):Int)-1)=((8*i:Nat):Int)by omega];exact hch)
 have eL:L=L.take (8*i)++chunk i L:=by
  have e:(L.drop (8*i)).take 8=L.drop (8*i):=List.take_of_length_le (by rw[List.length_drop];have:=h.high;omega);unfold chunk;rw[e,List.take_append_drop]
 have hlt8:(L.take (8*i)).length=8*i:=by rw[List.length_take];omega
 have hgo:Evt.follows m (af.last ⟨((8*i+1:Nat):Int),chunk i L,false⟩).1 (af.last ⟨((8*i+1:Nat):Int),chunk i L,false⟩).2=true:=by
  rw[af.Ib];simp only;have f:=((af.cQ L m 0 0).1 hfo).2;have fl:=h.l9;rw[eL]at fl;obtain⟨f1,f2⟩:=(af.cQ _ _ _ _).1 fl;obtain⟨g1,g2⟩:=rX _ _ _ f1;rw[hlt8]at g1;rw[eL,ry]at f;by_cases hc:chunk i L=[]
  ·rw[hc]at f ⊢;simp only[af.dX]at f ⊢;rw[g1]at f;have:=pY _ _ _ 0 g2 f;rw[show(((8*i+1:Nat):Int)-1)=0+((8*i:Nat):Int)by omega];exact this
  ·rw[Iy (chunk i L) _ _ (((8*i+1:Nat):Int)-1) 0 hc]at f;exact f
 have hcm:chunk i (L++m)=chunk i L++m:=by
  unfold chunk;rw[List.length_append]at hm;rw[List.drop_append_of_le_length (by omega),List.take_of_length_le (by rw[List.length_append,List.length_drop];omega),List.take_of_length_le (by rw[List.length_drop];omega)]
 have hbb:(af.aQ (L++m)).length=(af.aQ L).length+(af.aQ m).length:=by rw[af.jU,List.length_append]
 rw[af.IP hld];simp only[Bool.false_eq_true,if_false,hgo,Bool.true_eq_false];by_cases hm0:m=[]
 ·subst hm0;rw[if_pos rfl,List.append_nil];exact⟨fs,rfl,h⟩
 ·rw[if_neg hm0];have hbs:(⟨(af.aQ m).toArray⟩:ByteArray).size=(af.aQ m).length:=by rw[Lib.size_eq]
  obtain⟨a1,a2⟩:=af.FX (room:=room) (s:=⟨(af.aQ m).toArray⟩) h.sorted (af.ur n (by omega) (by omega)) hlk (by rw[hbs];omega);rw[a2,a1,if_pos rfl];have hfile:(⟨af.nameOf n,(jX i n L).bytes++⟨(af.aQ m).toArray⟩,((jX i n L).bytes++⟨(af.aQ m).toArray⟩).size⟩:Dk.ai)=jX i n (L++m):=by
   simp only[jX,hcm,af.yB]
  rw[hfile];have hsn:(jX i n (L++m)).name=af.nameOf n:=rfl;have hman:Dk.look (Dk.put (jX i n (L++m)) fs) al.file=Dk.look fs al.file:=Dk.aG (jX i n (L++m)) (fun e=>al.lE n e.symm) fs;refine⟨_,rfl,Dk.sorted_put _ _ h.sorted,h.right,?_,?_,?_,h.exs,fun e=>by rw[e]at hlt;simp at hlt,by rw[List.length_append];omega,hm,hfo⟩
  ·rw[hman];exact h.pW
  ·intro j n' hj;by_cases e:j=i
   ·subst e;rw[hn]at hj;cases hj;exact Dk.a8 (jX j n (L++m)) fs
   ·have hjl:=(List.getElem?_eq_some_iff.1 hj).1;have hne:af.nameOf n'≠(jX i n (L++m)).name:=fun e2=>by
     have:=Jr h.right (List.mem_of_getElem? hj) (List.mem_of_getElem? hn) e2;subst this;exact e (Fq h.right hj hn)
    rw[Dk.aG (jX i n (L++m)) hne,h.pR j n' hj];have hcj:chunk j (L++m)=chunk j L:=by
     unfold chunk;rw[List.drop_append_of_le_length (by omega),List.take_append_of_le_length (by rw[List.length_drop];omega)]
    simp only[jX,hcj]
  ·intro k hk hks;rw[Dk.aG (jX i n (L++m)) (hks n (List.mem_of_getElem? hn))];exact h.oth k hk hks
def jJ:List Int->List Dk.ai->List Dk.ai
 |[],fs=>fs
 |n::l,fs=>jJ l (Dk.del (af.nameOf n) fs)
theorem Holds.Hu {ex fs:List Dk.ai} {next:Int} {ar:List Int} {L:List Evt.Entry} (h:Holds ex fs next ar L):al.load fs=((next,ar),0):=by
 rcases h.pW with⟨h1,h2,h3⟩|h1
 ·rw[h1,h2];exact al.F7 h3
 ·exact al.Ju h.right h1
theorem Holds.FI {ex fs:List Dk.ai} {next:Int} {ar:List Int} {L:List Evt.Entry} (h:Holds ex fs next ar L) {i:Nat} {n:Int} (hi:ar[i]?=some n):af.cA n fs=(⟨((8*i+1:Nat):Int),chunk i L,false⟩,0):=by
 have hlt:=(List.getElem?_eq_some_iff.1 hi).1;have h30:=(al.dC h.right).2.2.1;rw[af.uB (h.pR i n hi)];exact af.uz _ _ (by omega) (by omega) (by rw[show(((8*i+1:Nat):Int)-1)=((8*i:Nat):Int)by omega];exact h.chunks i hlt)
theorem ns (i:Nat) (L:List Evt.Entry):L.take (8*i)++chunk i L=L.take (8*(i+1)):=by
 unfold chunk;rw[show 8*(i+1)=8*i+8 by omega,List.take_add]
theorem Holds.Jj {ex fs:List Dk.ai} {next:Int} {ar:List Int} {L:List Evt.Entry} (h:Holds ex fs next ar L) {i:Nat} (hi:i<ar.length):(L.take (8*i)).length=8*i/\∀e l,chunk i L=e::l->(af.dX 0 0 (L.take (8*i))).2<=e.epoch:=by
 have hlow:=h.low;refine⟨by rw[List.length_take];omega,fun e l he=>?_⟩;have hf:=h.l9;rw[<-List.take_append_drop (8*(i+1)) L,<-ns]at hf;have h1:=((af.cQ _ _ _ _).1 hf).1;have h2:=((af.cQ _ _ _ _).1 h1).2;rw[he]at h2;exact(af.dh.1 h2).2.1
theorem Holds.GW {ex fs:List Dk.ai} {next:Int} {ar:List Int} {L:List Evt.Entry} (h:Holds ex fs next ar L):L.take (8*ar.length)=L:=List.take_of_length_le h.high
structure S where
 next:Int
 parts:List (Int×Int)
 es:List Evt.Entry
def S.ar (s:S):List Int:=s.parts.map (·.1)
def dd (es:List Evt.Entry):Int:=(af.dX 0 0 es).2
def oB (g:af.af) (es:List Evt.Entry):Bool :=
 decide (g.first=(es.length:Int)+1)&&(match g.entries with|[]=>true|e::_=>decide (dd es<=e.epoch))
def S.more (s:S) (n:Int) (g:af.af):S:=⟨s.next,s.parts++[(n,g.first)],s.es++g.entries⟩
def rQ (room n:Int) (s:S) (fs:List Dk.ai):(List Dk.ai×S)×Bool×Nat :=
 if (af.cA n fs).2=0/\oB (af.cA n fs).1 s.es=true then
  if (af.cA n fs).1.cH=true then
   if (af.fD room n ((af.cA n fs).1.first+(af.cA n fs).1.entries.length-1) fs).2=0 then (((af.fD room n ((af.cA n fs).1.first+(af.cA n fs).1.entries.length-1) fs).1,s.more n (af.cA n fs).1),true,0)
   else (((af.fD room n ((af.cA n fs).1.first+(af.cA n fs).1.entries.length-1) fs).1,s),false,(af.fD room n ((af.cA n fs).1.first+(af.cA n fs).1.entries.length-1) fs).2)
  else ((fs,s.more n (af.cA n fs).1),true,0)
 else ((fs,s),false,0)
def yv (ar:List Int) (k:List UInt8):Bool:=k==af.bQ||(decide (0<af.numberOf k)&&!ar.contains (af.numberOf k))
def mI (room:Int) (s:S) (fs:List Dk.ai):(List Dk.ai×S)×Int×Nat :=
 if 30<=s.parts.length then ((fs,s),0,4) else
 if (af.create room s.next ((s.es.length:Int)+1) fs).2≠0 then (((af.create room s.next ((s.es.length:Int)+1) fs).1,s),0,(af.create room s.next ((s.es.length:Int)+1) fs).2) else
 if (al.save room (s.next+1) (s.ar++[s.next]) (af.create room s.next ((s.es.length:Int)+1) fs).1).2≠0 then
  (((Dk.delete (af.nameOf s.next) (al.save room (s.next+1) (s.ar++[s.next]) (af.create room s.next ((s.es.length:Int)+1) fs).1).1).1,s),0,(al.save room (s.next+1) (s.ar++[s.next]) (af.create room s.next ((s.es.length:Int)+1) fs).1).2)
 else (((al.save room (s.next+1) (s.ar++[s.next]) (af.create room s.next ((s.es.length:Int)+1) fs).1).1,⟨s.next+1,s.parts++[(s.next,(s.es.length:Int)+1)],s.es⟩),8,0)
def dL (room:Int) (s:S) (fs:List Dk.ai):(List Dk.ai×S)×Int×Nat :=
 match s.parts.getLast? with
 |none=>mI room s fs
 |some p=>if (s.es.length:Int)+1-p.2<8 then ((fs,s),8-((s.es.length:Int)+1-p.2),0) else mI room s fs
def jR (s:S):Int:=match s.parts.getLast? with|none=>0|some p=>p.1
def S.plus (s:S) (m:List Evt.Entry):S:=⟨s.next,s.parts,s.es++m⟩
def mS (room:Int):Nat->List Evt.Entry->S->List Dk.ai->(List Dk.ai×S)×Nat
 |0,_,s,fs=>((fs,s),0)
 |k+1,e,s,fs =>
  if e=[] then ((fs,s),0) else
  if (dL room s fs).2.2≠0 then ((dL room s fs).1,(dL room s fs).2.2) else
  if (af.jK room (jR (dL room s fs).1.2) (e.take (min (dL room s fs).2.1.toNat e.length)) (dL room s fs).1.1).2≠0 then
   (((af.jK room (jR (dL room s fs).1.2) (e.take (min (dL room s fs).2.1.toNat e.length)) (dL room s fs).1.1).1,(dL room s fs).1.2),(af.jK room (jR (dL room s fs).1.2) (e.take (min (dL room s fs).2.1.toNat e.length)) (dL room s fs).1.1).2)
  else mS room k (e.drop (min (dL room s fs).2.1.toNat e.length)) ((dL room s fs).1.2.plus (e.take (min (dL room s fs).2.1.toNat e.length))) (af.jK room (jR (dL room s fs).1.2) (e.take (min (dL room s fs).2.1.toNat e.length)) (dL room s fs).1.1).1
def fQ (room:Int) (e:List Evt.Entry) (s:S) (fs:List Dk.ai):(List Dk.ai×S)×Nat :=
 if Evt.follows e s.es.length (dd s.es)=true then mS room e.length e s fs else ((fs,s),11)
def cW (last:Int) (ps:List (Int×Int)):Nat:=(ps.takeWhile fun p=>decide (p.2<=last)).length
def vJ (ps:List (Int×Int)) (k:Nat):Int:=match ps[k]? with|none=>0|some p=>p.2
def mR (room last:Int) (s:S) (fs:List Dk.ai):(List Dk.ai×S)×Nat :=
 match s.parts.getLast? with
 |none=>((fs,⟨s.next,s.parts,s.es.take (min s.es.length last.toNat)⟩),0)
 |some p=>if (af.fD room p.1 last fs).2≠0 then (((af.fD room p.1 last fs).1,s),(af.fD room p.1 last fs).2)
  else (((af.fD room p.1 last fs).1,⟨s.next,s.parts,s.es.take (min s.es.length last.toNat)⟩),0)
def S.upto (s:S) (k:Nat):S:=⟨s.next,s.parts.take k,s.es.take (min s.es.length (vJ s.parts k-1).toNat)⟩
def lI (room last:Int) (s:S) (fs:List Dk.ai):(List Dk.ai×S)×Nat :=
 if last<0 then ((fs,s),1) else if (s.es.length:Int)<=last then ((fs,s),0) else
 if cW last s.parts<s.parts.length then
  if (al.save room s.next ((s.parts.take (cW last s.parts)).map (·.1)) fs).2≠0 then (((al.save room s.next ((s.parts.take (cW last s.parts)).map (·.1)) fs).1,s),(al.save room s.next ((s.parts.take (cW last s.parts)).map (·.1)) fs).2)
  else mR room last (s.upto (cW last s.parts)) (jJ ((s.parts.drop (cW last s.parts)).map (·.1)) (al.save room s.next ((s.parts.take (cW last s.parts)).map (·.1)) fs).1)
 else mR room last s fs
def partsOf (ar:List Int):List (Int×Int):=ar.zipIdx.map fun p=>(p.1,((8*p.2+1:Nat):Int))
def aL (next:Int) (ar:List Int) (L:List Evt.Entry):S:=⟨next,partsOf ar,L⟩
theorem DG (ar:List Int):(partsOf ar).map (·.1)=ar:=by
 unfold partsOf;rw[List.map_map];exact List.zipIdx_map_fst 0 ar
theorem qM (ar:List Int):(partsOf ar).length=ar.length:=by simp[partsOf]
theorem zs (ar:List Int) (i:Nat):(partsOf ar)[i]?=ar[i]?.map fun n=>(n,((8*i+1:Nat):Int)):=by
 simp[partsOf,List.getElem?_zipIdx];rfl
theorem uh (ar:List Int) (n:Int):partsOf ar++[(n,((8*ar.length+1:Nat):Int))]=partsOf (ar++[n]):=by
 simp[partsOf,List.zipIdx_append]
theorem Fv {ex fs:List Dk.ai} {next room:Int} {ar:List Int} {L:List Evt.Entry} (h:Holds ex fs next ar L) {i:Nat} {n:Int} (hi:ar[i]?=some n) :
 rQ room n ⟨next,partsOf (ar.take i),L.take (8*i)⟩ fs=((fs,⟨next,partsOf (ar.take (i+1)),L.take (8*(i+1))⟩),true,0):=by
 have hlt:=(List.getElem?_eq_some_iff.1 hi).1;have hl:=h.FI hi;obtain⟨g1,g2⟩:=h.Jj hlt;have hgo:oB ⟨((8*i+1:Nat):Int),chunk i L,false⟩ (L.take (8*i))=true:=by
  unfold oB;simp only;rw[g1,decide_eq_true (by omega),Bool.true_and];cases hc:chunk i L with
  |nil=>rfl
  |cons e l=>exact decide_eq_true (g2 e l hc)
 unfold rQ;rw[hl];simp only[hgo,and_self,if_true,Bool.false_eq_true,if_false];have hs:ar.take (i+1)=ar.take i++[n]:=by
  rw[List.take_add_one,hi];rfl
 have hp:=uh (ar.take i) n;rw[List.length_take,Nat.min_eq_left (by omega)]at hp;simp only[S.more,ns,hp,hs]
def roomy (room:Int) (ar:List Int) (L:List Evt.Entry):Prop:=(800+15*(ar.length+1)+2*(af.aQ L).length+15:Int)<=room
theorem Ee {α:Type} (l:List α):l.getLast?=l[l.length-1]?:=List.getLast?_eq_getElem?
theorem ui {ar:List Int}:(partsOf ar).getLast?=(ar[ar.length-1]?).map fun n=>(n,((8*(ar.length-1)+1:Nat):Int)):=by
 rw[Ee,qM,zs]
theorem Holds.room {ex fs:List Dk.ai} {next room:Int} {ar:List Int} {L:List Evt.Entry} (h:Holds ex fs next ar L) (h30:L.length<240) (hn:next<1073741824) (hr:roomy (room-(Dk.total ex:Int)) ar L) :
 ∃f2 next2 nums2 k,dL room (aL next ar L) fs=((f2,aL next2 nums2 L),((k:Nat):Int),0)/\Holds ex f2 next2 nums2 L/\1<=k/\L.length+k=8*nums2.length/\next2<=next+1/\nums2.length<=L.length / 8+1/\nums2≠[]:=by
 unfold roomy at hr;have hlow:=h.low;have hhigh:=h.high;have hrm:=al.dC h.right;unfold dL;have hnew:L.length=8*ar.length->∃f2 next2 nums2 k,mI room (aL next ar L) fs=((f2,aL next2 nums2 L),((k:Nat):Int),0)/\Holds ex f2 next2 nums2 L/\1<=k/\L.length+k=8*nums2.length/\next2<=next+1/\nums2.length<=L.length / 8+1/\nums2≠[]:=by
  intro he;obtain⟨f1,f2,g1,g2,g3⟩:=h.grow (room:=room) he (by omega) hn (by omega);refine⟨f2,next+1,ar++[next],8,?_,g3,by omega,by simp;omega,Int.le_refl _,by simp;omega,by simp⟩;have hp:(aL next ar L).parts.length=ar.length:=qM ar;have hnn:(aL next ar L).ar=ar:=DG ar;unfold mI;rw[hp,hnn,if_neg (by omega)];have e1:(aL next ar L).next=next:=rfl
  have e2:(aL next ar L).es=L:=rfl;rw[e1,e2,g1];simp only[ne_eq,not_true_eq_false,if_false];rw[g2];simp only[not_true_eq_false,if_false];have hps:=uh ar next
  rw[show((8*ar.length+1:Nat):Int)=(L.length:Int)+1 by omega]at hps;have e3:(aL next ar L).parts=partsOf ar:=rfl;rw[e3,hps];rfl
 have e3:(aL next ar L).parts=partsOf ar:=rfl;have e2:(aL next ar L).es=L:=rfl;rw[e3,ui];cases hl:ar[ar.length-1]? with
 |none =>
  have hz:ar=[]:=by
   rw[List.getElem?_eq_none_iff]at hl;exact aP (by omega)
  simp only[Option.map_none];exact hnew (by rw[h.lo hz,hz];rfl)
 |some n =>
  have hlt:=(List.getElem?_eq_some_iff.1 hl).1;simp only[Option.map_some,e2];by_cases hlt8:(L.length:Int)+1-((8*(ar.length-1)+1:Nat):Int)<8
  ·rw[if_pos hlt8];refine⟨fs,next,ar,8*ar.length-L.length,?_,h,by omega,by omega,by omega,by omega,fun e=>by rw[e]at hlt;simp at hlt⟩;congr 2;omega
  ·rw[if_neg hlt8];exact hnew (by omega)
theorem Ic {next:Int} {ar:List Int} {L:List Evt.Entry} {n:Int} (h:ar[ar.length-1]?=some n):jR (aL next ar L)=n:=by
 have e3:(aL next ar L).parts=partsOf ar:=rfl;unfold jR;rw[e3,ui,h];rfl
theorem sT (a b:List Evt.Entry):(af.aQ a).length<=(af.aQ (a++b)).length:=by
 rw[af.jU,List.length_append];omega
theorem xD {ex:List Dk.ai} {room:Int}:∀(k:Nat) (e:List Evt.Entry) (fs:List Dk.ai) (next:Int) (ar:List Int) (L:List Evt.Entry),e.length<=k->Holds ex fs next ar L->Evt.follows (L++e) 0 0=true->(L++e).length<=240->next+e.length<1073741824 ->
 (1600+2*(af.aQ (L++e)).length:Int)<=room-(Dk.total ex:Int)->ar.length<=(L.length+7) / 8+1 ->
 ∃f2 next2 nums2,mS room k e (aL next ar L) fs=((f2,aL next2 nums2 (L++e)),0)/\Holds ex f2 next2 nums2 (L++e)/\next2<=next+e.length/\nums2.length<=max ar.length (((L++e).length+7) / 8)
 |0,e,fs,next,ar,L,hk,h,hf,h240,hn,hr,hnl=>by
  have:e=[]:=aP (by omega);subst this;rw[List.append_nil];exact⟨fs,next,ar,rfl,h,by simp,Nat.le_max_left _ _⟩
 |k+1,e,fs,next,ar,L,hk,h,hf,h240,hn,hr,hnl=>by
  rw[mS];by_cases he:e=[]
  ·subst he;rw[if_pos rfl,List.append_nil];exact⟨fs,next,ar,rfl,h,by simp,Nat.le_max_left _ _⟩
  have hlen:0<e.length:=List.length_pos_iff.2 he;rw[if_neg he];have hll:(L++e).length=L.length+e.length:=List.length_append;have hb1:=sT L e;have h30:=(al.dC h.right).2.2.1;obtain⟨f1,next1,nums1,m,hrf,h1,hm1,hm2,hm3,hm4,hm5⟩:=h.room (room:=room) (by omega) (by omega) (by unfold roomy;omega);rw[hrf];simp only[ne_eq,not_true_eq_false,if_false,Int.toNat_natCast];have h31:=(al.dC h1.right).2.2.1;have hlt1:nums1.length-1<nums1.length:=by
   have:=List.length_pos_iff.2 hm5;omega
  have hgl:nums1[nums1.length-1]?=some nums1[nums1.length-1]:=aR hlt1;rw[Ic hgl];obtain⟨c,hc⟩:∃c,min m e.length=c:=⟨_,rfl⟩;rw[hc];have eL:L++e=(L++e.take c)++e.drop c:=by rw[List.append_assoc,List.take_append_drop]
  have htl:(e.take c).length=c:=by rw[List.length_take];omega
  have hdl:(e.drop c).length=e.length-c:=List.length_drop;have hfo:Evt.follows (L++e.take c) 0 0=true:=by
   rw[eL]at hf;exact((af.cQ _ _ _ _).1 hf).1
  have hb2:=sT (L++e.take c) (e.drop c);rw[<-eL]at hb2;have hlc:(L++e.take c).length=L.length+c:=by rw[List.length_append,htl]
  obtain⟨f2,ha,h2⟩:=h1.add (room:=room) (m:=e.take c) hgl (by omega) hfo (by omega);rw[ha];simp only[not_true_eq_false,if_false];have hst:(aL next1 nums1 L).plus (e.take c)=aL next1 nums1 (L++e.take c):=rfl;rw[hst];obtain⟨f3,next3,nums3,q1,q2,q3,q4⟩:=xD k (e.drop c) f2 next1 nums1 (L++e.take c) (by omega) h2 (by rw[<-eL];exact hf) (by rw[<-eL];omega) (by omega) (by rw[<-eL];omega) (by omega);rw[<-eL]at q1 q2 q4;exact⟨f3,next3,nums3,q1,q2,by omega,by omega⟩
theorem KK {L:List Evt.Entry} (h:Evt.follows L 0 0=true):af.dX 0 0 L=((L.length:Int),dd L):=by
 have:=(rX L 0 0 h).1;exact Prod.ext (by rw[this];omega) rfl
theorem pw {L e:List Evt.Entry} (h:Evt.follows L 0 0=true):Evt.follows (L++e) 0 0=true↔Evt.follows e L.length (dd L)=true:=by
 rw[af.cQ,KK h];exact⟨fun h=>h.2,fun h2=>⟨h,h2⟩⟩
theorem Holds.append {ex fs:List Dk.ai} {next room:Int} {ar:List Int} {L:List Evt.Entry} (h:Holds ex fs next ar L) (e:List Evt.Entry) (hf:Evt.follows (L++e) 0 0=true) (h240:(L++e).length<=240) (hn:next+e.length<1073741824)
 (hr:(1600+2*(af.aQ (L++e)).length:Int)<=room-(Dk.total ex:Int)):∃f2 next2 nums2,fQ room e (aL next ar L) fs=((f2,aL next2 nums2 (L++e)),0)/\Holds ex f2 next2 nums2 (L++e)/\next2<=next+e.length/\nums2.length<=max ar.length (((L++e).length+7) / 8):=by
 have e2:(aL next ar L).es=L:=rfl;unfold fQ;rw[e2,if_pos ((pw h.l9).1 hf)];have:=h.low;exact xD e.length e fs next ar L ab h hf h240 hn hr (by omega)
def Reads (room:Int):List Int->S->List Dk.ai->S->List Dk.ai->Prop
 |[],s,fs,s',fs'=>s'=s/\fs'=fs
 |n::l,s,fs,s',fs'=>∃s1 f1,rQ room n s fs=((f1,s1),true,0)/\Reads room l s1 f1 s' fs'
theorem ue {ex fs:List Dk.ai} {next room:Int} {ar:List Int} {L:List Evt.Entry} (h:Holds ex fs next ar L):∀(k i:Nat),i+k=ar.length ->
 Reads room (ar.drop i) ⟨next,partsOf (ar.take i),L.take (8*i)⟩ fs (aL next ar L) fs
 |0,i,hk=>by
  have e:i=ar.length:=by omega
  subst e;rw[List.drop_length,List.take_length,h.GW];exact⟨rfl,rfl⟩
 |k+1,i,hk=>by
  have hlt:i<ar.length:=by omega
  rw[List.drop_eq_getElem_cons hlt];exact⟨_,_,Fv (room:=room) h (aR hlt),ue h k (i+1) (by omega)⟩
theorem Holds.reads {ex fs:List Dk.ai} {next:Int} {ar:List Int} {L:List Evt.Entry} (room:Int) (h:Holds ex fs next ar L):Reads room ar ⟨next,[],[]⟩ fs (aL next ar L) fs:=by
 have:=ue (room:=room) h ar.length 0 (by omega);simpa[partsOf]using this
def Me (es:List Int):List Dk.ai:=if es=[] then [] else [al.eO es]
theorem BC:af.numberOf al.mark=0:=by
 unfold af.numberOf al.mark;simp[Lib.parseUint10]
theorem qT (es:List Int) (e:Int):(⟨(al.gj es).toArray⟩:ByteArray)++al.ey e=⟨(al.gj (es++[e])).toArray⟩:=by
 apply ByteArray.ext;apply Array.toList_inj.1;rw[ByteArray.data_append,Array.toList_append,al.DR];simp[al.ey]
theorem Ct {fs:List Dk.ai} {x y:Dk.ai} (hs:Dk.Sorted fs) (h:x.name=y.name):Dk.put y (Dk.put x fs)=Dk.put y fs:=by
 refine Dk.kB _ _ (Dk.sorted_put _ _ (Dk.sorted_put _ _ hs)) (Dk.sorted_put _ _ hs) (fun j=>?_);by_cases e:j=y.name
 ·subst e;rw[Dk.a8 y,Dk.a8 y]
 ·rw[Dk.aG y e,Dk.aG y e,Dk.aG x (by rw[h];exact e)]
end Lg
end Go.Proofs.YtmgmknmaepjnoaaGreatDoor
