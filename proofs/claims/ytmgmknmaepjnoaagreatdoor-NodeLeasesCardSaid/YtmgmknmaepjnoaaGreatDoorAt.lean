/-
  append of whatever row onto a row of the call's own, of elements of whatever size.
-/
import Derived.Deep.Upon
import Derived.Sort.KeysCollected
import Derived.Test.YtmgmknmaepjnoaaGreatDoorCut
namespace Go.Proofs.YtmgmknmaepjnoaaGreatDoor
open Go.RowKit Go.Shelf Proofs.Tryz
section
theorem tW (w:World) (r:Option Nat):w.grownBy w r:=⟨rfl,rfl,rfl,ab,fun _ _ _=>rfl⟩
theorem uB {P:Program} {t e:TypeId} {sz:Nat} (E:eU P t e sz) (w:World) (base:Nat) (ty:TypeId) (v:Value) (n:Nat) (xs:List Value) (hown:w.ownsRow base e sz v n xs) (x:Value) (m:Nat) (news:List Value) (hx:Cells w x sz m news) (h1:∀u∈news,u.oneCell'=true)
 (hn:n+m≤1000000) (hbase:base≤w.heap.size) :
 ∃v' w',(Builtin.append_ #[t,t] ty #[v,x]).run P w=.ok v' w'∧w'.ownsRow base e sz v' (n+m) (xs++news)∧w.grownBy w' v.ownBlock∧(v≠.slice none 0 0→v'≠.slice none 0 0):=by
 obtain⟨i,z,bytes,h2,h3,h4,h5,h6,h7⟩:=E.info
 rcases hx.2 with⟨rfl,a,c,rfl⟩|⟨b,o,c,rfl,hx2⟩
 ·have hnn:news=[]:=aR (by have:=hx.1;omega)
  subst hnn
  obtain⟨bs,sl,sc,rfl,hle⟩:∃bs sl sc,v=.slice bs sl sc∧sl≤sc:=by
   rcases hown.2 with⟨rfl,_⟩|⟨g,cap,cur,rfl,_,_,hc,_⟩
   ·exact⟨_,_,_,rfl,ab⟩
   ·exact⟨_,_,_,rfl,hc⟩
  have hs:Src P i.size t (.slice a 0 c) 0 [] w:=by
   cases a with
   |none=>exact Src.ofNil w E.und c
   |some a=>exact Src.ofSlice w E.und a 0 c [] (by simp) (fun j u h=>by simp at h) (fun u h=>by cases h)
  exact⟨_,_,run_append_nothing w t t ty e i E.und h2 bs sl sc hle _ hs,by simpa using hown,tW _ _,fun h=>h⟩
 ·have hb:(n+m)*bytes≤(n+m)*128:=Nat.mul_le_mul_left _ h7
  obtain⟨v',w',hr,h8,h9,h10⟩:=run_append_own (P:=P) w base t ty e i z sz bytes E.und h2 h3 h4 h5 h6 E.pos v n xs hown ⟨b,o,none⟩ m c news hx.1
   (fun j u hj=>by rw[show((⟨b,o,none⟩:Addr).add j)=⟨b,o+j,none⟩by unfold Addr.add;split <;> simp_all];exact hx2 j u hj) h1 (by unfold maxLen;omega) (by omega) hbase
  exact⟨v',w',hr,h8,h9,fun h g=>h (h10.1 g).1⟩
theorem pn {P:Program} {o:Oper} {a:Act} {w:World} {K:Act→World→Prop} {Q:Exit→Act→World→Prop} (s x:Operand) {t e:TypeId} {sz:Nat}
 (ho:o.op=.call {callee:=.builtin .append,args:=#[s,x],argTypes:=#[t,t]}) (E:eU P t e sz) (base:Nat) (v:Value) (n:Nat) (xs:List Value) (hs:a.eval s=v) (hown:w.ownsRow base e sz v n xs) (y:Value) (m:Nat) (news:List Value) (hy:a.eval x=y) (hx:Cells w y sz m news)
 (h1:∀u∈news,u.oneCell'=true) (hn:n+m≤1000000) (hbase:base≤w.heap.size)
 (h:∀v' w',w'.ownsRow base e sz v' (n+m) (xs++news)→w.grownBy w' v.ownBlock→(v≠.slice none 0 0→v'≠.slice none 0 0)→K (a.put o.dst v') w'):Oper.wp P o a w K Q:=by
 obtain⟨v',w',hr,h2,h3,h4⟩:=uB E w base o.type v n xs hown y m news hx h1 hn hbase
 unfold Oper.wp execOp
 simp only[ho,resolve,invoke,builtin,Sem.run_bind,Sem.run_pure,Result.andThen_ok,List.map_toArray,List.map_cons,List.map_nil,hs,hy,hr]
 exact h v' w' h2 h3 h4
theorem fu {P:Program} {ops:Array Oper} {rest:List Oper} {o:Oper} {a:Act} {w:World} {Q:Exit→Act→World→Prop} (hwd:Region.wanted o (yielded ops a.tmps)=true) (s x:Operand) {t e:TypeId} {sz:Nat}
 (ho:o.op=.call {callee:=.builtin .append,args:=#[s,x],argTypes:=#[t,t]}) (E:eU P t e sz) (base:Nat) (v:Value) (n:Nat) (xs:List Value) (hs:a.eval s=v) (hown:w.ownsRow base e sz v n xs) (y:Value) (m:Nat) (news:List Value) (hy:a.eval x=y) (hx:Cells w y sz m news)
 (h1:∀u∈news,u.oneCell'=true) (hn:n+m≤1000000) (hbase:base≤w.heap.size)
 (h:∀v' w',w'.ownsRow base e sz v' (n+m) (xs++news)→w.grownBy w' v.ownBlock→(v≠.slice none 0 0→v'≠.slice none 0 0)→wpList P ops Q rest (a.put o.dst v') w') :
 wpList P ops Q (o::rest) a w:=by
 refine wpList_step fun K hK=>?_
 rw[if_pos hwd]
 exact pn s x ho E base v n xs hs hown y m news hy hx h1 hn hbase (fun v' w' a b c=>hK _ _ (h v' w' a b c))
theorem th {P:Program} {ops:Array Oper} {o:Oper} {a:Act} {w:World} {K:Act→World→Prop} {Q:Exit→Act→World→Prop} {EE:Prop} (hwd:Region.wanted o (yielded ops a.tmps)=true) (s x:Operand) {t e:TypeId} {sz:Nat}
 (ho:o.op=.call {callee:=.builtin .append,args:=#[s,x],argTypes:=#[t,t]}) (E:eU P t e sz) (base:Nat) (v:Value) (n:Nat) (xs:List Value) (hs:a.eval s=v) (hown:w.ownsRow base e sz v n xs) (y:Value) (m:Nat) (news:List Value) (hy:a.eval x=y) (hx:Cells w y sz m news)
 (h1:∀u∈news,u.oneCell'=true) (hn:n+m≤1000000) (hbase:base≤w.heap.size)
 (h:∀v' w',w'.ownsRow base e sz v' (n+m) (xs++news)→w.grownBy w' v.ownBlock→(v≠.slice none 0 0→v'≠.slice none 0 0)→K (a.put o.dst v') w') :
 if Region.wanted o (yielded ops a.tmps)=true then Oper.wp P o a w K Q else EE:=by
 rw[if_pos hwd]
 exact pn s x ho E base v n xs hs hown y m news hy hx h1 hn hbase h
theorem lO (w:World) (B:Nat) (e:TypeId) (sz:Nat) (hB:B≤w.heap.size):(w.alloc (.cells #[] e)).ownsRow B e sz (.slice (some ⟨w.heap.size,0,none⟩) 0 0) 0 [] :=
 ⟨by simp,.inr ⟨w.heap.size,0,#[],rfl,hB,Array.getElem?_push_size,ab,Nat.zero_le _,by simp,by simp⟩⟩
theorem nJ (ps:List bu) (h:∀p∈ps,∃sa sl sc,p.2=.slice sa sl sc):∀u∈aN ps,u.oneCell'=true:=by
 intro u hu
 simp only[aN,List.mem_flatMap]at hu
 obtain⟨p,hp,hu⟩:=hu
 obtain⟨sa,sl,sc,e⟩:=h p hp
 rw[e]at hu
 simp only[List.mem_cons,List.not_mem_nil,or_false]at hu
 rcases hu with rfl|rfl|rfl|rfl|rfl|rfl|rfl <;> rfl
def G5 (u:Int) (w:World) (d:Nat) (room:Int) (fs:List Dk.ah) (ft:Nat→Prop) (bm:Nat) (D:DataW Unit) (g:List UInt8→Nat):Prop :=
 w.heap[d]?=some (.cells #[.int .i64 room,.int .i64 u,.map (some bm)] 129 (0,0)) ∧
 w.ownsMap prog 9 fh bm fs.length D∧Maps.size D=fs.length∧fs.length≤40∧Dk.Sorted fs∧(1≤room∧room≤1073741824∧(Dk.total fs:Int)≤room)∧ft d∧ft bm ∧
 (∀k,Dk.look fs k=none→Maps.has D (.string k)=false) ∧
 (∀k x,Dk.look fs k=some x→Maps.has D (.string k)=true∧(∀z,D.atKey (.string k) z=.lit (.int .i64 (g k:Nat)))∧dX (g k) x.bytes x.synced w∧ft (g k)∧x.synced≤x.bytes.size) ∧
 (∀k k' x x',Dk.look fs k=some x→Dk.look fs k'=some x'→g k=g k'→k=k')
variable {u:Int} {w w':World} {d:Nat} {room:Int} {fs:List Dk.ah} {ft:Nat→Prop} {bm:Nat} {D:DataW Unit} {g:List UInt8→Nat}
theorem CN (h:G5 u w d room fs ft bm D g):(fs.map (·.name)).Perm (strKeys D):=by
 obtain⟨h1,h2,h3,h4,h5,h6,h7,h8,h9,h10,h11⟩:=h
 refine Collected.perm (left:=fun _=>false) ⟨?_,fun k=>?_⟩ h2 dG underlying9 (fun _=>rfl)
 ·refine List.pairwise_map.2 (h5.imp fun {a b} hab e=>?_)
  rw[e]at hab
  exact Std.lt_irrefl hab
 ·constructor
  ·intro hk
   obtain⟨x,hx,rfl⟩:=List.mem_map.1 hk
   refine⟨?_,rfl⟩
   cases e:Dk.look fs x.name with
   |none=>exact absurd rfl (Dk.vJ e x hx)
   |some z=>exact(h10 _ z e).1
  ·rintro ⟨hk,_⟩
   cases e:Dk.look fs k with
   |none=>rw[h9 _ e]at hk;cases hk
   |some z =>
    have:=Dk.gR e
    exact List.mem_map.2 ⟨z,this.2,this.1⟩
theorem yM (h:G5 u w d room fs ft bm D g) {ss:List (List UInt8)} (hp:ss.Perm (strKeys D)):ss.mergeSort (fun x y=>decide (x≤y))=fs.map (·.name):=by
 have e:=mergeSort_of_perm (hp.trans (CN h).symm)
 refine e.trans (List.mergeSort_of_pairwise ?_)
 refine List.pairwise_map.2 (h.2.2.2.2.1.imp fun {a b} hab=>?_)
 simp only[leB,decide_eq_true_eq]
 exact List.le_of_lt hab
set_option maxHeartbeats 1000000 in
theorem zt (w:World) (h:G5 u w d room fs ft bm D g) :
 Calls prog 148 #[.pointer (some ⟨d,0,none⟩)] w fun e w'=>∃sa sc,e=.returned (.slice sa fs.length sc)∧Hid (w'.ownsRow w.heap.size 9 1 (.slice sa fs.length sc) fs.length (strCells (fs.map (·.name))))∧Below w.heap.size w w':=by
 have H:=ad h
 obtain⟨h1,h2,h3,h4,_⟩:=h
 have d2:w.cell? ⟨d,2,none⟩=some (.map (some bm)):=au h1 rfl
 have HK:=ad (callsIn_wide.1 (Tryz.xg (some bm) w))
 have HS:=ad (callsIn_wide.1 (Tryz.lC bm fs.length D fh w h2 (by unfold maxLen;omega) (by omega)))
 clear h1 h2 h3
 go_enter func148,ntmps148
 go_wp2_with fail
 refine HK.out.mono ?_
 rintro e w1 ⟨rfl,rfl⟩
 go_wp2_with fail
 refine HS.out.mono ?_
 rintro e w2 ⟨v,ss,rfl,hp,hrow,_,hb⟩
 have hss:=yM H.out hp
 have hl:ss.length=fs.length:=by
  have:=congrArg List.length hss
  simpa using this
 rw[hss,hl]at hrow
 have HB:=ad (((ae _ w).alloc ab (.cells #[.map (some bm)] 127)).trans (hb.mono (by simp)))
 have HC:=ad (bV hrow (show w.heap.size≤_ by simp))
 rcases hrow.2 with⟨rfl,h0⟩|⟨gg,cap,cur,rfl,_⟩
 ·clear hss hl hp hrow HK HS hb
  go_wp2
  go_ret
  refine⟨none,0,by rw[h0];rfl,ad ?_,HB.out⟩
  have:=HC.out
  rw[h0]at this ⊢
  simp only[strCells,List.map_map]at this ⊢
  exact this
 ·clear hss hl hp hrow HK HS hb
  go_wp2
  go_ret
  refine⟨_,_,rfl,ad ?_,HB.out⟩
  have:=HC.out
  simp only[strCells,List.map_map]at this ⊢
  exact this
theorem ar.wide {f1 f2:Nat→Prop} (h:ar f1 w w') (hf:∀j,f1 j→f2 j):ar f2 w w':=⟨h.os,h.tape,h.output,h.size,fun j hj hn=>h.block j hj (fun h=>hn (hf j h))⟩
end
section
variable {a w w':World} {P d:Nat} {mv:Value} {room:Int} {fs fs':List Dk.ah} {ft:Nat→Prop}
theorem fU.cE {base:Nat} {v:Value} {ps:List bu} (h:fU base w v ps) (hf:∀j,ft j→j<base) (ht:ar ft w w'):fU base w' v ps:=by
 have key:∀{e sz n:Nat} {v:Value} {xs:List Value},w.ownsRow base e sz v n xs→w'.ownsRow base e sz v n xs:=fun {e sz n v xs} h=>by
  obtain⟨h1,h2⟩:=h
  refine⟨h1,?_⟩
  rcases h2 with h2|⟨g,cap,cur,hv,hg,hw,hr⟩
  ·exact .inl h2
  ·refine .inr ⟨g,cap,cur,hv,hg,?_,hr⟩
   rw[ht.block g (aA.1 hw).1 (fun h=>by have:=hf g h;omega)];exact hw
 exact⟨key h.1,fun p hp=>⟨key (h.2 p hp).1,(h.2 p hp).2⟩⟩
theorem SB.cE {b:Nat} {f:Int} {v:Value} {t:Bool} (h:SB b f v t w) (hf:¬ft b) (ht:ar ft w w'):SB b f v t w' :=
 (ht.block b (aA.1 h).1 hf).trans h
end
namespace aj
def file:List UInt8:=[109,97,110,105,102,101,115,116]
def dD:Int→List Int→Option Int
 |last,[]=>some last
 |last,n::l=>if n≤last then none else dD n l
def right (next:Int) (segs:List Int):Bool :=
 match dD 0 segs with
 |none=>false
 |some last=>decide (last<next)&&decide (next≤1073741824)&&decide (segs.length≤30)
def body (next:Int) (segs:List Int):List UInt8:=Num.put (Num.held next)++(Num.put (Num.held segs.length)++segs.flatMap fun n=>Num.put (Num.held n))
def fM (room:Int) (k:List UInt8) (s:ByteArray) (fs:List Dk.ah):List Dk.ah×Nat :=
 if (Dk.append room af.bJ s (Dk.delete af.bJ fs).1).2=0 then Dk.rename af.bJ k (Dk.sync af.bJ (Dk.append room af.bJ s (Dk.delete af.bJ fs).1).1).1
 else ((Dk.delete af.bJ (Dk.append room af.bJ s (Dk.delete af.bJ fs).1).1).1,(Dk.append room af.bJ s (Dk.delete af.bJ fs).1).2)
def bytes (next:Int) (segs:List Int):ByteArray:=⟨(Frm.bE (body next segs)).toArray⟩
def save (room next:Int) (segs:List Int) (fs:List Dk.ah):List Dk.ah×Nat:=if right next segs then fM room file (bytes next segs) fs else (fs,1)
def tk (st:List UInt8×Nat):Nat×(List UInt8×Nat):=((Num.take st.1).1,(Num.take st.1).2.1,if st.2=0 then (Num.take st.1).2.2 else st.2)
def iN:Nat→List UInt8×Nat→List Int×(List UInt8×Nat)
 |0,st=>([],st)
 |n+1,st=>if st.2≠0 then ([],st) else (((tk st).1:Int)::(iN n (tk st).2).1,(iN n (tk st).2).2)
def parse (s:List UInt8):(Int×List Int)×Nat :=
 let a:=tk ((Frm.take s).1,(Frm.take s).2.2)
 let b:=tk a.2
 let c:=iN b.1 b.2
 if c.2.2=0∧c.2.1=[]∧(Frm.take s).2.1=[]∧right a.1 c.1=true then ((a.1,c.1),0) else ((0,[]),2)
def load (fs:List Dk.ah):(Int×List Int)×Nat:=if (Dk.read file fs).2=0 then parse (Dk.read file fs).1.data.toList else ((1,[]),0)
theorem qw:∀(l:List Int) (a b:Int),dD a l=some b→a≤b∧∀n∈l,a<n∧n≤b
 |[],a,b,h=>by simp only[dD,Option.some.injEq]at h;subst h;simp
 |n::l,a,b,h=>by
  rw[dD]at h
  split at h
  ·cases h
  ·obtain⟨h1,h2⟩:=qw l n b h
   refine⟨by omega,fun m hm=>?_⟩
   rcases List.mem_cons.1 hm with rfl|hm
   ·omega
   ·have:=h2 m hm;omega
theorem qy:∀(l:List Int) (a b n:Int),dD a l=some b→b<n→dD a (l++[n])=some n
 |[],a,b,n,h,hn=>by
  simp only[dD,Option.some.injEq]at h
  subst h
  rw[List.nil_append,dD,if_neg (by omega)];rfl
 |m::l,a,b,n,h,hn=>by
  rw[dD]at h
  split at h
  ·cases h
  ·rename_i g
   rw[List.cons_append,dD,if_neg g]
   exact qy l m b n h hn
theorem mU {next:Int} {segs:List Int}:right next segs=true↔∃last,dD 0 segs=some last∧last<next∧next≤1073741824∧segs.length≤30:=by
 unfold right
 cases h:dD 0 segs with
 |none=>simp
 |some last=>simp[and_assoc]
theorem dw {next:Int} {segs:List Int} (h:right next segs=true):1≤next∧next≤1073741824∧segs.length≤30∧∀n∈segs,1≤n∧n<next:=by
 obtain⟨last,h1,h2,h3,h4⟩:=mU.1 h
 obtain⟨g1,g2⟩:=qw _ _ _ h1
 exact⟨by omega,h3,h4,fun n hn=>by have:=g2 n hn;omega⟩
theorem ye {next:Int} {segs:List Int} (h:right next segs=true) (h1:next<1073741824) (h2:segs.length<30):right (next+1) (segs++[next])=true:=by
 obtain⟨last,g1,g2,g3,g4⟩:=mU.1 h
 exact mU.2 ⟨next,qy _ _ _ _ g1 g2,by omega,by omega,by simp;omega⟩
theorem xK (n:Nat) (r:List UInt8) (h:n≤1099511627776):tk (Num.put n++r,0)=(n,r,0):=by
 unfold tk
 simp only
 rw[Num.gu n h r]
 simp
theorem Be:∀(l:List Int) (r:List UInt8),(∀n∈l,0≤n∧n≤1099511627776)→iN l.length ((l.flatMap fun n=>Num.put (Num.held n))++r,0)=(l,r,0)
 |[],r,_=>by simp[iN]
 |n::l,r,h=>by
  have hn:=h n (by simp)
  have e:Num.held n=n.toNat:=by unfold Num.held;split <;> (try split) <;> omega
  rw[List.length_cons,iN,if_neg (by simp),List.flatMap_cons,List.append_assoc,xK _ _ (Num.cB n)]
  simp only
  rw[Be l r (fun m hm=>h m (by simp[hm])),e]
  simp only[Prod.mk.injEq,List.cons.injEq,and_true]
  omega
theorem ph (next:Int) (segs:List Int):(body next segs).length≤12+6*segs.length∧body next segs≠[]:=by
 have h1:=Num.cr _ (Num.cB next)
 have h2:=Num.cr _ (Num.cB segs.length)
 have h3:∀l:List Int,(l.flatMap fun n=>Num.put (Num.held n)).length≤6*l.length:=by
  intro l
  induction l with
  |nil=>simp
  |cons n l ih =>
   have:=Num.cr _ (Num.cB n)
   rw[List.flatMap_cons,List.length_append,List.length_cons];omega
 have h4:=h3 segs
 refine⟨by simp only[body,List.length_append];omega,fun h=>?_⟩
 have:=Num.Eo (Num.held next)
 simp[body]at h
 exact this h.1
theorem Ao {next:Int} {segs:List Int} (h:right next segs=true):parse (bytes next segs).data.toList=((next,segs),0):=by
 obtain⟨h1,h2,h3,h4⟩:=dw h
 obtain⟨b1,b2⟩:=ph next segs
 have ht:=Frm.nk (body next segs) [] b2 (by omega)
 rw[List.append_nil]at ht
 have e:Num.held next=next.toNat:=by unfold Num.held;split <;> (try split) <;> omega
 have e2:Num.held (segs.length:Int)=segs.length:=Num.jk _ (by omega)
 unfold parse
 rw[show(bytes next segs).data.toList=Frm.bE (body next segs)from rfl,ht]
 simp only
 have q1:tk (body next segs,0)=(next.toNat,Num.put (Num.held segs.length)++(segs.flatMap fun n=>Num.put (Num.held n)),0):=by
  unfold body;rw[e];exact xK _ _ (by omega)
 rw[q1]
 simp only
 have q2:tk (Num.put (Num.held segs.length)++(segs.flatMap fun n=>Num.put (Num.held n)),0)=(segs.length,(segs.flatMap fun n=>Num.put (Num.held n)),0):=by
  rw[e2];exact xK _ _ (by omega)
 rw[q2]
 simp only
 have q3:=Be segs [] (fun n hn=>by have:=h4 n hn;omega)
 rw[List.append_nil]at q3
 rw[q3]
 simp only
 have hn:((next.toNat:Nat):Int)=next:=by omega
 rw[hn,if_pos (by simp[h])]
theorem Ik {next:Int} {segs:List Int} {fs:List Dk.ah} {sy:Nat} (h:right next segs=true) (hl:Dk.look fs file=some ⟨file,bytes next segs,sy⟩):load fs=((next,segs),0):=by
 have hr:Dk.read file fs=(bytes next segs,0):=by rw[Dk.read,hl]
 unfold load
 rw[hr,if_pos rfl];exact Ao h
theorem EL {fs:List Dk.ah} (hl:Dk.look fs file=none):load fs=((1,[]),0):=by
 have hr:Dk.read file fs=(⟨#[]⟩,6):=by rw[Dk.read,hl]
 unfold load
 rw[hr,if_neg (by simp)]
theorem De:Txt.name file=true:=by simp[file,Txt.name,Txt.gP,Txt.iF,Txt.named]
theorem qF:file≠af.bJ:=by decide
theorem kZ (n:Int):af.nameOf n≠file:=by
 unfold af.nameOf file
 split
 ·intro h;simp at h
 ·simp
theorem xz {room:Int} {k:List UInt8} {s:ByteArray} {fs:List Dk.ah} (hs:Dk.Sorted fs) (hk:Txt.name k=true) (hkt:k≠af.bJ) (ht:Dk.look fs af.bJ=none) (h40:fs.length<40) (hr:(Dk.total fs:Int)+s.size≤room) :
 fM room k s fs=(Dk.put ⟨k,s,s.size⟩ fs,0):=by
 have hw:=af.vo (k:=af.bJ) (s:=s) hs af.ta ht h40 hr
 unfold af.dR at hw
 unfold fM
 rw[Dk.uf,Dk.o6 _ _ ht]
 have ha:(Dk.append room af.bJ s fs).2=0:=by
  unfold Dk.append
  rw[if_neg (by rw[af.ta];simp),if_neg (by omega),if_neg (by omega)]
 rw[if_pos ha]at hw ⊢
 rw[hw]
 have hl:=Dk.aZ ⟨af.bJ,s,s.size⟩ fs
 simp only at hl
 unfold Dk.rename
 rw[hl]
 simp only
 rw[if_neg (by rw[hk];simp),if_neg (fun e=>hkt e.symm)]
 simp only[Prod.mk.injEq,and_true]
 have q1:=Dk.sorted_put ⟨af.bJ,s,s.size⟩ fs hs
 have q2:=Dk.sorted_del k _ q1
 have q3:=Dk.sorted_del af.bJ _ q2
 refine Dk.j7 _ _ (Dk.sorted_put _ _ q3) (Dk.sorted_put _ _ hs) (fun j=>?_)
 by_cases e:j=k
 ·subst e
  have e1:=Dk.aZ ⟨j,s,s.size⟩ (Dk.del af.bJ (Dk.del j (Dk.put ⟨af.bJ,s,s.size⟩ fs)))
  have e2:=Dk.aZ ⟨j,s,s.size⟩ fs
  simp only at e1 e2
  rw[e1,e2]
 ·rw[Dk.aF ⟨k,s,s.size⟩ e,Dk.aF ⟨k,s,s.size⟩ e]
  by_cases e2:j=af.bJ
  ·subst e2;rw[Dk.eN _ _ q2,ht]
  ·rw[Dk.cL _ e2,Dk.cL _ e,Dk.aF ⟨af.bJ,s,s.size⟩ e2]
def mark:List UInt8:=[101,112,111,99,104]
def qf (last:Int) (p:List UInt8):Bool:=(Num.take p).2.2==0&&(Num.take p).2.1.isEmpty&&decide (last<((Num.take p).1:Int))&&decide (((Num.take p).1:Int)≤274877906944)
def gU:Int→List (List UInt8)→Int×Nat×Bool
 |last,[]=>(last,0,true)
 |last,p::l=>if qf last p=true then ((gU ((Num.take p).1:Int) l).1,(gU ((Num.take p).1:Int) l).2.1+1,(gU ((Num.take p).1:Int) l).2.2) else (last,0,false)
def qG (s:List UInt8):Int×Nat×Bool:=((gU 0 (Frm.scan s).1).1,(gU 0 (Frm.scan s).1).2.1,(gU 0 (Frm.scan s).1).2.2&&(Frm.scan s).2.isEmpty)
def cw (fs:List Dk.ah):Int×Nat×Bool:=qG (Dk.read mark fs).1.data.toList
def dZ (e:Int):ByteArray:=⟨(Frm.bE (Num.put (Num.held e))).toArray⟩
def kX (room e:Int) (fs:List Dk.ah):List Dk.ah×Nat :=
 if (cw fs).2.2=true∧(cw fs).2.1≤20 then Dk.append room mark (dZ e) fs else fM room mark (dZ e) fs
def i7 (room e:Int) (fs:List Dk.ah):List Dk.ah×Nat :=
 if e<1∨274877906944<e then (fs,1) else
 if e<(cw fs).1 then (fs,10) else
 if e=(cw fs).1 then Dk.sync mark fs else
 if (kX room e fs).2=0 then Dk.sync mark (kX room e fs).1 else kX room e fs
theorem zm {last:Int} {p:List UInt8} {l:List (List UInt8)} (h:qf last p=false):gU last (p::l)=(last,0,false):=by rw[gU,if_neg (by rw[h];simp)]
theorem zo {last:Int} {p:List UInt8} {l:List (List UInt8)} (h:qf last p=true):gU last (p::l)=((gU ((Num.take p).1:Int) l).1,(gU ((Num.take p).1:Int) l).2.1+1,(gU ((Num.take p).1:Int) l).2.2):=by rw[gU,if_pos h]
theorem E':∀(l:List (List UInt8)) (last:Int),0≤last→last≤274877906944→0≤(gU last l).1∧(gU last l).1≤274877906944∧(gU last l).2.1≤l.length
 |[],last,h1,h2=>⟨h1,h2,ab⟩
 |p::l,last,h1,h2=>by
  by_cases h:qf last p=true
  ·rw[zo h]
   simp only[qf,Bool.and_eq_true,decide_eq_true_eq]at h
   have:=E' l ((Num.take p).1:Int) (by omega) h.2
   simp only[List.length_cons]
   exact⟨this.1,this.2.1,by omega⟩
  ·rw[zm (Bool.not_eq_true _▸h)]
   exact⟨h1,h2,Nat.zero_le _⟩
def gh:Int→List Int→Prop
 |last,[]=>last≤274877906944
 |last,e::l=>last<e∧gh e l
theorem sd:∀(l:List Int) (a:Int),gh a l→a≤274877906944
 |[],_,h=>h
 |e::l,a,h=>by have:=sd l e h.2;have:=h.1;omega
def ig:Int→List Int→Int
 |a,[]=>a
 |_,e::l=>ig e l
theorem tq:∀(l:List Int) (a e:Int),gh a l→ig a l<e→e≤274877906944→gh a (l++[e])
 |[],_,_,_,h1,h2=>⟨h1,h2⟩
 |x::l,_,e,h,h1,h2=>⟨h.1,tq l x e h.2 h1 h2⟩
theorem tO:∀(l:List Int) (a e:Int),ig a (l++[e])=e
 |[],_,_=>rfl
 |x::l,_,e=>tO l x e
theorem sI:∀(l:List Int) (a:Int),0≤a→gh a l→a≤ig a l∧ig a l≤274877906944
 |[],a,_,h=>⟨Int.le_refl _,h⟩
 |e::l,a,h0,h=>by
  have:=sI l e (by have:=h.1;omega) h.2
  have:=h.1
  exact⟨by rw[ig];omega,by rw[ig];omega⟩
def fT (es:List Int):List UInt8:=es.flatMap fun e=>Frm.bE (Num.put (Num.held e))
def eE (es:List Int):Dk.ah:=⟨mark,⟨(fT es).toArray⟩,(⟨(fT es).toArray⟩:ByteArray).size⟩
theorem jk {e:Int} (h1:0≤e) (h2:e≤274877906944):((Num.held e:Nat):Int)=e∧Num.held e≤1099511627776:=by
 unfold Num.held
 split
 ·omega
 ·split <;> omega
theorem i' {e:Int} (h1:0≤e) (h2:e≤274877906944):Frm.oS (Num.put (Num.held e)):=by
 have:=Num.cr (Num.held e) (jk h1 h2).2
 refine⟨fun h=>?_,by omega⟩
 rw[Num.put]at h
 split at h <;> cases h
theorem zn:∀(es:List Int) (a:Int),0≤a→gh a es→gU a (es.map fun e=>Num.put (Num.held e))=(ig a es,es.length,true)
 |[],_,_,_=>rfl
 |e::l,a,h0,h=>by
  have h1:=h.1
  have h2:=sd l e h.2
  obtain⟨g1,g2⟩:=jk (e:=e) (by omega) h2
  have ht:=Num.gu (Num.held e) g2 []
  rw[List.append_nil]at ht
  have hok:qf a (Num.put (Num.held e))=true:=by
   simp only[qf,ht,g1,beq_self_eq_true,List.isEmpty_nil,Bool.and_true,Bool.true_and,Bool.and_eq_true,decide_eq_true_eq]
   exact⟨h1,h2⟩
  rw[List.map_cons,zo hok,ht]
  simp only[g1]
  rw[zn l e (by omega) h.2]
  rfl
theorem Gl (es:List Int):fT es=(es.map fun e=>Num.put (Num.held e)).flatMap Frm.bE:=by
 simp[fT,List.flatMap_map]
theorem pQ:∀(es:List Int) (a:Int),0≤a→gh a es→∀e∈es,0≤e∧e≤274877906944
 |[],_,_,_,e,he=>by cases he
 |x::l,a,h0,h,e,he=>by
  have h1:=h.1
  rcases List.mem_cons.1 he with rfl|he
  ·exact⟨by omega,sd l _ h.2⟩
  ·exact pQ l x (by omega) h.2 e he
theorem AW {es:List Int} (h:gh 0 es):qG (fT es)=(ig 0 es,es.length,true):=by
 have hg:∀p∈es.map (fun e=>Num.put (Num.held e)),Frm.oS p:=fun p hp=>by
  obtain⟨e,he,rfl⟩:=List.mem_map.1 hp
  have:=pQ es 0 (by omega) h e he
  exact i' this.1 this.2
 have hs:Frm.scan (fT es)=(es.map (fun e=>Num.put (Num.held e)),[]):=by
  have:=Frm.yb _ [] hg
  rw[List.append_nil,Frm.FQ,List.append_nil,←Gl]at this
  exact this
 unfold qG
 rw[hs,zn es 0 (by omega) h]
 rfl
theorem vG {es:List Int} (h:gh 0 es):(fT es).length≤14*es.length:=by
 have key:∀l:List Int,(∀e∈l,0≤e∧e≤274877906944)→(fT l).length≤14*l.length:=by
  intro l
  induction l with
  |nil=>intro _;simp[fT]
  |cons e l ih =>
   intro hl
   have h1:=ih (fun x hx=>hl x (List.mem_cons_of_mem _ hx))
   have h2:=hl e List.mem_cons_self
   have h3:=Num.cr (Num.held e) (jk h2.1 h2.2).2
   rw[fT,List.flatMap_cons,List.length_append,Frm.gi,List.length_cons]
   unfold fT at h1
   omega
 exact key es (pQ es 0 (by omega) h)
theorem CO (es:List Int) (e:Int):fT (es++[e])=fT es++Frm.bE (Num.put (Num.held e)):=by simp[fT]
theorem E8 {es:List Int} {fs:List Dk.ah} (h:gh 0 es) (hl:Dk.look fs mark=some (eE es)):cw fs=(ig 0 es,es.length,true):=by
 unfold cw Dk.read
 rw[hl]
 exact AW h
theorem AV {fs:List Dk.ah} (hl:Dk.look fs mark=none):cw fs=(0,0,true):=by
 unfold cw Dk.read
 rw[hl];rfl
theorem tG:Txt.name mark=true:=by simp[mark,Txt.name,Txt.gP,Txt.iF,Txt.named]
theorem yO:mark≠af.bJ:=by decide
theorem yP:mark≠file:=by decide
end aj
end Go.Proofs.YtmgmknmaepjnoaaGreatDoor
