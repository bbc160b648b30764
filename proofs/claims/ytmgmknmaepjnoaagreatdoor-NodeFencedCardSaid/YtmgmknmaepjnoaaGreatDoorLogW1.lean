/-
  A log at a block: its disk, its parts, its entries; what a step of it leaves.
-/
import Derived.Test.YtmgmknmaepjnoaaGreatDoorLogPl
import Derived.Maps.AppendAt
import Derived.Test.YtmgmknmaepjnoaaGreatDoorMan
namespace Go.Proofs.YtmgmknmaepjnoaaGreatDoor
open Go.RowKit Go.Shelf Proofs.Tryz
section
theorem pS {P:Program} {t e:TypeId} {sz:Nat} (E:fh P t e sz) (w:World) (base:Nat) (ty:TypeId) (v:Value) (n:Nat) (xs:List Value) (hown:w.ownsRow base e sz v n xs) (x:Value) (m:Nat) (news:List Value) (hx:Cells w x sz m news) (h1:∀u∈news,u.oneCell'=true)
 (hn:n+m<=1000000000) (hbase:base<=w.heap.size) :
 ∃v' w',(Builtin.append_ #[t,t] ty #[v,x]).run P w=.ok v' w'/\w'.ownsRow base e sz v' (n+m) (xs++news)/\w.grownBy w' v.ownBlock/\(v'.ownBlock=v.ownBlock\/v'.ownBlock=some w.heap.size):=by
 obtain⟨i,z,bytes,h2,h3,h4,h5,h6,h7⟩:=E.info;rcases hx.2 with⟨rfl,a,c,rfl⟩|⟨b,o,c,rfl,hx2⟩
 ·have hnn:news=[]:=aP (by have:=hx.1;omega);subst hnn;obtain⟨bs,sl,sc,rfl,hle⟩:∃bs sl sc,v=.slice bs sl sc/\sl<=sc:=by
   rcases hown.2 with⟨rfl,_⟩|⟨g,cap,cur,rfl,_,_,hc,_⟩
   ·exact⟨_,_,_,rfl,ab⟩
   ·exact⟨_,_,_,rfl,hc⟩
  have hs:Src P i.size t (.slice a 0 c) 0 [] w:=by
   cases a with
   |none=>exact Src.ofNil w E.und c
   |some a=>exact Src.ofSlice w E.und a 0 c [] (by simp) (fun j u h=>by simp at h) (fun u h=>by cases h)
  exact⟨_,_,run_append_nothing w t t ty e i E.und h2 bs sl sc hle _ hs,by simpa using hown,uK _ _,.inl rfl⟩
 ·have hb:(n+m)*bytes<=(n+m)*128:=Nat.mul_le_mul_left _ h7;obtain⟨v',w',hr,h8,h9,_,h10⟩:=run_append_own_at (P:=P) w base t ty e i z sz bytes E.und h2 h3 h4 h5 h6 E.pos v n xs hown ⟨b,o,none⟩ m c news hx.1
   (fun j u hj=>by rw[show((⟨b,o,none⟩:Addr).add j)=⟨b,o+j,none⟩by unfold Addr.add;split <;> simp_all];exact hx2 j u hj) h1 (by unfold maxLen;omega) (by omega) hbase
  exact⟨v',w',hr,h8,h9,h10⟩
theorem sW {P:Program} {ops:Array Oper} {rest:List Oper} {o:Oper} {a:Act} {w:World} {Q:Exit->Act->World->Prop} (hwd:Region.wanted o (yielded ops a.tmps)=true) (s x:Operand) {t e:TypeId} {sz:Nat}
 (ho:o.op=.call {callee:=.builtin .append,args:=#[s,x],argTypes:=#[t,t]}) (E:fh P t e sz) (base:Nat) (v:Value) (n:Nat) (xs:List Value) (hs:a.eval s=v) (hown:w.ownsRow base e sz v n xs) (y:Value) (m:Nat) (news:List Value) (hy:a.eval x=y) (hx:Cells w y sz m news)
 (h1:∀u∈news,u.oneCell'=true) (hn:n+m<=1000000000) (hbase:base<=w.heap.size)
 (h:∀v' w',w'.ownsRow base e sz v' (n+m) (xs++news)->w.grownBy w' v.ownBlock->(v'.ownBlock=v.ownBlock\/v'.ownBlock=some w.heap.size)->wpList P ops Q rest (a.put o.dst v') w') :
 wpList P ops Q (o::rest) a w:=by
 refine wpList_step fun K hK=>?_;rw[if_pos hwd];obtain⟨v',w',hr,h2,h3,h4⟩:=pS E w base o.type v n xs hown y m news hx h1 hn hbase;unfold Oper.wp execOp;simp only[ho,resolve,invoke,builtin,Sem.run_bind,Sem.run_pure,Result.andThen_ok,List.map_toArray,List.map_cons,List.map_nil,hs,hy,hr];exact hK _ _ (h v' w' h2 h3 h4)
def aY (ps:List (Int×Int)):List Value:=ps.flatMap fun p=>[.int .i64 p.1,.int .i64 p.2]
def kT (X:Nat->Prop) (p:bu):Prop:=∀b,p.2.ownBlock=some b->p.1.b.events≠[]->¬X b
theorem kt {w:World} {v:Value} {es:List Evt.Event} (h:dp w v es) {b:Nat} (hb:v.ownBlock=some b) (hne:es≠[]):b<w.heap.size:=by
 rcases h.2 with⟨h0,a,c,rfl⟩|⟨b',o,c,rfl,h2⟩
 ·exact absurd (aP h0) hne
 ·simp only[Value.ownBlock,Option.some.injEq]at hb;subst hb;cases es with
  |nil=>exact absurd rfl hne
  |cons e es=>exact World.block_lt_of_cell? _ _ (h2 0 (.string ⟨e.kind.toArray⟩) rfl)
theorem jq {T:Nat->Prop} {w w':World} {p:bu} (h:dp w p.2 p.1.b.events) (ho:kT T p) (ht:ax T w w'):dp w' p.2 p.1.b.events:=by
 refine⟨h.1,?_⟩;rcases h.2 with⟨h0,a,c,e⟩|⟨b,o,c,e,h2⟩
 ·exact .inl ⟨h0,a,c,e⟩
 ·refine .inr ⟨b,o,c,e,fun j u hj=>?_⟩;have hne:p.1.b.events≠[]:=fun h0=>by rw[h0]at hj;simp[cZ]at hj
  have hc:=h2 j u hj;rw[World.cell?_of_block (w:=w) (w':=w') (ht.block b (World.block_lt_of_cell? _ _ hc) (ho b (by rw[e];rfl) hne))];exact hc
theorem kT.step {X X':Nat->Prop} {w:World} {p:bu} (ho:kT X p) (h:dp w p.2 p.1.b.events) (hX:∀j,X' j->X j\/w.heap.size<=j):kT X' p:=by
 intro b hb hne hx;rcases hX b hx with h1|h1
 ·exact ho b hb hne h1
 ·have:=kt h hb hne;omega
structure eP (X:Nat->Prop) (w:World) (v:Value) (qs:List bu):Prop where
 cr:dk w v qs
 row:∀b,v.ownBlock=some b->qs≠[]->¬X b
 out:∀p∈qs,kT X p
theorem Er {qs:List bu} {j:Nat} {u:Value} (h:(aM qs)[j]?=some u):qs≠[]:=fun h0=>by rw[h0]at h;simp[aM]at h
theorem Ep {w:World} {v:Value} {qs:List bu} (h:dk w v qs) {b:Nat} (hb:v.ownBlock=some b) (hne:qs≠[]):b<w.heap.size:=by
 rcases h.1.2 with⟨h0,a,c,rfl⟩|⟨b',o,c,rfl,h2⟩
 ·exact absurd (aP h0) hne
 ·simp only[Value.ownBlock,Option.some.injEq]at hb;subst hb;cases qs with
  |nil=>exact absurd rfl hne
  |cons e es=>exact World.block_lt_of_cell? _ _ (h2 0 (.int .i64 e.1.pos) rfl)
theorem eP.step {X X':Nat->Prop} {w w':World} {v:Value} {qs:List bu} (h:eP X w v qs) (ht:ax X w w') (hX:∀j,X' j->X j\/w.heap.size<=j):eP X' w' v qs:=by
 refine⟨⟨⟨h.cr.1.1,?_⟩,fun p hp=>⟨jq (h.cr.2 p hp).1 (h.out p hp) ht,(h.cr.2 p hp).2⟩⟩,fun b hb hne hx=>?_,fun p hp=>(h.out p hp).step (h.cr.2 p hp).1 hX⟩
 ·rcases h.cr.1.2 with⟨h0,a,c,e⟩|⟨b,o,c,e,h2⟩
  ·exact .inl ⟨h0,a,c,e⟩
  ·refine .inr ⟨b,o,c,e,fun j u hj=>?_⟩;have hc:=h2 j u hj;rw[World.cell?_of_block (w:=w) (w':=w') (ht.block b (World.block_lt_of_cell? _ _ hc) (h.row b (by rw[e];rfl) (Er hj)))];exact hc
 ·rcases hX b hx with h1|h1
  ·exact h.row b hb hne h1
  ·have:=Ep h.cr hb hne;omega
theorem eP.next {X:Nat->Prop} {w w':World} {v:Value} {qs:List bu} (h:eP X w v qs) (hb:Below w.heap.size w w'):eP X w' v qs:=h.step (ax.aI hb) (fun _ h=>.inl h)
structure Lay (a:World) (lg d:Nat) (room:Int) (s:Lg.S) (fs:List Dk.ai) (T X ft:Nat->Prop) (pv ev:Value) (ps:List bu) (w:World):Prop where
 im:bw w d room fs ft
 base:fF a w T
 lt:∀j,X j->j<w.heap.size
 sub:∀j,ft j->T j
 cz:∀j,T j->X j
 log:w.heap[lg]?=some (.cells #[.pointer (some ⟨d,0,none⟩),.int .i64 s.next,pv,ev] 241 (0,0))
 parts:w.ownsRow a.heap.size 264 2 pv s.parts.length (aY s.parts)
 cr:w.ownsRow a.heap.size 95 7 ev ps.length (aM ps)
 plain:ag ps=s.es
 gu:∀p∈ps,dp w p.2 p.1.b.events/\l7 p.1/\kT X p
 tl:T lg/\¬ft lg
 tp:∀b,pv.ownBlock=some b->T b/\¬ft b/\b≠lg
 te:∀b,ev.ownBlock=some b->T b/\¬ft b/\b≠lg
 ne:∀b,pv.ownBlock=some b->ev.ownBlock≠some b
def iX (a:World) (lg d:Nat) (room:Int) (s:Lg.S) (fs:List Dk.ai) (T X:Nat->Prop) (w:World):Prop:=∃ft pv ev ps,Lay a lg d room s fs T X ft pv ev ps w
def dB (a:World) (lg d:Nat) (room:Int) (s:Lg.S) (fs:List Dk.ai) (T X:Nat->Prop) (w w':World):Prop :=
 ∃T',iX a lg d room s fs T' (fun j=>X j\/T' j) w'/\(∀j,T j->T' j)/\(∀j,T' j->T j\/w.heap.size<=j)/\ax T w w'
variable {a w w':World} {lg d:Nat} {room:Int} {s s':Lg.S} {fs fs':List Dk.ai} {T X ft:Nat->Prop} {pv ev pv' ev':Value} {ps ps':List bu}
theorem dD {base sz n:Nat} {e:TypeId} {v:Value} {xs:List Value} (h:w.ownsRow base e sz v n xs) (hf:∀b,v.ownBlock=some b->¬T b) (ht:ax T w w'):w'.ownsRow base e sz v n xs:=by
 refine⟨h.1,?_⟩;rcases h.2 with h|⟨g,cap,cur,rfl,hg,hw,hr⟩
 ·exact .inl h
 ·refine .inr ⟨g,cap,cur,rfl,hg,?_,hr⟩;rw[ht.block g (aA.1 hw).1 (hf g rfl)];exact hw
theorem Lay.other {f2:Nat->Prop} (h:Lay a lg d room s fs T X ft pv ev ps w) (ht:ax f2 w w') (hb:fF a w' T) (hd:∀j,T j->¬f2 j) (hX:∀j,f2 j->X j):Lay a lg d room s fs T X ft pv ev ps w' :=
 ⟨h.im.other ht (fun j hj=>hd j (h.sub j hj)),hb,fun j hj=>Nat.lt_of_lt_of_le (h.lt j hj) ht.size,h.sub,h.cz,
  (ht.block lg (aA.1 h.log).1 (hd lg h.tl.1)).trans h.log,dD h.parts (fun b hb=>hd b (h.tp b hb).1) ht,dD h.cr (fun b hb=>hd b (h.te b hb).1) ht,h.plain,
  fun p hp=>⟨jq (h.gu p hp).1 (fun b hb hne hf=>(h.gu p hp).2.2 b hb hne (hX b hf)) ht,(h.gu p hp).2⟩,h.tl,h.tp,h.te,h.ne⟩
theorem Lay.next (h:Lay a lg d room s fs T X ft pv ev ps w) (hb:Below w.heap.size w w'):Lay a lg d room s fs T X ft pv ev ps w' :=
 h.other (f2:=fun _=>False) (ax.aI hb) (h.base.next hb) (fun _ _ h=>h) (fun _ h=>h.elim)
theorem Lay.wide {X':Nat->Prop} (h:Lay a lg d room s fs T X ft pv ev ps w) (h1:∀j,X' j->X j) (h2:∀j,T j->X' j):Lay a lg d room s fs T X' ft pv ev ps w :=
 ⟨h.im,h.base,fun j hj=>h.lt j (h1 j hj),h.sub,h2,h.log,h.parts,h.cr,h.plain,fun p hp=>⟨(h.gu p hp).1,(h.gu p hp).2.1,fun b hb hne hx=>(h.gu p hp).2.2 b hb hne (h1 b hx)⟩,h.tl,h.tp,h.te,h.ne⟩
theorem Lay.env (h:Lay a lg d room s fs T X ft pv ev ps w):Env w:=h.base.fW
theorem Lay.mr (h:Lay a lg d room s fs T X ft pv ev ps w):fF a w ft:=⟨h.base.env,h.base.below,fun j hj=>h.base.out j (h.sub j hj)⟩
theorem Lay.cells (h:Lay a lg d room s fs T X ft pv ev ps w):w.cell? ⟨lg,0,none⟩=some (.pointer (some ⟨d,0,none⟩))/\w.cell? ⟨lg,1,none⟩=some (.int .i64 s.next)/\w.cell? ⟨lg,2,none⟩=some pv/\w.cell? ⟨lg,3,none⟩=some ev:=by
 refine⟨?_,?_,?_,?_⟩ <;> (rw[aw h.log];rfl)
theorem Lay.frozen (h:Lay a lg d room s fs T X ft pv ev ps w):∀i,w.frozen? ⟨lg,i,none⟩=false:=fun i=>ay h.log i
theorem Lay.pB (h:Lay a lg d room s fs T X ft pv ev ps w):dk w ev ps:=⟨aj h.cr,fun p hp=>⟨(h.gu p hp).1,(h.gu p hp).2.1⟩⟩
theorem Lay.len (h:Lay a lg d room s fs T X ft pv ev ps w):ps.length=s.es.length:=by rw[<-h.plain];simp[ag]
theorem Lay.jr (h:Lay a lg d room s fs T X ft pv ev ps w) (hd:DStep d room fs' ft w w') :
 ∃T' ft',Lay a lg d room s fs' T' (fun j=>X j\/T' j) ft' pv ev ps w'/\(∀j,T j->T' j)/\(∀j,T' j->T j\/w.heap.size<=j)/\ax T w w'/\(∀j,ft' j->ft j\/w.heap.size<=j):=by
 obtain⟨g,q1,q2,q3,q4⟩:=hd.open;have hT:ax T w w':=q4.wide h.sub;have hg:∀j,(T j\/g j)->T j\/w.heap.size<=j:=fun j hj=>by
  rcases hj with hj|hj
  ·exact .inl hj
  ·rcases q2 j hj with h1|h1
   ·exact .inl (h.sub j h1)
   ·exact .inr h1
 have hlt:∀j,T j->j<w.heap.size:=fun j hj=>h.lt j (h.cz j hj);have hgn:∀j,j<w.heap.size->¬ft j->¬g j:=fun j h1 h2 h3=>by
  rcases q2 j h3 with h4|h4
  ·exact h2 h4
  ·omega
 have hX:∀j,(X j\/T j\/g j)->X j\/w.heap.size<=j:=fun j hj=>by
  rcases hj with hj|hj
  ·exact .inl hj
  ·rcases hg j hj with h1|h1
   ·exact .inl (h.cz j h1)
   ·exact .inr h1
 refine⟨fun j=>T j\/g j,g,⟨q1,h.base.cJ hT hg,fun j hj=>?_,fun j hj=>.inr hj,fun j hj=>.inr hj,(q4.block lg (hlt lg h.tl.1) h.tl.2).trans h.log,
  dD h.parts (fun b hb=>(h.tp b hb).2.1) q4,dD h.cr (fun b hb=>(h.te b hb).2.1) q4,h.plain,fun p hp=>⟨jq (h.gu p hp).1 (fun b hb hne hf=>(h.gu p hp).2.2 b hb hne (h.cz b (h.sub b hf))) q4,(h.gu p hp).2.1,(h.gu p hp).2.2.step (h.gu p hp).1 hX⟩,
  ⟨.inl h.tl.1,hgn lg (hlt lg h.tl.1) h.tl.2⟩,fun b hb=>?_,fun b hb=>?_,h.ne⟩,fun j hj=>.inl hj,hg,hT,q2⟩
 ·rcases hj with hj|hj|hj
  ·exact Nat.lt_of_lt_of_le (h.lt j hj) q4.size
  ·exact Nat.lt_of_lt_of_le (hlt j hj) q4.size
  ·exact q3 j hj
 ·obtain⟨h1,h2,h3⟩:=h.tp b hb;exact⟨.inl h1,hgn b (hlt b h1) h2,h3⟩
 ·obtain⟨h1,h2,h3⟩:=h.te b hb;exact⟨.inl h1,hgn b (hlt b h1) h2,h3⟩
theorem Lay.put (h:Lay a lg d room s fs T X ft pv ev ps w) (hT:ax (fun j=>T j/\¬ft j) w w')
 (hlog:w'.heap[lg]?=some (.cells #[.pointer (some ⟨d,0,none⟩),.int .i64 s'.next,pv',ev'] 241 (0,0)))
 (hp:w'.ownsRow a.heap.size 264 2 pv' s'.parts.length (aY s'.parts)) (he:w'.ownsRow a.heap.size 95 7 ev' ps'.length (aM ps')) (hpl:ag ps'=s'.es)
 (hev:∀p∈ps',dp w p.2 p.1.b.events/\l7 p.1/\kT X p)
 (bp:∀b,pv'.ownBlock=some b->(T b/\¬ft b/\b≠lg)\/w.heap.size<=b) (be:∀b,ev'.ownBlock=some b->(T b/\¬ft b/\b≠lg)\/w.heap.size<=b) (hne:∀b,pv'.ownBlock=some b->ev'.ownBlock≠some b) :
 ∃T',Lay a lg d room s' fs T' (fun j=>X j\/T' j) (fun j=>ft j/\j<w.heap.size) pv' ev' ps' w'/\(∀j,T j->T' j)/\(∀j,T' j->T j\/w.heap.size<=j)/\ax T w w':=by
 have hT2:ax T w w':=hT.wide (fun j hj=>hj.1);have hlt:∀j,T j->j<w.heap.size:=fun j hj=>h.lt j (h.cz j hj);have hg:∀j,(T j\/(w.heap.size<=j/\j<w'.heap.size))->T j\/w.heap.size<=j:=fun j hj=>by
  rcases hj with hj|hj
  ·exact .inl hj
  ·exact .inr hj.1
 have hX:∀j,(X j\/T j\/(w.heap.size<=j/\j<w'.heap.size))->X j\/w.heap.size<=j:=fun j hj=>by
  rcases hj with hj|hj
  ·exact .inl hj
  ·rcases hg j hj with h1|h1
   ·exact .inl (h.cz j h1)
   ·exact .inr h1
 have hll:=hlt lg h.tl.1;refine⟨fun j=>T j\/(w.heap.size<=j/\j<w'.heap.size),⟨h.im.narrow.other hT (fun j hj hn=>hn.2 hj.1),h.base.cJ hT2 hg,fun j hj=>?_,fun j hj=>.inl (h.sub j hj.1),fun j hj=>.inr hj,hlog,hp,he,hpl,
  fun p hp'=>⟨jq (hev p hp').1 (fun b hb hn hf=>(hev p hp').2.2 b hb hn (h.cz b hf)) hT2,(hev p hp').2.1,(hev p hp').2.2.step (hev p hp').1 hX⟩,⟨.inl h.tl.1,fun hf=>h.tl.2 hf.1⟩,fun b hb=>?_,fun b hb=>?_,hne⟩,fun j hj=>.inl hj,hg,hT2⟩
 ·rcases hj with hj|hj|hj
  ·exact Nat.lt_of_lt_of_le (h.lt j hj) hT.size
  ·exact Nat.lt_of_lt_of_le (hlt j hj) hT.size
  ·exact hj.2
 ·rcases bp b hb with h1|h1
  ·obtain⟨q1,q2,q3⟩:=h1;exact⟨.inl q1,fun hf=>q2 hf.1,q3⟩
  ·exact⟨.inr ⟨h1,(hp.lt b hb).2⟩,fun hf=>by omega,fun e=>by omega⟩
 ·rcases be b hb with h1|h1
  ·obtain⟨q1,q2,q3⟩:=h1;exact⟨.inl q1,fun hf=>q2 hf.1,q3⟩
  ·exact⟨.inr ⟨h1,(he.lt b hb).2⟩,fun hf=>by omega,fun e=>by omega⟩
theorem iX.next (h:iX a lg d room s fs T X w) (hb:Below w.heap.size w w'):iX a lg d room s fs T X w':=by
 obtain⟨ft,pv,ev,ps,h⟩:=h;exact⟨ft,pv,ev,ps,h.next hb⟩
theorem iX.env (h:iX a lg d room s fs T X w):Env w:=by obtain⟨ft,pv,ev,ps,h⟩:=h;exact h.env
theorem iX.cz (h:iX a lg d room s fs T X w):∀j,T j->X j:=by obtain⟨ft,pv,ev,ps,h⟩:=h;exact h.cz
theorem iX.lt (h:iX a lg d room s fs T X w):∀j,X j->j<w.heap.size:=by obtain⟨ft,pv,ev,ps,h⟩:=h;exact h.lt
theorem iX.below (h:iX a lg d room s fs T X w):Below a.heap.size a w:=by obtain⟨ft,pv,ev,ps,h⟩:=h;exact h.base.below
theorem iX.wide {X':Nat->Prop} (h:iX a lg d room s fs T X w) (h1:∀j,X' j->X j) (h2:∀j,T j->X' j):iX a lg d room s fs T X' w:=by
 obtain⟨ft,pv,ev,ps,h⟩:=h;exact⟨ft,pv,ev,ps,h.wide h1 h2⟩
theorem dB.of {ft':Nat->Prop} (h:∃T',Lay a lg d room s' fs' T' (fun j=>X j\/T' j) ft' pv' ev' ps' w'/\(∀j,T j->T' j)/\(∀j,T' j->T j\/w.heap.size<=j)/\ax T w w'):dB a lg d room s' fs' T X w w':=by
 obtain⟨T',h1,h2,h3,h4⟩:=h;exact⟨T',⟨_,_,_,_,h1⟩,h2,h3,h4⟩
theorem dB.refl (h:iX a lg d room s fs T X w) (hb:Below w.heap.size w w'):dB a lg d room s fs T X w w' :=
 ⟨T,(h.next hb).wide (fun j hj=>by rcases hj with hj|hj;exact hj;exact h.cz j hj) (fun j hj=>.inr hj),fun _ h=>h,fun _ h=>.inl h,ax.aI hb⟩
theorem dB.under {w1:World} (hb:Below w.heap.size w w1) (h:dB a lg d room s fs T X w1 w'):dB a lg d room s fs T X w w':=by
 obtain⟨T',h1,h2,h3,h4⟩:=h;have:=hb.size;exact⟨T',h1,h2,fun j hj=>by rcases h3 j hj with h|h;exact .inl h;exact .inr (by omega),(ax.aI hb).trans h4 (fun j hj=>.inl hj)⟩
theorem dB.trans {s2:Lg.S} {f2:List Dk.ai} {T1:Nat->Prop} {w1 w2:World} (ht:ax T w w1) (hm:∀j,T j->T1 j) (hf:∀j,T1 j->T j\/w.heap.size<=j) (h2:dB a lg d room s2 f2 T1 (fun j=>X j\/T1 j) w1 w2):dB a lg d room s2 f2 T X w w2:=by
 obtain⟨T2,q1,q2,q3,q4⟩:=h2;refine⟨T2,q1.wide (fun j hj=>?_) (fun j hj=>.inr hj),fun j hj=>q2 j (hm j hj),fun j hj=>?_,ht.trans q4 hf⟩
 ·rcases hj with hj|hj
  ·exact .inl (.inl hj)
  ·exact .inr hj
 ·rcases q3 j hj with h|h
  ·exact hf j h
  ·exact .inr (Nat.le_trans ht.size h)
end
section
theorem iy {P:Program} {ops:Array Oper} {o:Oper} {a:Act} {w:World} {K:Act->World->Prop} {Q:Exit->Act->World->Prop} {EE:Prop} (hwd:Region.wanted o (yielded ops a.tmps)=true) (s x:Operand) {t e:TypeId} {sz:Nat}
 (ho:o.op=.call {callee:=.builtin .append,args:=#[s,x],argTypes:=#[t,t]}) (E:fh P t e sz) (base:Nat) (v:Value) (n:Nat) (xs:List Value) (hs:a.eval s=v) (hown:w.ownsRow base e sz v n xs) (y:Value) (m:Nat) (news:List Value) (hy:a.eval x=y) (hx:Cells w y sz m news)
 (h1:∀u∈news,u.oneCell'=true) (hn:n+m<=1000000000) (hbase:base<=w.heap.size)
 (h:∀v' w',w'.ownsRow base e sz v' (n+m) (xs++news)->w.grownBy w' v.ownBlock->(v'.ownBlock=v.ownBlock\/v'.ownBlock=some w.heap.size)->K (a.put o.dst v') w') :
 if Region.wanted o (yielded ops a.tmps)=true then Oper.wp P o a w K Q else EE:=by
 rw[if_pos hwd];obtain⟨v',w',hr,h2,h3,h4⟩:=pS E w base o.type v n xs hown y m news hx h1 hn hbase;unfold Oper.wp execOp;simp only[ho,resolve,invoke,builtin,Sem.run_bind,Sem.run_pure,Result.andThen_ok,List.map_toArray,List.map_cons,List.map_nil,hs,hy,hr];exact h _ _ h2 h3 h4
theorem ax.gB {f:Nat->Prop} {w w':World} {r:Option Nat} (h:w.grownBy w' r) (hf:∀b,r=some b->f b):ax f w w' :=
 ⟨h.os,h.tape,h.output,h.size,fun j hj hn=>h.block j hj (fun e=>hn (hf j e.symm))⟩
theorem jZ (a b:List (Int×Int)):aY (a++b)=aY a++aY b:=by simp[aY]
theorem DE (ps ms:List bu):ag (ps++ms)=ag ps++ag ms:=by simp[ag]
variable {a w w':World} {lg d:Nat} {room:Int} {s s':Lg.S} {fs fs':List Dk.ai} {T X ft:Nat->Prop} {pv ev pv' ev':Value} {ps ps':List bu}
theorem Lay.ux (h:Lay a lg d room s fs T X ft pv ev ps w):lg<w.heap.size:=(aA.1 h.log).1
theorem dB.Ma (h:∃T' ft',Lay a lg d room s' fs' T' (fun j=>X j\/T' j) ft' pv' ev' ps' w'/\(∀j,T j->T' j)/\(∀j,T' j->T j\/w.heap.size<=j)/\ax T w w'):dB a lg d room s' fs' T X w w':=by
 obtain⟨T',ft',h1,h2⟩:=h;exact dB.of ⟨T',h1,h2⟩
theorem Lay.more (h:Lay a lg d room s fs T X ft pv ev ps w) (hb:Below w.heap.size w w') :
 ∃T',Lay a lg d room s fs T' (fun j=>X j\/T' j) ft pv ev ps w'/\(∀j,T j->T' j)/\(∀j,T' j->T j\/w.heap.size<=j)/\ax T w w'/\(∀j,w.heap.size<=j->j<w'.heap.size->T' j/\¬ft j/\j≠lg):=by
 have hx:∀j,(X j\/T j\/(w.heap.size<=j/\j<w'.heap.size))->X j\/w.heap.size<=j:=fun j hj=>by
  rcases hj with hj|hj|hj
  ·exact .inl hj
  ·exact .inl (h.cz j hj)
  ·exact .inr hj.1
 have hT:ax T w w':=ax.aI hb;have hlg:=h.ux;refine⟨fun j=>T j\/(w.heap.size<=j/\j<w'.heap.size),⟨h.im.next hb,h.base.cJ hT (fun j hj=>hj.imp id (·.1)),fun j hj=>?_,fun j hj=>.inl (h.sub j hj),fun j hj=>.inr hj,au hb ab h.log,bX h.parts hb,bX h.cr hb,h.plain,
  fun p hp=>⟨Cells.next (h.gu p hp).1 hb,(h.gu p hp).2.1,(h.gu p hp).2.2.step (h.gu p hp).1 hx⟩,⟨.inl h.tl.1,h.tl.2⟩,fun b hb'=>⟨.inl (h.tp b hb').1,(h.tp b hb').2⟩,fun b hb'=>⟨.inl (h.te b hb').1,(h.te b hb').2⟩,h.ne⟩,
  fun j hj=>.inl hj,fun j hj=>hj.imp id (·.1),hT,fun j h1 h2=>⟨.inr ⟨h1,h2⟩,fun hf=>?_,fun e=>by omega⟩⟩
 ·rcases hj with hj|hj|hj
  ·exact Nat.lt_of_lt_of_le (h.lt j hj) hb.size
  ·exact Nat.lt_of_lt_of_le (h.lt j (h.cz j hj)) hb.size
  ·exact hj.2
 ·have:=h.lt j (h.cz j (h.sub j hf));omega
theorem Lay.Hl {v':Value} {wa:World} {n f:Int} (h:Lay a lg d room s fs T X ft pv ev ps w) (hown:wa.ownsRow a.heap.size 264 2 v' (s.parts.length+1) (aY s.parts++[.int .i64 n,.int .i64 f])) (hg:w.grownBy wa pv.ownBlock) (hb:v'.ownBlock=pv.ownBlock\/v'.ownBlock=some w.heap.size) :
 wa.heap[lg]?=w.heap[lg]?/\∃T' ft',Lay a lg d room ⟨s.next,s.parts++[(n,f)],s.es⟩ fs T' (fun j=>X j\/T' j) ft' v' ev ps (wa.setCell ⟨lg,2,none⟩ v')/\(∀j,T j->T' j)/\(∀j,T' j->T j\/w.heap.size<=j)/\ax T w (wa.setCell ⟨lg,2,none⟩ v'):=by
 have hlg:=h.ux;have t1:ax (fun j=>pv.ownBlock=some j) w wa:=ax.gB hg (fun b e=>e);have t2:ax (fun j=>j=lg) wa (wa.setCell ⟨lg,2,none⟩ v'):=ax.gB (az wa lg 2 v') (fun b e=>by cases e;rfl);have hl:wa.heap[lg]?=w.heap[lg]?:=t1.block lg hlg (fun e=>(h.tp lg e).2.2 rfl);have hlog:=av (i:=2) (hl.trans h.log) v';have hbl:∀b,v'.ownBlock=some b->(T b/\¬ft b/\b≠lg)\/w.heap.size<=b:=fun b e=>by
  rcases hb with hb|hb
  ·exact .inl (h.tp b (by rw[<-hb];exact e))
  ·rw[hb]at e;cases e;exact .inr ab
 refine⟨hl,?_⟩;obtain⟨T',q1,q2,q3,q4⟩:=h.put (s':=⟨s.next,s.parts++[(n,f)],s.es⟩) (pv':=v') (ev':=ev) (ps':=ps) (w':=wa.setCell ⟨lg,2,none⟩ v')
  ((t1.wide (fun j e=>⟨(h.tp j e).1,(h.tp j e).2.1⟩)).trans (t2.wide (f2:=fun j=>T j/\¬ft j) (fun j e=>by subst e;exact h.tl)) (fun j hj=>.inl hj)) hlog
  (dD (by rw[jZ];simpa[aY]using hown) (fun b e e2=>by subst e2;rcases hbl _ e with q|q;exact q.2.2 rfl;omega) t2)
  (dD (dD h.cr (fun b e e2=>h.ne b e2 e) t1) (fun b e e2=>(h.te b e).2.2 e2) t2) h.plain h.gu hbl (fun b e=>.inl (h.te b e))
  (fun b e e2=>by
   rcases hb with hb|hb
   ·exact h.ne b (by rw[<-hb];exact e) e2
   ·rw[hb]at e;cases e;have:=h.lt _ (h.cz _ (h.te _ e2).1);omega)
 exact⟨T',_,q1,q2,q3,q4⟩
theorem Lay.CN {v':Value} {wa:World} {qs:List bu} (h:Lay a lg d room s fs T X ft pv ev ps w) (hq:∀p∈qs,dp w p.2 p.1.b.events/\l7 p.1/\kT X p) (hown:wa.ownsRow a.heap.size 95 7 v' (ps.length+qs.length) (aM ps++aM qs)) (hg:w.grownBy wa ev.ownBlock) (hb:v'.ownBlock=ev.ownBlock\/v'.ownBlock=some w.heap.size) :
 wa.heap[lg]?=w.heap[lg]?/\∃T' ft',Lay a lg d room (s.plus (ag qs)) fs T' (fun j=>X j\/T' j) ft' pv v' (ps++qs) (wa.setCell ⟨lg,3,none⟩ v')/\(∀j,T j->T' j)/\(∀j,T' j->T j\/w.heap.size<=j)/\ax T w (wa.setCell ⟨lg,3,none⟩ v'):=by
 have hlg:=h.ux;have t1:ax (fun j=>ev.ownBlock=some j) w wa:=ax.gB hg (fun b e=>e);have t2:ax (fun j=>j=lg) wa (wa.setCell ⟨lg,3,none⟩ v'):=ax.gB (az wa lg 3 v') (fun b e=>by cases e;rfl);have hl:wa.heap[lg]?=w.heap[lg]?:=t1.block lg hlg (fun e=>(h.te lg e).2.2 rfl);have hlog:=av (i:=3) (hl.trans h.log) v';have hbl:∀b,v'.ownBlock=some b->(T b/\¬ft b/\b≠lg)\/w.heap.size<=b:=fun b e=>by
  rcases hb with hb|hb
  ·exact .inl (h.te b (by rw[<-hb];exact e))
  ·rw[hb]at e;cases e;exact .inr ab
 refine⟨hl,?_⟩;obtain⟨T',q1,q2,q3,q4⟩:=h.put (s':=s.plus (ag qs)) (pv':=pv) (ev':=v') (ps':=ps++qs) (w':=wa.setCell ⟨lg,3,none⟩ v')
  ((t1.wide (fun j e=>⟨(h.te j e).1,(h.te j e).2.1⟩)).trans (t2.wide (f2:=fun j=>T j/\¬ft j) (fun j e=>by subst e;exact h.tl)) (fun j hj=>.inl hj)) hlog
  (dD (dD h.parts (fun b e e2=>h.ne b e e2) t1) (fun b e e2=>(h.tp b e).2.2 e2) t2)
  (dD (by rw[lf,List.length_append];exact hown) (fun b e e2=>by subst e2;rcases hbl _ e with q|q;exact q.2.2 rfl;omega) t2) (by rw[DE,h.plain];rfl)
  (fun p hp=>by rcases aK.1 hp with hp|hp;exact h.gu p hp;exact hq p hp) (fun b e=>.inl (h.tp b e)) hbl
  (fun b e e2=>by
   rcases hb with hb|hb
   ·exact h.ne b e (by rw[<-hb];exact e2)
   ·rw[hb]at e2;cases e2;have:=h.lt _ (h.cz _ (h.tp _ e).1);omega)
 exact⟨T',_,q1,q2,q3,q4⟩
structure du (a:World) (lg d:Nat) (room:Int) (T X:Nat->Prop) (w:World) (s:Lg.S) (fs:List Dk.ai) (T2 ft2:Nat->Prop) (pv ev:Value) (ps:List bu) (wx:World):Prop where
 lay:Lay a lg d room s fs T2 (fun j=>X j\/T2 j) ft2 pv ev ps wx
 mono:∀j,T j->T2 j
 new:∀j,T2 j->T j\/w.heap.size<=j
 cJ:ax T w wx
variable {T2 ft2:Nat->Prop} {wx wy:World}
theorem du.start (h:Lay a lg d room s fs T X ft pv ev ps w):du a lg d room T X w s fs T ft pv ev ps w :=
 ⟨h.wide (fun j hj=>by rcases hj with hj|hj;exact hj;exact h.cz j hj) (fun j hj=>.inr hj),fun _ h=>h,fun _ h=>.inl h,ax.refl _ _⟩
theorem du.next (h:du a lg d room T X w s fs T2 ft2 pv ev ps wx) (hb:Below wx.heap.size wx wy):du a lg d room T X w s fs T2 ft2 pv ev ps wy :=
 ⟨h.lay.next hb,h.mono,h.new,h.cJ.trans (ax.aI (ft:=T) hb) (fun _ hj=>.inl hj)⟩
theorem du.of {T3 ft3:Nat->Prop} (h:du a lg d room T X w s fs T2 ft2 pv ev ps wx) (h1:Lay a lg d room s' fs' T3 (fun j=>(X j\/T2 j)\/T3 j) ft3 pv' ev' ps' wy) (h2:∀j,T2 j->T3 j) (h3:∀j,T3 j->T2 j\/wx.heap.size<=j) (h4:ax T2 wx wy):du a lg d room T X w s' fs' T3 ft3 pv' ev' ps' wy :=
 ⟨h1.wide (fun j hj=>by rcases hj with hj|hj;exact .inl (.inl hj);exact .inr hj) (fun j hj=>.inr hj),fun j hj=>h2 j (h.mono j hj),fun j hj=>by
  rcases h3 j hj with q|q
  ·exact h.new j q
  ·exact .inr (Nat.le_trans h.cJ.size q),h.cJ.trans h4 h.new⟩
theorem du.jr (h:du a lg d room T X w s fs T2 ft2 pv ev ps wx) (hd:DStep d room fs' ft2 wx wy) :
 ∃T3 ft3,du a lg d room T X w s fs' T3 ft3 pv ev ps wy/\(∀j,T2 j->T3 j)/\(∀j,ft3 j->ft2 j\/wx.heap.size<=j):=by
 obtain⟨T3,ft3,q1,q2,q3,q4,q5⟩:=h.lay.jr hd;exact⟨T3,ft3,h.of q1 q2 q3 q4,q2,q5⟩
theorem du.JU (h:du a lg d room T X w s fs T2 ft2 pv ev ps wx) (hd:DStep d room fs' ft2 wx wy) :
 ∃T3 ft3,du a lg d room T X w s fs' T3 ft3 pv ev ps wy/\(∀j,T2 j->T3 j)/\(∀j,T3 j->T2 j\/wx.heap.size<=j)/\ax T2 wx wy:=by
 obtain⟨T3,ft3,q1,q2,q3,q4,q5⟩:=h.lay.jr hd;exact⟨T3,ft3,h.of q1 q2 q3 q4,q2,q3,q4⟩
theorem eP.Kt {T3:Nat->Prop} {lv:Value} {qs:List bu} (h:eP (fun j=>X j\/T2 j) wx lv qs) (ht:ax T2 wx wy) (hn:∀j,T3 j->T2 j\/wx.heap.size<=j):eP (fun j=>X j\/T3 j) wy lv qs :=
 h.step (ht.wide (fun j hj=>.inr hj)) (fun j hj=>by
  rcases hj with hj|hj
  ·exact .inl (.inl hj)
  ·rcases hn j hj with h|h
   ·exact .inl (.inr h)
   ·exact .inr h)
theorem du.more (h:du a lg d room T X w s fs T2 ft2 pv ev ps wx) (hb:Below wx.heap.size wx wy) :
 ∃T3,du a lg d room T X w s fs T3 ft2 pv ev ps wy/\(∀j,T2 j->T3 j)/\(∀j,wx.heap.size<=j->j<wy.heap.size->T3 j/\¬ft2 j/\j≠lg):=by
 obtain⟨T3,q1,q2,q3,q4,q5⟩:=h.lay.more hb;exact⟨T3,h.of q1 q2 q3 q4,q2,q5⟩
theorem du.step (h:du a lg d room T X w s fs T2 ft2 pv ev ps wx):dB a lg d room s fs T X w wx:=⟨T2,⟨ft2,pv,ev,ps,h.lay⟩,h.mono,h.new,h.cJ⟩
theorem du.LQ (h:du a lg d room T X w s fs T2 ft2 pv ev ps wx) {j:Nat} (hj:wx.heap.size<=j):¬ft2 j:=fun hf=>by
 have:=h.lay.lt j (h.lay.cz j (h.lay.sub j hf));omega
end
section
theorem Lg.ml {es:List Evt.Entry} {e:Evt.Entry} (h:es[es.length-1]?=some e):Lg.dd es=e.epoch:=by
 unfold Lg.dd;rw[af.pE,List.getLast?_eq_getElem?,h]
variable {a w w':World} {lg d:Nat} {room:Int} {s:Lg.S} {fs:List Dk.ai} {T X ft:Nat->Prop} {pv ev:Value} {ps:List bu}
theorem jM (h:Lay a lg d room s fs T X ft pv ev ps w):Calls prog 87 #[.pointer (some ⟨lg,0,none⟩)] w fun e w'=>e=.returned (.int .i64 (s.es.length:Int))/\w=w':=by
 obtain⟨va,vc,rfl⟩:=aJ (aj h.cr);obtain⟨k0,k1,k2,k3⟩:=h.cells;rw[h.len]at k3;clear h;go_enter func87,ntmps87;go_wp2;go_ret;exact⟨rfl,rfl⟩
set_option maxHeartbeats 1000000 in
theorem pg (h:Lay a lg d room s fs T X ft pv ev ps w) (hn:ps.length<=1000000):Calls prog 163 #[.pointer (some ⟨lg,0,none⟩)] w fun e w'=>e=.returned (.int .i64 (Lg.dd s.es))/\∃m,w'=w.drewN m:=by
 obtain⟨va,vc,rfl⟩:=aJ (aj h.cr);obtain⟨k0,k1,k2,k3⟩:=h.cells;by_cases h0:ps.length=0
 ·have HN:=ad (show Lg.dd s.es=0 by rw[<-h.plain,aP h0];rfl);rw[h0]at k3;clear h h0 hn;go_enter func163,ntmps163;go_wp2;go_ret;exact⟨by rw[HN.out];rfl,0,rfl⟩
 ·obtain⟨b,o,c,p,ep,S,ex,se,sq,sa,sl,sc,es,hv,q0,q1,q2,q3,q4,q5,q6,_,_,_,_,hpe,_⟩:=jI h.pB (ps.length-1) (by omega);cases hv;have HN:=ad (show Lg.dd s.es=ep by
   have e1:s.es[s.es.length-1]?=some ⟨p,ep,⟨S.data.toList,ex,se,sq,es⟩⟩:=by
    rw[<-h.plain,<-hpe.out];simp only[ag,List.length_map,List.getElem?_map];rw[aR (by omega)];rfl
   rw[Lg.ml e1])
  obtain⟨n,hn'⟩:∃n,ps.length-1=n:=⟨_,rfl⟩;have hpn:ps.length=n+1:=by omega
  rw[hn']at q1;rw[hpn]at k3;have hz:(((n+1:Nat):Int)==0)=false:=by rw[beq_eq_false_iff_ne];omega
  have hw1:IntKind.i64.wrap (((n+1:Nat):Int)-1)=(n:Int):=by rw[IntKind.wrap_i64];omega
  have hw2:((n:Int)).toNat=n:=by omega
  have hlt:(n:Int)<((n+1:Nat):Int):=by omega
  clear h hpe q0 q2 q3 q4 q5 q6;go_enter func163,ntmps163;go_wp2;go_quiet (fail);go_wp2;go_ret;exact⟨by rw[HN.out];rfl,_,rfl⟩
theorem zY (h:Lay a lg d room s fs T X ft pv ev ps w) (hn:ps.length<=1000000):Calls prog 163 #[.pointer (some ⟨lg,0,none⟩)] w fun e w'=>e=.returned (.int .i64 (Lg.dd s.es))/\Below w.heap.size w w' :=
 (pg h hn).mono fun _ _ ⟨h1,m,h2⟩=>⟨h1,by rw[h2];exact below_drewN (ae _ _) _⟩
theorem xe (h:Lay a lg d room s fs T X ft pv ev ps w):Calls prog 87 #[.pointer (some ⟨lg,0,none⟩)] w fun e w'=>e=.returned (.int .i64 (s.es.length:Int))/\w'=w :=
 (jM h).mono fun _ _ ⟨h1,h2⟩=>⟨h1,h2.symm⟩
theorem yt:fh prog 239 264 2:=by
 have h:(prog.info? 264).map (fun i=>(i.zero,i.size,i.bytes))=some (some (.agg #[.int .i64 0,.int .i64 0]),2,16):=by kernel_rfl
 obtain⟨i0,hi,hz0,hz1,hz2⟩:=info_parts h;exact⟨underlying239,⟨i0,_,16,hi,hz0,hz1,hz2,rfl,by omega⟩,by omega⟩
theorem lU (ps:List (Int×Int)):∀u∈aY ps,u.oneCell'=true:=by
 intro u hu;simp only[aY,List.mem_flatMap]at hu;obtain⟨p,_,hu⟩:=hu;simp only[List.mem_cons,List.not_mem_nil,or_false]at hu;rcases hu with rfl|rfl <;> rfl
set_option maxHeartbeats 1000000 in
set_option maxRecDepth 100000 in
theorem pH (v:Value) (n:Nat) (xs:List Value) (w:World) (h:Cells w v 2 n xs) (h1:∀u∈xs,u.oneCell'=true) (hn:n<=1000000) (hz:n=0->v=.slice none 0 0\/∃b o c,v=.slice (some ⟨b,o,none⟩) 0 c) :
 Calls prog 208 #[v] w fun e w'=>∃v',e=.returned v'/\Hid (w'.ownsRow w.heap.size 264 2 v' n xs)/\Below w.heap.size w w':=by
 have hcase:(n=0/\v=.slice none 0 0)\/∃b o c,v=.slice (some ⟨b,o,none⟩) n c:=by
  rcases cC h with⟨h0,_⟩|h2
  ·rcases hz h0 with h3|⟨b,o,c,h3⟩
   ·exact .inl ⟨h0,h3⟩
   ·exact .inr ⟨b,o,c,by rw[h0];exact h3⟩
  ·exact .inr h2
 have hq:∀(w:World) (a:Option Addr) (n c n' c':Nat),(binOp .eql 239 (.slice a n c) (.slice none n' c')).run prog w=.ok (.bool a.isNone) w:=fun w a n c n' c'=>Lib.run_eql_slice_nil w _ _ a n c n' c' underlying239;rcases hcase with⟨h0,rfl⟩|⟨b,o,c,rfl⟩
 ·have hx:xs=[]:=aP (by have:=h.1;omega);subst h0 hx;clear h h1 hz;go_enter func208,ntmps208;go_wp2;go_ret;exact⟨_,rfl,ad (World.ownsRow_nil _ _ _ _),ae _ _⟩
 ·have HX:=ad (h.next ((ae _ w).alloc ab (.cells #[] 264)));clear h hz;go_enter func208,ntmps208;go_wp2_with (at_builtin;refine fG rfl _ _ rfl yt w.heap.size _ 0 [] rfl (me w w.heap.size 264 2 ab) _ n xs rfl HX.out h1 ?c3 ?c2 ?_)
  case c3=>omega
  case c2=>simp
  intro v' w2 hown hg _;have HO:=ad (show w2.ownsRow w.heap.size 264 2 v' n xs by simpa using hown);have HB:=ad (((ae _ w).alloc ab (.cells #[] 264)).grown hg (by simp) (fun k hk=>by cases hk;exact ab));clear hown hg;go_wp2;go_ret;exact⟨_,rfl,HO,HB.out⟩
set_option maxHeartbeats 1000000 in
set_option maxRecDepth 100000 in
theorem mm (v:Value) (n:Nat) (xs:List Value) (w:World) (h:Cells w v 7 n xs) (h1:∀u∈xs,u.oneCell'=true) (hn:n<=1000000) (hz:n=0->v=.slice none 0 0\/∃b o c,v=.slice (some ⟨b,o,none⟩) 0 c) :
 Calls prog 139 #[v] w fun e w'=>∃v',e=.returned v'/\Hid (w'.ownsRow w.heap.size 95 7 v' n xs)/\Below w.heap.size w w':=by
 have hcase:(n=0/\v=.slice none 0 0)\/∃b o c,v=.slice (some ⟨b,o,none⟩) n c:=by
  rcases cC h with⟨h0,_⟩|h2
  ·rcases hz h0 with h3|⟨b,o,c,h3⟩
   ·exact .inl ⟨h0,h3⟩
   ·exact .inr ⟨b,o,c,by rw[h0];exact h3⟩
  ·exact .inr h2
 have hq:∀(w:World) (a:Option Addr) (n c n' c':Nat),(binOp .eql 67 (.slice a n c) (.slice none n' c')).run prog w=.ok (.bool a.isNone) w:=fun w a n c n' c'=>Lib.run_eql_slice_nil w _ _ a n c n' c' underlying67;rcases hcase with⟨h0,rfl⟩|⟨b,o,c,rfl⟩
 ·have hx:xs=[]:=aP (by have:=h.1;omega);subst h0 hx;clear h h1 hz;go_enter func139,ntmps139;go_wp2;go_ret;exact⟨_,rfl,ad (World.ownsRow_nil _ _ _ _),ae _ _⟩
 ·have HX:=ad (h.next ((ae _ w).alloc ab (.cells #[] 95)));clear h hz;go_enter func139,ntmps139;go_wp2_with (at_builtin;refine fG rfl _ _ rfl Gt w.heap.size _ 0 [] rfl (me w w.heap.size 95 7 ab) _ n xs rfl HX.out h1 ?c3 ?c2 ?_)
  case c3=>omega
  case c2=>simp
  intro v' w2 hown hg _;have HO:=ad (show w2.ownsRow w.heap.size 95 7 v' n xs by simpa using hown);have HB:=ad (((ae _ w).alloc ab (.cells #[] 95)).grown hg (by simp) (fun k hk=>by cases hk;exact ab));clear hown hg;go_wp2;go_ret;exact⟨_,rfl,HO,HB.out⟩
theorem qN:∀(ms:List (Int×Int)) (i:Nat) (hi:i<ms.length),(aY ms)[i*2]?=some (.int .i64 ms[i].1)/\(aY ms)[i*2+1]?=some (.int .i64 ms[i].2)
 |m::ms,0,_=>⟨rfl,rfl⟩
 |m::ms,i+1,hi=>by
  have:=qN ms i (by simpa using hi);have e:∀k,(aY (m::ms))[(i+1)*2+k]?=(aY ms)[i*2+k]?:=fun k=>by
   rw[show aY (m::ms)=.int .i64 m.1::.int .i64 m.2::aY ms from rfl,show(i+1)*2+k=(i*2+k)+1+1 by omega];simp only[List.getElem?_cons_succ]
  have e0:=e 0;simp only[Nat.add_zero]at e0;simp only[e,e0,List.getElem_cons_succ];exact this
theorem partAt {w:World} {v:Value} {ms:List (Int×Int)} (h:Cells w v 2 ms.length (aY ms)) (i:Nat) (hi:i<ms.length) {x y:Int} (hx:ms[i]=(x,y)) :
 ∃b o c,v=.slice (some ⟨b,o,none⟩) ms.length c/\w.cell? ⟨b,o+i*2,none⟩=some (.int .i64 x)/\w.cell? ⟨b,o+i*2+1,none⟩=some (.int .i64 y):=by
 rcases h.2 with⟨h0,_⟩|⟨b,o,c,h1,h2⟩
 ·omega
 ·have:=qN ms i hi;rw[hx]at this;exact⟨b,o,c,h1,h2 _ _ this.1,h2 _ _ this.2⟩
set_option maxHeartbeats 4000000 in
set_option maxRecDepth 100000 in
theorem wU (next:Int) (v:Value) (ps:List (Int×Int)) (w:World) (hc:Cells w v 2 ps.length (aY ps)) (hn:ps.length<=100000) :
 Calls prog 147 #[.int .i64 next,v] w fun e w'=>∃V,e=.returned (.agg #[.int .i64 next,V])/\Hid (w'.ownsRow w.heap.size 3 1 V (ps.map (·.1)).length (aE (ps.map (·.1))))/\Below w.heap.size w w':=by
 obtain⟨va,vc,rfl⟩:=aJ hc;have r0:cp w.heap.size 0 (.slice none 0 0) (w.alloc (.cells #[.int .i64 0,.slice none 0 0] 253)):=heap_alloc_new w _;have b0:Below w.heap.size w (w.alloc (.cells #[.int .i64 0,.slice none 0 0] 253)):=(ae _ _).alloc ab _;have b1:=b0.alloc b0.size (.cells #[.int .i64 next,.slice none 0 0] 253);have r1:=r0.next ((ae _ _).alloc ab (.cells #[.int .i64 next,.slice none 0 0] 253));have m1:cp (w.heap.size+1) next (.slice none 0 0) ((w.alloc (.cells #[.int .i64 0,.slice none 0 0] 253)).alloc (.cells #[.int .i64 next,.slice none 0 0] 253)):=by
  have:=heap_alloc_new (w.alloc (.cells #[.int .i64 0,.slice none 0 0] 253)) (.cells #[.int .i64 next,.slice none 0 0] 253)
  rwa [World.size_alloc]at this
 obtain⟨W,hW⟩:∃W,W=(w.alloc (.cells #[.int .i64 0,.slice none 0 0] 253)).alloc (.cells #[.int .i64 next,.slice none 0 0] 253):=⟨_,rfl⟩;rw[<-hW]at b1 r1 m1;have HW:=ad hW;have HI:=ad (aB m1 (aB r1 b1));have HC:=ad hc;clear hc r0 b0 b1 r1 m1 hW;go_enter func147,ntmps147;go_wp2;rw[<-HW.out]
 go_loopw [12] (fun lv wr=>∃(i:Nat) (V:Value),lv=.int .i64 i/\i<=ps.length/\cp (w.heap.size+1) next V wr/\cp w.heap.size 0 (.slice none 0 0) wr/\Hid (wr.ownsRow w.heap.size 3 1 V i (aE ((ps.map (·.1)).take i)))/\Below w.heap.size w wr) (fun lv _=>ps.length-(intOf lv).toNat)
 case atStart=>exact⟨0,_,rfl,by omega,HI.out.1,HI.out.2.1,ad (World.ownsRow_nil _ _ _ _),HI.out.2.2⟩
 case round =>
  obtain⟨i,V,rfl,hi,hm,hr,HO,hbw⟩:=hrel;obtain⟨Va,Vc,rfl⟩:=aJ (aj HO.out);have HM:=ad hm;have HR:=ad hr;have HB:=ad hbw;by_cases hp:i<ps.length
  ·obtain⟨⟨x,y⟩,hx⟩:∃x,ps[i]=x:=⟨_,rfl⟩;obtain⟨b,o,c,hv,k0,k1⟩:=partAt HC.out i hp hx;cases hv;have k0:=cell_kept hbw ab k0;have k1:=cell_kept hbw ab k1;have ba:Below wr.heap.size wr (wr.alloc (.cells #[.int .i64 x,.int .i64 y] 264)):=(ae _ _).alloc ab _;have bb:=ba.alloc ba.size (.cells #[.int .i64 x] 3);have hma:=hm.next ba;obtain⟨c0,c1,f0,f1⟩:=hma.cells;have HMb:=ad (hm.next bb);have HRb:=ad (hr.next bb);have HOb:=ad (bX HO.out bb);have HBb:=ad (Below.up hbw ab bb);have hxc:=uZ (wr.alloc (.cells #[.int .i64 x,.int .i64 y] 264)) 3 (.int .i64 x);rw[World.size_alloc]at hxc;have HT:=ad (show aE ((ps.map (·.1)).take i)++[.int .i64 x]=aE ((ps.map (·.1)).take (i+1))by
    rw[List.take_succ_eq_append_getElem (by simpa using hp)];simp[aE,hx])
   clear hm hr hbw ba bb hma hx HM HR HB HO;go_wp2_with (at_builtin;refine fG rfl _ _ rfl KC w.heap.size (.slice Va i Vc) i _ rfl HOb.out _ 1 [.int .i64 x] rfl hxc (by simp[Value.oneCell']) ?c3 ?c2 ?_)
   case c3=>omega
   case c2=>exact(by have:=HBb.out.size;simpa using this)
   intro v' w2 hown hg _;obtain⟨va',vc',rfl⟩:=aJ (aj hown);have hm2:=HMb.out.kept hg (mG HOb.out HMb.out (by decide)).symm;have HM3:=ad (show cp (w.heap.size+1) next (.slice va' (i+1) vc') (w2.setCell ⟨w.heap.size+1,1,none⟩ (.slice va' (i+1) vc'))from av (i:=1) hm2 (.slice va' (i+1) vc'));have HR3:=ad ((HRb.out.kept hg (mG HOb.out HRb.out (by decide)).symm).kept (az w2 (w.heap.size+1) 1 (.slice va' (i+1) vc')) (by simp));have HO3:=ad (show(w2.setCell ⟨w.heap.size+1,1,none⟩ (.slice va' (i+1) vc')).ownsRow w.heap.size 3 1 (.slice va' (i+1) vc') (i+1) (aE ((ps.map (·.1)).take (i+1)))by
    rw[<-HT.out];exact mH hown hm2 (by decide) (az w2 (w.heap.size+1) 1 (.slice va' (i+1) vc')))
   have HB3:=ad (dN (HBb.out.grown hg HBb.out.size (fun k hk=>(HOb.out.lt k hk).1)) (by have:=HBb.out.size;have:=hg.size;omega) (by omega) (az w2 (w.heap.size+1) 1 (.slice va' (i+1) vc')));obtain⟨d0,d1,g0,g1⟩:=hm2.cells;clear hown hg hm2 c0 c1 f0 f1;go_wp2;exact⟨⟨i+1,_,by go_num,by omega,HM3.out,HR3.out,HO3,HB3.out⟩,by simp[intOf];omega⟩
  ·obtain rfl:i=ps.length:=by omega
   obtain⟨c0,c1,f0,f1⟩:=hm.cells;obtain⟨e0,e1,g0,g1⟩:=hr.cells;have hp2:=av (i:=1) (av (i:=0) hr (.int .i64 next)) (.slice Va ps.length Vc);have HP:=ad (show((wr.setCell ⟨w.heap.size,0,none⟩ (.int .i64 next)).setCell ⟨w.heap.size,1,none⟩ (.slice Va ps.length Vc)).heap[w.heap.size]?=some (.cells #[.int .i64 next,(.slice Va ps.length Vc)] 253 (0,0))from hp2);have hg2:=aF (az wr w.heap.size 0 (.int .i64 next)) (az _ w.heap.size 1 (.slice Va ps.length Vc));have HO2:=ad (mH HO.out hr (by decide) hg2);have HB2:=ad (dN hbw (by have:=hbw.size;exact this) ab hg2);clear hm hr hbw hp2 hg2 HM HR HB;go_wp2;refine bodyPost_ret (results_cell_row rfl _ _ w.heap.size _ _ _ _ rfl HP.out underlying253 rfl tq) rfl ?_;exact⟨_,rfl,ad (by have h9:=HO2.out;rw[List.take_of_length_le (by simp)]at h9;simpa using h9),HB2.out⟩
end
end Go.Proofs.YtmgmknmaepjnoaaGreatDoor
