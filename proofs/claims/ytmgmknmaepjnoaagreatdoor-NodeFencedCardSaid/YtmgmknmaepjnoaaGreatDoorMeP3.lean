/-
  law17's one: a batch of one event. The law package 17's examples: shown. The walk of the law package 17's shown.
-/
import Derived.Test.YtmgmknmaepjnoaaGreatDoorRep4
import Derived.Sort.OwnSortedInts
import Derived.Maps.RangeWalk
namespace Go.Proofs.YtmgmknmaepjnoaaGreatDoor
open Go.RowKit Go.Shelf Proofs.Tryz
def Lq:(Nat->Prop)->(Nat->Prop)->World->Prop:=fun _ _ _=>True
section
def KY (a:World) (r lg d sb:Nat) (room:Int) (s:Lg.S) (fs:List Dk.ai) (st:Stat) (Q:(Nat->Prop)->World->Prop):(Nat->Prop)->(Nat->Prop)->World->Prop :=
 fun T X w=>∃TL TS,iS a r lg d sb room s fs st TL TS [] X w/\(∀j,(TL j\/TS j)->¬T j)/\Q X w
structure KX (es:List Int) (fs:List Dk.ai) (next:Int) (ar:List Int) (L:List Evt.Entry) (i k:Nat):Prop where
 h:Lg.Holds (Lg.Me es) fs next ar L
 m:al.gx 0 es
 l:es.length<=21
 e1:1<=al.iu 0 es/\al.iu 0 es<=(k:Int)
 e2:Lg.dd L<=al.iu 0 es
 n:L.length<=i
 x:next<=1+(i:Int)
structure KW (L:List Evt.Entry) (fs:List Dk.ai) (next:Int) (ar:List Int) (j:Nat):Prop where
 h:Lg.Holds [] fs next ar (L.take j)
 le:j<=L.length
 x:next<=1+(j:Int)
variable {a w w':World} {ra lga da sba rb lgb db sbb:Nat} {Q:(Nat->Prop)->World->Prop}
def KP (a:World) (ra lga da sba rb lgb db sbb:Nat) (Q:(Nat->Prop)->World->Prop) (sA sB:Lg.S) (fA fB:List Dk.ai) (w:World):Prop :=
 RR (KY a rb lgb db sbb 1048576 sB fB Stat.new Q) [] a ra lga da sba 1048576 sA fA Stat.new w
def L1 (a:World) (ra lga da sba rb lgb db sbb:Nat) (Q:(Nat->Prop)->World->Prop) (i:Nat) (w:World):Prop :=
 ∃es fs next ar L,Hid (KX es fs next ar L i (i+1))/\Hid (KP a ra lga da sba rb lgb db sbb Q (Lg.aL next ar L) (Lg.aL 1 [] []) fs [] w)
theorem fU {i n:Nat} (h:i<n):n-(intOf (.int .i64 ((i:Int)+1))).toNat<n-(intOf (.int .i64 (i:Int))).toNat:=by
 show n-((i:Int)+1).toNat<n-((i:Int)).toNat;omega
def L2 (a:World) (ra lga da sba rb lgb db sbb:Nat) (Q:(Nat->Prop)->World->Prop) (L:List Evt.Entry) (sA:Lg.S) (fA:List Dk.ai) (w:World):Prop :=
 ∃fs next ar j,Hid (KW L fs next ar j)/\Hid (KP a ra lga da sba rb lgb db sbb Q sA (Lg.aL next ar (L.take j)) fA fs w)
def L3 (a:World) (ra lga da sba rb lgb db sbb:Nat) (Q:(Nat->Prop)->World->Prop) (L:List Evt.Entry) (sA:Lg.S) (fA:List Dk.ai) (k:Nat) (w:World):Prop :=
 ∃fs next ar j,Hid (KW L fs next ar j)/\k<=j/\Hid (KP a ra lga da sba rb lgb db sbb Q sA (Lg.aL next ar (L.take j)) fA fs w)
theorem He {R:(Nat->Prop)->(Nat->Prop)->World->Prop} {r lg d sb:Nat} {room:Int} {s:Lg.S} {fs:List Dk.ai} {st:Stat} {J:List (Nat×Obj)} (h:RR R J a r lg d sb room s fs st w) (hR:aC a R) (hn:s.es.length<=1000000) (k:Nat) (hk:k<=s.es.length) :
 Calls prog 167 #[.pointer (some ⟨r,0,none⟩),.int .i64 (k:Int)] w fun e w'=>∃(p:Int) (S:ByteArray) (ex se sq:Int) (va:Option Addr) (vl vc:Nat) (B:Bool),e=.returned (.tuple #[.agg #[.int .i64 p,.int .i64 (cR s.es (k:Int)).1,.string S,.int .i64 ex,.int .i64 se,.int .i64 sq,.slice va vl vc],.bool B])/\Below w.heap.size w w':=by
 cases k with
 |zero =>
  refine(wN h hR 0 (.inl (by omega))).mono ?_;rintro e w1 ⟨rfl,hb⟩;exact⟨0,⟨#[]⟩,0,0,0,none,0,0,false,by rw[show((0:Nat):Int)=0 from rfl,Lg.rV],hb⟩
 |succ i =>
  have hx:s.es[i]?=some (s.es[i]'hk):=aR _;refine(zi h hR hn i _ hx).mono ?_;rintro e w1 ⟨⟨⟨qp,qe,⟨qs,qx,qn,qq,qes⟩⟩,qv⟩,rfl,hq,hev,hb⟩;obtain⟨va,vl,vc,hva⟩:=ee hev;have hva:qv=.slice va vl vc:=hva;subst hva;refine⟨qp,⟨qs.toArray⟩,qx,qn,qq,va,vl,vc,true,?_,hb⟩;rw[show((i+1:Nat):Int)=(i:Int)+1 by omega,Lg.uR hx,<-hq];rfl
theorem qL (q:List bu):(ag q).length=q.length:=by simp[ag]
theorem CE {w:World} {v:Value} {l:List Int} (h:Cells w v 1 l.length (aE l)) (i:Nat) (hi:i<l.length):∃(b o c:Nat),v=.slice (some ⟨b,o,none⟩) l.length c/\w.cell? ⟨b,o+i,none⟩=some (.int .i64 l[i]):=by
 rcases h.2 with⟨h0,_⟩|⟨b,o,c,h1,h2⟩
 ·omega
 ·exact⟨b,o,c,h1,h2 i _ (by simp[aE,aR hi])⟩
end
theorem Stat.EH {st:Stat} {e:Evt.Entry} (h1:Evt.bC e=true) (h2:e.pos=st.app+1):(st.apply e).2.app=e.pos:=by
 unfold Stat.apply;rw[if_neg (by rw[h1];simp),if_neg (by omega)];split
 ·rfl
 split
 ·rfl
 ·rfl
theorem Stat.oX:∀(M:List Evt.Entry) (st:Stat) (ep:Int),Evt.follows M st.app ep=true->(st.aS M).2.app=st.app+M.length
 |[],st,_,_=>by simp[Stat.aS]
 |e::l,st,ep,h=>by
  obtain⟨h1,_,h3,h4⟩:=af.dh.1 h;have ha:=Stat.EH h3 h1;have ih:=Stat.oX l (st.apply e).2 e.epoch (by rw[ha];exact h4);show((st.apply e).2.aS l).2.app=st.app+(l.length+1:Nat);omega
def W1 (a:World) (r lg d sb i:Nat) (w:World):Prop :=
 ∃es fs next ar L,Hid (KX es fs next ar L i 1)/\Hid (RR Lq [] a r lg d sb 1048576 (Lg.aL next ar L) fs Stat.new w)
set_option maxHeartbeats 1000000 in
set_option maxRecDepth 100000 in
theorem yn (v:Value) (n:Nat) (xs:List Value) (w:World) (h:Cells w v 3 n xs) (h1:∀u∈xs,u.oneCell'=true) (hn:n<=1000000) (hz:n=0->v=.slice none 0 0\/∃b o c,v=.slice (some ⟨b,o,none⟩) 0 c) :
 Calls prog 187 #[v] w fun e w'=>∃v',e=.returned v'/\Hid (w'.ownsRow w.heap.size 185 3 v' n xs)/\Below w.heap.size w w':=by
 have hcase:(n=0/\v=.slice none 0 0)\/∃b o c,v=.slice (some ⟨b,o,none⟩) n c:=by
  rcases cC h with⟨h0,_⟩|h2
  ·rcases hz h0 with h3|⟨b,o,c,h3⟩
   ·exact .inl ⟨h0,h3⟩
   ·exact .inr ⟨b,o,c,by rw[h0];exact h3⟩
  ·exact .inr h2
 have hq:∀(w:World) (a:Option Addr) (n c n' c':Nat),(binOp .eql 180 (.slice a n c) (.slice none n' c')).run prog w=.ok (.bool a.isNone) w:=fun w a n c n' c'=>Lib.run_eql_slice_nil w _ _ a n c n' c' underlying180;rcases hcase with⟨h0,rfl⟩|⟨b,o,c,rfl⟩
 ·have hx:xs=[]:=aP (by have:=h.1;omega);subst h0 hx;clear h h1 hz;go_enter func187,ntmps187;go_wp2;go_ret;exact⟨_,rfl,ad (World.ownsRow_nil _ _ _ _),ae _ _⟩
 ·have HX:=ad (h.next ((ae _ w).alloc ab (.cells #[] 185)));clear h hz;go_enter func187,ntmps187;go_wp2_with (at_builtin;refine fG rfl _ _ rfl I1 w.heap.size _ 0 [] rfl (me w w.heap.size 185 3 ab) _ n xs rfl HX.out h1 ?c3 ?c2 ?_)
  case c3=>omega
  case c2=>simp
  intro v' w2 hown hg _;have HO:=ad (show w2.ownsRow w.heap.size 185 3 v' n xs by simpa using hown);have HB:=ad (((ae _ w).alloc ab (.cells #[] 185)).grown hg (by simp) (fun k hk=>by cases hk;exact ab));clear hown hg;go_wp2;go_ret;exact⟨_,rfl,HO,HB.out⟩
theorem Bg {R:(Nat->Prop)->(Nat->Prop)->World->Prop} {a w:World} {r lg d sb:Nat} {room:Int} {s:Lg.S} {fs:List Dk.ai} {st:Stat} {J:List (Nat×Obj)} {P:Nat->World->Prop} (h:RR R J a r lg d sb room s fs st w)
 (hc:Calls prog 86 #[.pointer (some ⟨sb,0,none⟩)] w fun e w'=>∃c,e=.returned (.pointer (some ⟨c,0,none⟩))/\Hid (P c w')/\Below w.heap.size w w') :
 Calls prog 40 #[.pointer (some ⟨r,0,none⟩)] w fun e w'=>∃c,e=.returned (.pointer (some ⟨c,0,none⟩))/\Hid (P c w')/\Below w.heap.size w w':=by
 obtain⟨k0,k1,k2⟩:=h.box.cells;have HC:=ad hc;clear h hc;go_enter func40,ntmps40;go_wp2_with fail;refine HC.out.mono ?_;rintro e w1 ⟨c,rfl,hp,hb⟩;have HB:=ad hb;clear HC hb;go_wp2;go_ret;exact⟨c,rfl,hp,HB.out⟩
def lS (w:World) (x:Nat) (f:cg) (N:Nat) (ft:Nat->Prop):Prop:=∃bm D g ev,eE w x bm D g f ev N ft
theorem lS.kept {w w':World} {x N:Nat} {f:cg} {ft:Nat->Prop} (h:lS w x f N ft) (hk:∀j,j<w.heap.size->ft j->w'.heap[j]?=w.heap[j]?):lS w' x f N ft:=by
 obtain⟨bm,D,g,ev,hm⟩:=h;exact⟨bm,D,g,ev,hm.kept hk⟩
theorem lS.next {w w':World} {x N:Nat} {f:cg} {ft:Nat->Prop} (h:lS w x f N ft) (hb:Below w.heap.size w w'):lS w' x f N ft:=h.kept fun j hj _=>hb.block j hj
theorem eE.has {w:World} {x bm n:Nat} {D:DataW Value} {g:List UInt8->Value} {f:cg} {ev:Int} {ft:Nat->Prop} (h:eE w x bm D g f ev n ft) (k:List UInt8):Maps.has D (.string k)=true↔f k≠[]:=by
 obtain⟨h1,h2,h3,h4,h5,h6,h7,h8⟩:=h;constructor
 ·intro hh e;rw[Maps.has_false_of_atKey (h8 k e)]at hh;cases hh
 ·intro hf;cases e:Maps.has D (.string k)with
  |true=>rfl
  |false =>
   have a1:=h5 k;rw[Maps.atKey_of_not_has e]at a1;have a2:=(h6 k).1;simp only[DataW.held.injEq]at a1;rw[<-a1]at a2;obtain⟨_,_,a3⟩:=iO a2;simp only[Value.slice.injEq]at a3;exact(hf (List.length_eq_zero_iff.1 a3.2.1.symm)).elim
theorem eE.store {w W w3:World} {x bm n B:Nat} {D:DataW Value} {g:List UInt8->Value} {f:cg} {ev:Int} {ft:Nat->Prop} {nm:List UInt8} {v:Value} {l:List (Int×Evt.Event)}
 (h:eE w x bm D g f ev n ft) (hf:f nm=[]) (hW:Below w.heap.size w W) (hown:W.ownsRow B 185 3 v l.length (eY l)) (hB:w.heap.size<=B) (hl:l≠[]) (hln:l.length<=n) {n3:Nat} (hn:n<=n3)
 (hmap:w3.ownsMap prog 9 bJ bm n3 (D.put (.string nm) (.held v))) (hg3:W.grownBy w3 (some bm)) :
 eE w3 x bm (D.put (.string nm) (.held v)) (fun k=>if k=nm then v else g k) (fun k=>if k=nm then l else f k) ev n3 (fun j=>ft j\/(B<=j/\j<w3.heap.size)):=by
 obtain⟨h1,h2,h3,h4,h5,h6,h7,h8⟩:=h;have hx:=(aA.1 h1).1;have hm:=h2.lt;have hxm:x≠bm:=by
  intro e;obtain⟨es,c,hh,_⟩:=h2;rw[<-e,h1]at hh;cases hh
 have keep3:∀j,j<w.heap.size->j≠bm->w3.heap[j]?=w.heap[j]?:=fun j hj hb=>(hg3.block j (Nat.lt_of_lt_of_le hj hW.size) (by simpa using hb)).trans (hW.block j hj);have hvb:∀b,v.ownBlock=some b->B<=b/\b<W.heap.size:=hown.lt;refine⟨(keep3 x hx hxm).trans h1,hmap,.inl h3,.inl h4,fun k=>?_,fun k=>?_,fun k k' b hb hb'=>?_,fun k hk0 z=>?_⟩
 ·by_cases hk:k=nm
  ·subst hk;simp only[if_true];exact Maps.atKey_put_same h2.isMap (by trivial) _ _
  ·simp only[if_neg hk];rw[Maps.atKey_put_other (by simpa using hk)];exact h5 k
 ·by_cases hk:k=nm
  ·subst hk;simp only[if_true];refine⟨(bV hown (Nat.zero_le _)).kept hg3 ?_,by omega,fun b hb=>?_⟩
   ·by_cases e:v.ownBlock=some bm
    ·have:=(hvb bm e).1;omega
    ·exact .inr e
   ·have:=hvb b hb;exact⟨.inr ⟨this.1,Nat.lt_of_lt_of_le this.2 hg3.size⟩,by omega,by omega⟩
  ·simp only[if_neg hk];refine⟨fv (h6 k).1 fun b hb hlb=>keep3 b hlb ((h6 k).2.2 b hb).2.2,Nat.le_trans (h6 k).2.1 hn,fun b hb=>⟨.inl ((h6 k).2.2 b hb).1,((h6 k).2.2 b hb).2⟩⟩
 ·have jN:∀k b,k≠nm->(g k).ownBlock=some b->v.ownBlock=some b->False:=fun k b hk hb hv=>by
   have l1:=(hvb b hv).1;have l2:=((h6 k).1.lt b hb).2;omega
  by_cases hk:k=nm <;> by_cases hk':k'=nm
  ·rw[hk,hk']
  ·simp only[if_pos hk]at hb;simp only[if_neg hk']at hb';exact(jN k' b hk' hb' hb).elim
  ·simp only[if_neg hk]at hb;simp only[if_pos hk']at hb';exact(jN k b hk hb hb').elim
  ·simp only[if_neg hk]at hb;simp only[if_neg hk']at hb';exact h7 k k' b hb hb'
 ·by_cases hk:k=nm
  ·simp only[if_pos hk]at hk0;exact(hl hk0).elim
  ·rw[Maps.atKey_put_other (by simpa using hk)];simp only[if_neg hk]at hk0;exact h8 k hk0 z
theorem uO {α:Type} (g:α->List Value) (sz:Nat) (hg:∀x,(g x).length=sz):∀(xs:List α) (i j:Nat) (hi:i<xs.length),j<sz->(xs.flatMap g)[i*sz+j]?=(g xs[i])[j]?
 |x::xs,0,j,_,hj=>by
  rw[List.flatMap_cons,Nat.zero_mul,Nat.zero_add,List.getElem?_append_left (by rw[hg];exact hj)];rfl
 |x::xs,i+1,j,hi,hj=>by
  rw[List.flatMap_cons,show(i+1)*sz+j=sz+(i*sz+j)by rw[Nat.add_mul,Nat.one_mul];omega,List.getElem?_append_right (by rw[hg];omega),hg,Nat.add_sub_cancel_left];exact uO g sz hg xs i j (by simpa using hi) hj
theorem xy {α:Type} {w:World} {v:Value} (g:α->List Value) (sz:Nat) (hg:∀x,(g x).length=sz) {xs:List α} (h:Cells w v sz xs.length (xs.flatMap g)) (i:Nat) (hi:i<xs.length) :
 ∃b o c,v=.slice (some ⟨b,o,none⟩) xs.length c/\∀j u,j<sz->(g xs[i])[j]?=some u->w.cell? ⟨b,o+i*sz+j,none⟩=some u:=by
 rcases h.2 with⟨h0,_⟩|⟨b,o,c,h1,h2⟩
 ·omega
 ·refine⟨b,o,c,h1,fun j u hj hu=>?_⟩;have:=h2 (i*sz+j) u (by rw[uO g sz hg xs i j hi hj];exact hu);rw[show o+i*sz+j=o+(i*sz+j)by omega];exact this
theorem vH (l:List (Int×Evt.Event)):∀u∈eY l,u.oneCell'=true:=by
 intro u hu;obtain⟨p,_,hp⟩:=List.mem_flatMap.1 hu;simp only[List.mem_cons,List.not_mem_nil,or_false]at hp;rcases hp with rfl|rfl|rfl <;> rfl
theorem eE.La {w:World} {x bm n:Nat} {D:DataW Value} {g:List UInt8->Value} {f:cg} {ev:Int} {ft:Nat->Prop} (h:eE w x bm D g f ev n ft) (m:Int) :
 eE (w.setCell ⟨x,1,none⟩ (.int .i64 m)) x bm D g f m n ft/\w.grownBy (w.setCell ⟨x,1,none⟩ (.int .i64 m)) (some x):=by
 obtain⟨h1,h2,h3,h4,h5,h6,h7⟩:=h;have hg:w.grownBy (w.setCell ⟨x,1,none⟩ (.int .i64 m)) (some x):=az _ _ _ _;have hxm:bm≠x:=by
  intro e;obtain⟨es,c,hh,_⟩:=h2;rw[e,h1]at hh;cases hh
 exact⟨⟨av (i:=1) h1 _,cG h2 (hg.block bm h2.lt (by simpa using hxm)),h3,h4,h5,fun k=>⟨fv (h6 k).1 fun b hb hl=>hg.block b hl (by simpa using ((h6 k).2.2 b hb).2.1),(h6 k).2⟩,h7⟩,hg⟩
theorem Ba (j x:List UInt8):(Lit.string j).sameKey (.string x)=decide (j=x):=by
 simp only[Lit.sameKey];by_cases e:j=x <;> simp[e]
def mg (f:cg) (left:Lit->Bool):cg:=fun k=>if left (.string k) then [] else f k
theorem DZ {f:cg} {left:Lit->Bool} (h:∀kl,left kl=false):mg f left=f:=by
 funext k;unfold mg;rw[h];rfl
theorem DX {f:cg} {left:Lit->Bool} {x:List UInt8} (h:left (.string x)=true):(fun k=>if k=x then f x else mg f left k)=mg f (fun z=>left z&&!z.sameKey (.string x)):=by
 funext k;show(if k=x then f x else if left (.string k)=true then [] else f k)=if (left (.string k)&&!(Lit.string k).sameKey (.string x))=true then [] else f k
 rw[Ba];by_cases e:k=x
 ·subst e;simp
 ·simp[e]
set_option maxHeartbeats 4000000 in
set_option maxRecDepth 100000 in
theorem vI (x:Nat) (f:cg) (n:Nat) (ft:Nat->Prop) (w:World) (h:kz w x f n ft) (hn:n<=100000) :
 Calls prog 137 #[.pointer (some ⟨x,0,none⟩)] w fun e w'=>∃x2 ft2,e=.returned (.pointer (some ⟨x2,0,none⟩))/\Hid (lS w' x2 f (n+n) ft2)/\Hid (∀j,ft2 j->w.heap.size<=j)/\Below w.heap.size w w':=by
 obtain⟨bm,D,g,hM⟩:=eE.of h;have HM:=ad hM;have HN:=ad (rk w);clear h hM;go_enter func137,ntmps137;go_wp2_with fail;refine HN.out.mono ?_;rintro e w1 ⟨x2,rfl,hx2,hb1⟩;obtain⟨bm2,D2,g2,hm2⟩:=eE.of hx2;have hM1:=HM.out.next hb1;have k1:w1.cell? ⟨x,1,none⟩=some (.int .i64 (n:Int)):=aq hM1.1 rfl;have fr:=ay hm2.1 1;have x1:w1.cell? ⟨x2,1,none⟩=some (.int .i64 ((0:Nat):Int)):=aq hm2.1 rfl;obtain⟨hm3,hg3⟩:=hm2.La (n:Int);have hb2:Below w.heap.size w (w1.setCell ⟨x2,1,none⟩ (.int .i64 (n:Int))):=hb1.grown hg3 hb1.size (fun j hj=>by cases hj;exact hx2.choose_spec.choose_spec.choose_spec.2.2.1.1);have hM2:=HM.out.next hb2;have k0:(w1.setCell ⟨x2,1,none⟩ (.int .i64 (n:Int))).cell? ⟨x,0,none⟩=some (.map (some bm)):=aq hM2.1 rfl;have hown0:=hM2.2.1;obtain⟨r,hr⟩:∃r,(w1.setCell ⟨x2,1,none⟩ (.int .i64 (n:Int))).heap.size=r:=⟨_,rfl⟩;have HR:=ad (show w.heap.size<=r/\r=w1.heap.size from⟨by rw[<-hr];exact hb2.size,by rw[<-hr];simp[World.size_setCell]⟩);have H3:=ad (aB hm3 hb2);clear HN hM1 hM2 hm3 hm2 hx2 hb1 hb2 hg3;go_wp2_with (first
  |(at_range;refine wpList_range_own _ rfl _ 181 rfl 9 180 dP underlying181 bJ bm n D rfl hown0 ?_;intro w0 hrg0 hg0 hs0)
  |fail)
 go_frame
 rw[hr]at hrg0;try rw[hr]
 try rw[<-HR.out.2]
 have hgb:Below w.heap.size w w0:=H3.out.2.grown hg0 H3.out.2.size (fun j hj=>by cases hj);have hY0:eE w0 x2 bm2 D2 g2 (fun _=>[]) (n:Int) 0 (fun j=>w.heap.size<=j/\j<w1.heap.size):=H3.out.1.kept fun j hj _=>hg0.block j hj (by simp);have HI:=ad (aB hrg0 (aB hY0 hgb));clear hrg0 hY0 hgb hg0 hs0 k0 k1 x1 fr hown0 hr H3
 go_loopw [4] (fun _ wr=>∃(left:Lit->Bool) (cnt:Nat) (ft2:Nat->Prop),wr.ranges prog 9 bJ bm r n D left cnt/\cnt<=n/\Hid (lS wr x2 (mg f left) (n+(n-cnt)) ft2)/\Hid (∀j,ft2 j->w.heap.size<=j/\j≠r)/\Below w.heap.size w wr) (fun _ wr=>wr.rangeLeft bm r)
 case atStart =>
  obtain⟨q1,q2,q3⟩:=HI.out;have hsz:=q1.owns.size_le;refine⟨_,_,fun j=>w.heap.size<=j/\j<w1.heap.size,q1,hsz,ad ⟨bm2,D2,g2,(n:Int),?_⟩,ad (fun j hj=>⟨hj.1,by have:=HR.out;omega⟩),q3⟩;have e:mg f (Maps.has D)=fun _=>[]:=by
   funext k;unfold mg;by_cases e:Maps.has D (.string k)=true
   ·rw[if_pos e]
   ·rw[if_neg e];cases hc:f k with
    |nil=>rfl
    |cons a l=>exact(e ((HM.out.has k).2 (by rw[hc];simp))).elim
  rw[e];obtain⟨h1,h2,h3,h4,h5,h6,h7⟩:=q2;exact⟨h1,h2.mono (Nat.zero_le _),h3,h4,h5,fun k=>⟨(h6 k).1,Nat.le_trans (h6 k).2.1 (Nat.zero_le _),(h6 k).2.2⟩,h7⟩
 case round =>
  obtain⟨left,cnt,ft2,hrg,hcs,HY,HF2,hnx⟩:=hrel;have HRG:=ad hrg;have HNX:=ad hnx;clear hnx;go_wp2_with (first
   |(at_next;refine wpList_next_ranges _ rfl _ rfl 9 dP bJ (fun x:List UInt8=>Value.string ⟨x.toArray⟩) (fun v:Value=>v) (fun key kl hk=>by obtain⟨x,hx,_⟩:=Maps.keyOf_str underlying9 hk;exact⟨x,hx⟩) (fun v y hv=>⟨v,rfl⟩) bm r n D left cnt rfl hrg ?_ ?_)
   |fail)
  ·intro hc0 hl0;clear hrg;go_wp2;go_ret;refine⟨x2,ft2,rfl,ad ?_,ad fun j hj=>(HF2.out j hj).1,HNX.out⟩;have:=HY.out;rw[DZ hl0,hc0]at this;exact this
  ·intro y c kl yy yp wA cnt1 hkx hlx hRc hat hrg1 hlt hg1 hs1 hen;obtain⟨y',hy',rfl,hxl⟩:=Maps.keyOf_str underlying9 hkx;obtain rfl:y=y':=by simpa[encStr]using hy'
   have hbA:Below w.heap.size w wA:=HNX.out.grown hg1 HNX.out.size (fun j hj=>by cases hj;exact HR.out.1);have hMA:=HM.out.next hbA.drew;have hgc:g y=c:=by
    have a1:=hMA.2.2.2.2.1 y;rw[hat]at a1;rw[a1]at hRc;exact(ld hRc).symm
   have hfy:f y≠[]:=(hMA.has y).1 (Maps.has_true_of_atKey hat);obtain⟨hrow,hlen,_⟩:=hMA.2.2.2.2.2.1 y;rw[hgc]at hrow;have hln:(f y).length≠0:=fun e=>hfy (List.length_eq_zero_iff.1 e);have HCL:=ad (yn c (f y).length (eY (f y)) wA.drew (aj hrow) (vH _) (by omega) (fun e=>(hln e).elim));obtain⟨va,vc,rfl⟩:=iO hrow;obtain⟨bY,DY,gY,evY,hmY⟩:=HY.out;have hYA:eE wA x2 bY DY gY (mg f left) evY (n+(n-cnt)) ft2:=hmY.kept fun j hj hf=>hg1.block j hj (by simpa using (HF2.out j hf).2);have xA:wA.drew.cell? ⟨x2,0,none⟩=some (.map (some bY)):=by rw[aw (show wA.drew.heap[x2]?=_ from hYA.1)];rfl
   have HA:=ad (aB hYA (aB hbA (aB hrg1 (aB hlx hfy))));have HL:=ad (aB hcs (aB hlt (aB hlen hrg1.lt)));have HNi:=ad (show n+(n-cnt)<maxLen by unfold maxLen;omega);have HXL:=ad (show(⟨y.toArray⟩:ByteArray).size<=maxLen by rw[Lib.size_eq];exact hxl);clear hgc hfy hrow hln hMA hmY hYA hbA hrg1 hkx hat hRc hlx hy' hxl hrg hs1 hg1 hlen hlt;go_upto_region 6 with fail
   go_region_held3 (fun Z=>Z.cell? ⟨x2,0,none⟩=some (.map (some bY))) (first|exact xA|exact xB|exact xC) (first
    | (go_at_call 187
       refine HCL.out.mono ?_;rintro e wB ⟨v', rfl, hown, hbB0⟩;have hbB : Below wA.heap.size wA wB := (ae _ wA).drew.trans hbB0;have hmB := HA.out.1.next hbB;have xB : wB.cell? ⟨x2, 0, none⟩ = some (.map (some bY)) := aq hmB.1 rfl;obtain ⟨wC, hmu, hownC, hgC⟩ := hmB.2.1.update dP underlying181 HNi.out (WideMaps.keyOf_string_mk (s := ⟨y.toArray⟩) underlying9 HXL.out) (val := v') (d := .held v') (ps := []) rfl;have hst := HA.out.1.store (W := wB) (w3 := wC) (B := wA.heap.size) (n3 := n + (n - cnt1)) (by unfold mg; rw [if_pos HA.out.2.2.2.1]) hbB hown.out ab HA.out.2.2.2.2 (by have := HL.out; omega) (by have := HL.out; omega) (hownC.mono (by have := HL.out; omega)) hgC;rw [DX HA.out.2.2.2.1] at hst;have xC : wC.cell? ⟨x2, 0, none⟩ = some (.map (some bY)) := aq hst.1 rfl;have hne := HA.out.2.2.1.ne;have hbm := HA.out.2.2.1.owns.lt;have hrgC := (HA.out.2.2.1.kept (bZ hbB) (by simp) (by simp)).kept hgC (fun e => by have := Option.some.inj e; have := (HF2.out bY HA.out.1.2.2.2.1).1; have := HM.out.2.1.lt; omega) (fun e => (HF2.out bY HA.out.1.2.2.2.1).2 (Option.some.inj e).symm);have HFIN := ad (aB hst (aB hrgC ((HA.out.2.1.trans (hbB.mono HA.out.2.1.size)).grown hgC (HA.out.2.1.trans (hbB.mono HA.out.2.1.size)).size (fun j hj => by cases hj; exact (HF2.out _ HA.out.1.2.2.2.1).1))));clear hmB hownC hgC hst hrgC hown hbB hbB0 hne hbm))
   all_goals go_wp2
   all_goals go_roundw
   all_goals first
    |exact⟨_,cnt1,_,HFIN.out.2.1,by have:=HL.out;omega,ad ⟨_,_,_,_,HFIN.out.1⟩,ad (fun j hj=>by
     rcases hj with hj|hj
     ·exact HF2.out j hj
     ·have:=HL.out;have:=HA.out.2.1.size;exact⟨by omega,by omega⟩),HFIN.out.2.2⟩
    |(rw[HFIN.out.2.1.left_eq,HRG.out.left_eq];exact HL.out.2.1)
theorem Bb (j x:Int):(Lit.int .i64 j).sameKey (.int .i64 x)=decide (j=x):=by
 simp only[Lit.sameKey];by_cases e:j=x <;> simp[e]
def mf (S:dU) (left:Lit->Bool):dU:=fun k=>if left (.int .i64 k) then none else S k
theorem DW {S:dU} {left:Lit->Bool} (h:∀kl,left kl=false):mf S left=S:=by
 funext k;unfold mf;rw[h];rfl
theorem DV {S:dU} {left:Lit->Bool} {x hi:Int} {O:Int->Option cI} (hS:S x=some (hi,O)) (h:left (.int .i64 x)=true):(fun k=>if k=x then some (hi,O) else mf S left k)=mf S (fun z=>left z&&!z.sameKey (.int .i64 x)):=by
 funext k;show(if k=x then some (hi,O) else if left (.int .i64 k)=true then none else S k)=if (left (.int .i64 k)&&!(Lit.int .i64 k).sameKey (.int .i64 x))=true then none else S k
 rw[Bb];by_cases e:k=x
 ·subst e;simp[hS]
 ·simp[e]
theorem Az (b n:Nat) (D:DataW Value) (w:World) (h:w.ownsMap prog 3 bJ b n D) :
 Calls prog 188 #[.map (some b)] w fun e w'=>e=.returned (.map (some w.heap.size))/\Hid (w'.ownsMap prog 3 bJ w.heap.size n D)/\Below w.heap.size w w' :=
 (AnyW.maps_Clone_owns Tryz.KM 3 bJ b n D w h).mono fun _ _ hh=>⟨hh.1,ad hh.2.1,hh.2.2.2⟩
theorem eS.KL {w wB w':World} {t n n' bm:Nat} {S:dU} {ft fo:Nat->Prop} {D D0:DataW Value} {gs go:Int->Nat} {k hi:Int} {O:Int->Option cI}
 (h1:w.heap[t]?=some (.cells #[.map (some bm)] 274 (0,0))) (h2:w.ownsMap prog 3 bJ bm n D) (h3:ft t) (h4:ft bm)
 (h5:∀k,S k=none->∀z,D.atKey (.int .i64 k) z=z)
 (h6:∀k hi O,S k=some (hi,O)->D.atKey (.int .i64 k) (.held (.pointer none))=.held (.pointer (some ⟨gs k,0,none⟩))/\gP w (gs k) hi O n (go k) ft/\go k≠bm)
 (h7:∀k k' x x',S k=some x->S k'=some x'->(gs k=gs k'\/go k=go k')->k=k') (hS:S k=none)
 (hO:∀q,(O q=none->∀z,D0.atKey (.int .i64 q) z=z)/\(∀o,O q=some o->∃b,D0.atKey (.int .i64 q) (.held (.pointer none))=.held (.pointer (some ⟨b,0,none⟩))/\cX w b o/\fo b))
 (hb:Below w.heap.size w wB) (hm:wB.ownsMap prog 3 bJ w.heap.size n D0) (hn:n<=n')
 (hM:w'.ownsMap prog 3 bJ bm n' (D.put (.int .i64 k) (.held (.pointer (some ⟨wB.heap.size,0,none⟩)))))
 (hg:(wB.alloc (.cells #[.int .i64 hi,.map (some w.heap.size)] 277)).grownBy w' (some bm)) :
 eS w' t (fun j=>if j=k then some (hi,O) else S j) n' (fun j=>ft j\/fo j\/(w.heap.size<=j/\j<w'.heap.size)):=by
 have hlt:=h2.lt;have hmB:=hm.lt;have bA:Below w.heap.size w (wB.alloc (.cells #[.int .i64 hi,.map (some w.heap.size)] 277)):=hb.alloc hb.size _;have hz:(wB.alloc (.cells #[.int .i64 hi,.map (some w.heap.size)] 277)).heap.size=wB.heap.size+1:=by simp[World.size_alloc]
 have hs:=heap_alloc_new wB (.cells #[.int .i64 hi,.map (some w.heap.size)] 277);have hgz:=hg.size;have tv:∀j,j<w.heap.size->j≠bm->w'.heap[j]?=w.heap[j]?:=fun j hj e=>(hg.block j (by omega) (by simpa using e)).trans (bA.block j hj);refine eS.qj (w':=w') (sb:=wB.heap.size) (bo:=w.heap.size) h1 h2 h3 h4 h5 h6 h7 hM (fun j hj _=>Maps.atKey_put_other (by simpa using hj) _ _) (Maps.atKey_put_same h2.isMap (by trivial) _ _) ?_ hn (fun j hj=>.inl hj) (fun j hj hf e1 e2 e3=>tv j hj e1) (.inl ⟨hS,by omega,ab⟩);refine⟨D0,(hg.block _ (by omega) (by simp;omega)).trans hs,(cG (hm.alloc _) (hg.block _ (by omega) (by simp;omega))).mono hn,.inr (.inr ⟨by omega,by omega⟩),.inr (.inr ⟨ab,by omega⟩),fun q=>⟨(hO q).1,fun o ho=>?_⟩⟩;obtain⟨b,b1,b2,b3⟩:=(hO q).2 o ho;exact⟨b,b1,(tv b (aA.1 b2).1 (gi (x:=[.int .i64 o.code,.int .i64 o.pos,.int .i64 o.first,.int .i64 o.version]) b2 h2)).trans b2,.inr (.inl b3)⟩
set_option maxHeartbeats 4000000 in
set_option maxRecDepth 100000 in
theorem vS (t:Nat) (S:dU) (n:Nat) (ft:Nat->Prop) (w:World) (h:eS w t S n ft) (hn:n<=100000) :
 Calls prog 138 #[.pointer (some ⟨t,0,none⟩)] w fun e w'=>∃t2 ft2,e=.returned (.pointer (some ⟨t2,0,none⟩))/\Hid (eS w' t2 S (n+n) ft2)/\Below w.heap.size w w':=by
 obtain⟨bm,D,gs,go,h1,h2,h3,h4,h5,h6,h7⟩:=h.narrow;have H0:=ad (aB h1 (aB h2 (aB h5 (aB h6 (aB h3 h4)))));have HN:=ad (rC w);clear h h1 h2 h3 h4 h5 h6 h7;go_enter func138,ntmps138;go_wp2_with fail;refine HN.out.mono ?_;rintro e w1 ⟨t2,bm2,rfl,ht2,hm2,hz1,hz2,hz3,hb1⟩;have k0:w1.cell? ⟨t,0,none⟩=some (.map (some bm)):=aq ((hb1.block t (aA.1 H0.out.1).1).trans H0.out.1) rfl;have hown0:=cG H0.out.2.1 (hb1.block bm H0.out.2.1.lt);obtain⟨r,hr⟩:∃r,w1.heap.size=r:=⟨_,rfl⟩;have HR:=ad (show w.heap.size<=r/\bm2<r/\t2<r from⟨by rw[<-hr];exact hb1.size,by omega,by omega⟩);have HZ:=ad (aB hz1 hz2);have H3:=ad (aB (CD (ft:=fun j=>w.heap.size<=j/\j<r) ht2 hm2 ⟨by omega,by omega⟩ ⟨by omega,by omega⟩) (aB hb1 ht2));clear HN hm2 ht2 hb1 hz1 hz2 hz3;go_wp2_with (first
  |(at_range;refine wpList_range_own _ rfl _ 272 rfl 3 271 i6 underlying272 bJ bm n D rfl hown0 ?_;intro w0 hrg0 hg0 hs0)
  |fail)
 go_frame
 rw[hr]at hrg0;try rw[hr]
 have hgb:Below w.heap.size w w0:=H3.out.2.1.grown hg0 H3.out.2.1.size (fun j hj=>by cases hj);have hY0:eS w0 t2 (fun _=>none) 0 (fun j=>w.heap.size<=j/\j<r):=H3.out.1.kept fun j hj _=>hg0.block j hj (by simp);have HI:=ad (aB hrg0 (aB hY0 (aB hgb ((hg0.block t2 (aA.1 H3.out.2.2).1 (by simp)).trans H3.out.2.2))));clear hrg0 hY0 hgb hg0 hs0 k0 hown0 hr H3
 go_loopw [4] (fun _ wr=>∃(left:Lit->Bool) (cnt:Nat) (ft2:Nat->Prop),wr.ranges prog 3 bJ bm r n D left cnt/\cnt<=n/\Hid (eS wr t2 (mf S left) (n+(n-cnt)) ft2)/\Hid (∀j,ft2 j->(ft j/\j<w.heap.size)\/(w.heap.size<=j/\j≠r))/\Hid (wr.heap[t2]?=some (.cells #[.map (some bm2)] 274 (0,0)))/\Below w.heap.size w wr) (fun _ wr=>wr.rangeLeft bm r)
 case atStart =>
  obtain⟨q1,q2,q3,q4⟩:=HI.out;have hsz:=q1.owns.size_le;refine⟨_,_,fun j=>w.heap.size<=j/\j<r,q1,hsz,ad ?_,ad (fun j hj=>.inr ⟨hj.1,by omega⟩),ad q4,q3⟩;have e:mf S (Maps.has D)=fun _=>none:=by
   funext k;unfold mf;by_cases e:Maps.has D (.int .i64 k)=true
   ·rw[if_pos e]
   ·rw[if_neg e];cases hc:S k with
    |none=>rfl
    |some x =>
     have a1:=(H0.out.2.2.2.1 k x.1 x.2 hc).1;rw[Maps.atKey_of_not_has (by simpa using e)]at a1;simp at a1
  rw[e];exact q2.mono (Nat.zero_le _)
 case round =>
  obtain⟨left,cnt,ft2,hrg,hcs,HY,HF2,HT2,hnx⟩:=hrel;have HRG:=ad hrg;have HNX:=ad hnx;clear hnx;go_wp2_with (first
   |(at_next;refine wpList_next_ranges _ rfl _ rfl 3 i6 bJ (fun x:Int=>Value.int .i64 x) (fun v:Value=>v) (fun key kl hk=>by obtain⟨x,hx,_⟩:=Maps.keyOf_i64 underlying3 hk;exact⟨x,hx⟩) (fun v y hv=>⟨v,rfl⟩) bm r n D left cnt rfl hrg ?_ ?_)
   |fail)
  ·intro hc0 hl0;clear hrg;go_wp2;go_ret;refine⟨t2,ft2,rfl,ad ?_,HNX.out⟩;have:=HY.out;rw[DW hl0,hc0]at this;exact this
  ·intro y c kl yy yp wA cnt1 hkx hlx hRc hat hrg1 hlt hg1 hs1 hen;obtain⟨y',hy',rfl,hyw⟩:=Maps.keyOf_i64 underlying3 hkx;obtain rfl:y=y':=by simpa using hy'
   have hbA:Below w.heap.size w wA:=HNX.out.grown hg1 HNX.out.size (fun j hj=>by cases hj;exact HR.out.1);obtain⟨hi,O,hSy⟩:∃hi O,S y=some (hi,O):=by
    cases hc:S y with
    |some x=>exact⟨x.1,x.2,rfl⟩
    |none =>
     have a1:=H0.out.2.2.1 y hc .nil;have a2:=H0.out.2.2.1 y hc (.lit (.bool true));rw[hat]at a1 a2;rw[a1]at a2;cases a2
   obtain⟨e1,⟨D0,s1,s2,s3,s4,s5⟩,e3⟩:=H0.out.2.2.2.1 y hi O hSy;have hgc:c=.pointer (some ⟨gs y,0,none⟩):=by
    rw[hat]at e1;rw[e1]at hRc;exact ld hRc
   subst hgc;obtain⟨sb,hsb⟩:∃sb,gs y=sb:=⟨_,rfl⟩;obtain⟨bo,hbo⟩:∃bo,go y=bo:=⟨_,rfl⟩;rw[hsb]at s1 hen ⊢;rw[hbo]at s1 s2;have s1A:=(hbA.block sb (aA.1 s1).1).trans s1;have s2A:=cG s2 (hbA.block bo s2.lt);have hOA:∀q,(O q=none->∀z,D0.atKey (.int .i64 q) z=z)/\(∀o,O q=some o->∃b,D0.atKey (.int .i64 q) (.held (.pointer none))=.held (.pointer (some ⟨b,0,none⟩))/\cX wA b o/\(ft b/\b<w.heap.size)):=fun q=>⟨(s5 q).1,fun o ho=>by
    obtain⟨b,b1,b2,b3⟩:=(s5 q).2 o ho;exact⟨b,b1,(hbA.block b (aA.1 b2).1).trans b2,b3⟩⟩
   have HCL:=ad (Az bo n D0 wA.drew s2A);have hTA:eS wA t2 (mf S left) (n+(n-cnt)) ft2:=HY.out.kept fun j hj hf=>hg1.block j hj (by
    rcases HF2.out j hf with q|q
    ·have:=HR.out.1;simp;omega
    ·simpa using q.2)
   obtain⟨bY,DY,gY,oY,y1,y2,y3,y4,y5,y6,y7⟩:=hTA;obtain rfl:bY=bm2:=by
    have e:=(hg1.block t2 (aA.1 HT2.out).1 (by have:=HR.out.2.2;simp;omega)).trans HT2.out;rw[y1]at e;simpa using e
   have xA:wA.drew.cell? ⟨t2,0,none⟩=some (.map (some bY)):=by rw[aw (show wA.drew.heap[t2]?=_ from y1)];rfl
   have zA:wA.drew.cell? ⟨sb,0,none⟩=some (.int .i64 hi):=by rw[aw (show wA.drew.heap[sb]?=_ from s1A)];rfl
   have uA:wA.drew.cell? ⟨sb,1,none⟩=some (.map (some bo)):=by rw[aw (show wA.drew.heap[sb]?=_ from s1A)];rfl
   have HA:=ad (aB y1 (aB y2 (aB y3 (aB y4 (aB y5 (aB y6 y7))))));have HB:=ad (aB hbA (aB hrg1 (aB hlx (aB hSy (aB s1A hOA)))));have HL:=ad (aB hcs (aB hlt hrg1.lt));have HNi:=ad (show n+(n-cnt)<maxLen by unfold maxLen;omega);have HYW:=ad hyw;clear y1 y2 y3 y4 y5 y6 y7 hbA hrg1 hkx hat hRc hlx hy' hyw hrg hs1 hg1 hlt e1 e3 s1 s2 s3 s4 s5 s1A s2A hOA hSy hsb hbo;go_upto_region 5 with fail
   go_region_held3 (fun Z=>Z.cell? ⟨t2,0,none⟩=some (.map (some bY))/\Z.cell? ⟨sb,0,none⟩=some (.int .i64 hi)/\Z.cell? ⟨sb,1,none⟩=some (.map (some bo))) (first|exact⟨xA,zA,uA⟩|exact XB|exact XD|exact XC) (first
    | (go_at_call 188
       refine HCL.out.mono ?_;rintro e wB ⟨rfl, hown, hbB0⟩;have hbB : Below wA.heap.size wA wB := (ae _ wA).drew.trans hbB0;have y1B := (hbB.block t2 (aA.1 HA.out.1).1).trans HA.out.1;have s1B := (hbB.block sb (aA.1 HB.out.2.2.2.2.1).1).trans HB.out.2.2.2.2.1;have XB : wB.cell? ⟨t2, 0, none⟩ = some (.map (some bY)) /\ wB.cell? ⟨sb, 0, none⟩ = some (.int .i64 hi) /\ wB.cell? ⟨sb, 1, none⟩ = some (.map (some bo)) := by
         refine⟨?_,?_,?_⟩
         · rw [aw y1B]; rfl
         · rw [aw s1B]; rfl
         · rw [aw s1B]; rfl
       obtain ⟨wD, hwD⟩ : ∃ wD, wB.alloc (.cells #[.int .i64 hi, .map (some wA.heap.size)] 277) = wD := ⟨_, rfl⟩;have hbD : Below wB.heap.size wB wD := by rw [<- hwD]; exact (ae _ wB).alloc ab _
       have y1D := (hbD.block t2 (aA.1 y1B).1).trans y1B;have s1D := (hbD.block sb (aA.1 s1B).1).trans s1B;have y2D : wD.ownsMap prog 3 bJ bY (n + (n - cnt)) DY := cG HA.out.2.1 ((hbD.block bY (by have := HA.out.2.1.lt; have := hbB.size; simp at *; omega)).trans (hbB.block bY HA.out.2.1.lt));obtain ⟨wC, hmu, hownC, hgC⟩ := y2D.update i6 underlying272 HNi.out (Maps.keyOf_int_mk underlying3 HYW.out) (val := .pointer (some ⟨wB.heap.size, 0, none⟩)) (d := .held (.pointer (some ⟨wB.heap.size, 0, none⟩))) (ps := []) rfl;have hne1 : t2 ≠ bY := gi (x := [.map (some bY)]) y1D y2D;have hne2 : sb ≠ bY := gi (x := [.int .i64 hi, .map (some bo)]) s1D y2D;have y1C := (hgC.block t2 (aA.1 y1D).1 (by simpa using hne1)).trans y1D;have s1C := (hgC.block sb (aA.1 s1D).1 (by simpa using hne2)).trans s1D;have XC : wC.cell? ⟨t2, 0, none⟩ = some (.map (some bY)) /\ wC.cell? ⟨sb, 0, none⟩ = some (.int .i64 hi) /\ wC.cell? ⟨sb, 1, none⟩ = some (.map (some bo)) := by
         refine⟨?_,?_,?_⟩
         · rw [aw y1C]; rfl
         · rw [aw s1C]; rfl
         · rw [aw s1C]; rfl
       have XD : wD.cell? ⟨t2, 0, none⟩ = some (.map (some bY)) /\ wD.cell? ⟨sb, 0, none⟩ = some (.int .i64 hi) /\ wD.cell? ⟨sb, 1, none⟩ = some (.map (some bo)) := by
         refine⟨?_,?_,?_⟩
         · rw [aw y1D]; rfl
         · rw [aw s1D]; rfl
         · rw [aw s1D]; rfl
       have hst := eS.KL (n' := n + (n - cnt1)) HA.out.1 HA.out.2.1 HA.out.2.2.1 HA.out.2.2.2.1 HA.out.2.2.2.2.1 HA.out.2.2.2.2.2.1 HA.out.2.2.2.2.2.2 (k := y) (hi := hi) (O := O) (by unfold mf; rw [if_pos HB.out.2.2.1]) HB.out.2.2.2.2.2 hbB (hown.out.mono (by omega)) (by have := HL.out; omega) (hownC.mono (by have := HL.out; omega)) (by rw [hwD]; exact hgC);rw [DV HB.out.2.2.2.1 HB.out.2.2.1] at hst;have hbm := H0.out.2.1.lt;have hbmY : bm ≠ bY := by have := HZ.out.1; omega
       have hrgC := (HB.out.2.1.kept (bZ (hbB.trans (hbD.mono hbB.size))) (by simp) (by simp)).kept hgC (fun e => hbmY (Option.some.inj e)) (fun e => by have := Option.some.inj e; have := HR.out.2.1; omega);have HFIN := ad (aB hst (aB hrgC (aB (((HB.out.1.trans (hbB.mono HB.out.1.size)).trans (hbD.mono (Nat.le_trans HB.out.1.size hbB.size))).grown hgC (Nat.le_trans HB.out.1.size (Nat.le_trans hbB.size hbD.size)) (fun j hj => by cases hj; exact HZ.out.1)) y1C)));clear y1B s1B hbD y1D s1D y2D hownC hgC hst hrgC hown hbB hbB0 hne1 hne2 hbm y1C s1C hbmY))
   all_goals go_wp2
   all_goals go_roundw
   all_goals first
    |exact⟨_,cnt1,_,HFIN.out.2.1,by have:=HL.out;omega,ad HFIN.out.1,ad (fun j hj=>by
     rcases hj with hj|hj|hj
     ·exact HF2.out j hj
     ·exact .inl hj
     ·have:=HL.out;have:=HB.out.1.size;exact .inr ⟨by omega,by omega⟩),ad HFIN.out.2.2.2,HFIN.out.2.2.1⟩
    |(rw[HFIN.out.2.1.left_eq,HRG.out.left_eq];exact HL.out.2.1)
def mZ (w:World) (c:Nat) (st:Stat):Prop:=∃x t fx fq,we w c x t st.app/\lS w x st.f (st.n+st.n) fx/\eS w t st.S (st.m+st.m) fq
theorem mZ.next {w w':World} {c:Nat} {st:Stat} (h:mZ w c st) (hb:Below w.heap.size w w'):mZ w' c st:=by
 obtain⟨x,t,fx,fq,h1,h2,h3⟩:=h;exact⟨x,t,fx,fq,(hb.block c (aA.1 h1).1).trans h1,h2.next hb,h3.next hb⟩
def KV (w:World) (c:Nat) (st:Stat):Prop:=∃x t fx,we w c x t st.app/\lS w x st.f (st.n+st.n) fx
def LA (B:Nat) (w:World) (c:Nat) (st:Stat):Prop:=B<=c/\∃x t fx,we w c x t st.app/\lS w x st.f (st.n+st.n) fx/\∀j,fx j->B<=j
theorem mZ.w {w:World} {c:Nat} {st:Stat} (h:mZ w c st):KV w c st:=by
 obtain⟨x,t,fx,fq,h1,h2,h3⟩:=h;exact⟨x,t,fx,h1,h2⟩
theorem tU (sb:Nat) (st:Stat) (ft:Nat->Prop) (w:World) (h:jf w sb st ft) (hn:st.n<=100000) (hm:st.m<=100000) :
 Calls prog 86 #[.pointer (some ⟨sb,0,none⟩)] w fun e w'=>∃c,e=.returned (.pointer (some ⟨c,0,none⟩))/\(Hid (mZ w' c st)/\Hid (LA w.heap.size w' c st))/\Below w.heap.size w w':=by
 obtain⟨x,t,fx,fq,h⟩:=h;have hsb:=(aA.1 h.box).1;have hS:∀Z:World,Below w.heap.size w Z->Z.cell? ⟨sb,0,none⟩=some (.pointer (some ⟨x,0,none⟩))/\Z.cell? ⟨sb,1,none⟩=some (.pointer (some ⟨t,0,none⟩))/\Z.cell? ⟨sb,2,none⟩=some (.int .i64 st.app):=fun Z hZ=>by
  have:=(hZ.block sb hsb).trans h.box;refine⟨?_,?_,?_⟩ <;> (rw[aw this];rfl)
 have HS:=ad hS;have HX:=ad (vI x st.f st.n fx w.drew (h.ix.next (ae _ w).drew) hn);have HT:=ad (fun (Z:World) (hZ:Below w.heap.size w Z)=>vS t st.S st.m fq Z (h.tb.next hZ) hm);have h0:=hS w.drew (ae _ w).drew;have HB0:=ad (show Below w.heap.size w w.drew from(ae _ w).drew);clear h hS hsb;go_enter func86,ntmps86;go_upto_region 1 with fail
 go_region_held3 (fun Z=>Z.cell? ⟨sb,0,none⟩=some (.pointer (some ⟨x,0,none⟩))/\Z.cell? ⟨sb,1,none⟩=some (.pointer (some ⟨t,0,none⟩))/\Z.cell? ⟨sb,2,none⟩=some (.int .i64 st.app))
  (first|exact h0|exact h1|exact h2|exact h3)
  (first
   | (go_at_call 137
      refine HX.out.mono ?_;rintro e w1 ⟨x2, fx2, rfl, hY, hYN, hb1⟩;have HB1 := ad (show Below w.heap.size w w1 from HB0.out.trans (hb1.mono HB0.out.size));have h1 := HS.out w1 HB1.out;clear hb1)
   | (go_at_call 138
      refine (HT.out w1 HB1.out).mono ?_;rintro e w2 ⟨t2, ft2, rfl, hT2, hb2⟩;have HB2 := ad (show Below w.heap.size w w2 from HB1.out.trans (hb2.mono HB1.out.size));have h2 := HS.out w2 HB2.out;have HB3 := ad (show Below w.heap.size w (w2.alloc (.cells #[.pointer (some ⟨x2, 0, none⟩), .pointer (some ⟨t2, 0, none⟩), .int .i64 st.app] 120)) from HB2.out.alloc HB2.out.size _);have h3 := HS.out _ HB3.out;have HC := ad (show mZ (w2.alloc (.cells #[.pointer (some ⟨x2, 0, none⟩), .pointer (some ⟨t2, 0, none⟩), .int .i64 st.app] 120)) w2.heap.size st from
        ⟨x2,t2,_,_,heap_alloc_new w2 _,(hY.out.next hb2).next ((ae _ w2).alloc ab _),hT2.out.next ((ae _ w2).alloc ab _)⟩)
      have HCV := ad (show LA w.heap.size (w2.alloc (.cells #[.pointer (some ⟨x2, 0, none⟩), .pointer (some ⟨t2, 0, none⟩), .int .i64 st.app] 120)) w2.heap.size st from
        ⟨HB2.out.size,x2,t2,_,heap_alloc_new w2 _,(hY.out.next hb2).next ((ae _ w2).alloc ab _),hYN.out⟩)
      clear hb2))
 go_wp2;go_ret;exact⟨_,rfl,⟨HC,HCV⟩,HB3.out⟩
theorem vr (sb:Nat) (st:Stat) (ft:Nat->Prop) (w:World) (h:jf w sb st ft) (hn:st.n<=100000) (hm:st.m<=100000) :
 Calls prog 86 #[.pointer (some ⟨sb,0,none⟩)] w fun e w'=>∃c,e=.returned (.pointer (some ⟨c,0,none⟩))/\Hid (mZ w' c st)/\Below w.heap.size w w' :=
 (tU sb st ft w h hn hm).mono fun _ _ ⟨c,e,h,hb⟩=>⟨c,e,h.1,hb⟩
theorem uw {w:World} {bm n:Nat} {D:DataW Value} {g:List UInt8->Value} (h:w.ownsMap prog 9 bJ bm n D) (hg:∀k,D.atKey (.string k) (.held (.slice none 0 0))=.held (g k)) (nm:ByteArray) (hs:nm.size<=maxLen) :
 (Instr.lookup 181 (.map (some bm)) (.string nm) false).run prog w=.ok (g nm.data.toList) w:=by
 obtain⟨v,ps,hrun,hR⟩:=h.lookup dP underlying181 (wv w) (zd:=.held (.slice none 0 0)) (zp:=[]) rfl (WideMaps.keyOf_string_mk (s:=nm) underlying9 hs);rw[hg]at hR;rw[hrun,ld hR]
theorem lS.look {w:World} {x N:Nat} {f:cg} {ft:Nat->Prop} (h:lS w x f N ft) (nm:List UInt8) (hs:nm.length<=maxLen) :
 ∃bm a c,w.cell? ⟨x,0,none⟩=some (.map (some bm))/\(Instr.lookup 181 (.map (some bm)) (.string ⟨nm.toArray⟩) false).run prog w=.ok (.slice a (f nm).length c) w /\
  Cells w (.slice a (f nm).length c) 3 (f nm).length (eY (f nm))/\(f nm).length<=N:=by
 obtain⟨bm,D,g,ev,h1,h2,h3,h4,h5,h6,h7⟩:=h;have hrun:=uw h2 h5 ⟨nm.toArray⟩ (by rw[Lib.size_eq];exact hs);obtain⟨a,c,hv⟩:=iO (h6 nm).1;have hc:=aj (h6 nm).1;have hrun:(Instr.lookup 181 (.map (some bm)) (.string ⟨nm.toArray⟩) false).run prog w=.ok (g nm) w:=hrun;rw[hv]at hrun hc;exact⟨bm,a,c,aq h1 rfl,hrun,hc,(h6 nm).2.1⟩
theorem GS (x:Nat) (f:cg) (N:Nat) (ft:Nat->Prop) (nm:List UInt8) (w:World) (h:lS w x f N ft) (hs:nm.length<=maxLen) :
 Calls prog 43 #[.pointer (some ⟨x,0,none⟩),.string ⟨nm.toArray⟩] w fun e w'=>e=.returned (.int .i64 ((f nm).length:Nat))/\w'=w:=by
 obtain⟨bm,a,c,d0,hrun,_,_⟩:=h.look nm hs;go_enter func43,ntmps43;go_wp2;go_ret;exact⟨rfl,rfl⟩
theorem Ad {w:World} {v:Value} {l:List (Int×Evt.Event)} (h:Cells w v 3 l.length (eY l)) (i:Nat) (hi:i<l.length) :
 ∃b o c,v=.slice (some ⟨b,o,none⟩) l.length c/\w.cell? ⟨b,o+i*3,none⟩=some (.int .i64 l[i].1)/\w.cell? ⟨b,o+i*3+1,none⟩=some (.string ⟨l[i].2.kind.toArray⟩)/\w.cell? ⟨b,o+i*3+2,none⟩=some (.string ⟨l[i].2.data.toArray⟩):=by
 obtain⟨b,o,c,h1,h2⟩:=xy (fun p:Int×Evt.Event=>[Value.int .i64 p.1,.string ⟨p.2.kind.toArray⟩,.string ⟨p.2.data.toArray⟩]) 3 (fun _=>rfl) h i hi;exact⟨b,o,c,h1,h2 0 _ (by omega) rfl,h2 1 _ (by omega) rfl,h2 2 _ (by omega) rfl⟩
end Go.Proofs.YtmgmknmaepjnoaaGreatDoor
