/-
  An index at a block (its streams, each a row of its own); index.New, Version.
-/
import Derived.Test.YtmgmknmaepjnoaaGreatDoorSegs
import Derived.Lib.SlKeysI
import Derived.Deep.AppendLies
import Derived.Deep.CutBlock
namespace Go.Proofs.YtmgmknmaepjnoaaGreatDoor
open Go.RowKit Go.Shelf Proofs.Tryz
def bJ (v:Value):Option (DataW Value×List MemPlace):=some (.held v,[])
theorem ld {v u:Value} {ps:List MemPlace} (h:bJ v=some (.held u,ps)):v=u:=by
 simp only[bJ,Option.some.injEq,Prod.mk.injEq,DataW.held.injEq]at h;exact h.1
def eY (l:List (Int×Evt.Event)):List Value:=l.flatMap fun p=>[.int .i64 p.1,.string ⟨p.2.kind.toArray⟩,.string ⟨p.2.data.toArray⟩]
abbrev cg:=List UInt8->List (Int×Evt.Event)
def kz (w:World) (x:Nat) (f:cg) (n:Nat) (ft:Nat->Prop):Prop :=
 ∃(bm:Nat) (D:DataW Value) (g:List UInt8->Value),
  w.heap[x]?=some (.cells #[.map (some bm),.int .i64 (n:Int)] 183 (0,0))/\w.ownsMap prog 9 bJ bm n D/\ft x/\ft bm /\
  (∀k,D.atKey (.string k) (.held (.slice none 0 0))=.held (g k)) /\
  (∀k,w.ownsRow 0 185 3 (g k) (f k).length (eY (f k))/\(f k).length<=n/\∀b,(g k).ownBlock=some b->ft b/\b≠x/\b≠bm) /\
  (∀k k' b,(g k).ownBlock=some b->(g k').ownBlock=some b->k=k')/\(∀k,f k=[]->∀z,D.atKey (.string k) z=z)
theorem cG {w w':World} {bm n:Nat} {k:TypeId} {D:DataW Value} (h:w.ownsMap prog k bJ bm n D) (he:w'.heap[bm]?=w.heap[bm]?):w'.ownsMap prog k bJ bm n D:=by
 obtain⟨es,c,h1,h2⟩:=h;exact⟨es,c,he.trans h1,h2⟩
theorem fv {w w':World} {B:Nat} {e:TypeId} {sz n:Nat} {v:Value} {xs:List Value} (h:w.ownsRow B e sz v n xs) (he:∀b,v.ownBlock=some b->b<w.heap.size->w'.heap[b]?=w.heap[b]?):w'.ownsRow B e sz v n xs:=by
 rcases h with⟨h1,h2|⟨g,cap,cur,h2,h3,h4,h5⟩⟩
 ·exact⟨h1,.inl h2⟩
 ·exact⟨h1,.inr ⟨g,cap,cur,h2,h3,(he g (by rw[h2];rfl) (aA.1 h4).1).trans h4,h5⟩⟩
theorem kz.kept {w w':World} {x:Nat} {f:cg} {n:Nat} {ft:Nat->Prop} (h:kz w x f n ft) (hk:∀j,j<w.heap.size->ft j->w'.heap[j]?=w.heap[j]?):kz w' x f n ft:=by
 obtain⟨bm,D,g,h1,h2,h3,h4,h5,h6,h7⟩:=h;exact⟨bm,D,g,(hk x (aA.1 h1).1 h3).trans h1,cG h2 (hk bm h2.lt h4),h3,h4,h5,fun k=>⟨fv (h6 k).1 fun b hb hl=>hk b hl ((h6 k).2.2 b hb).1,(h6 k).2⟩,h7⟩
theorem kz.next {w w':World} {x:Nat} {f:cg} {n:Nat} {ft:Nat->Prop} (h:kz w x f n ft) (hb:Below w.heap.size w w'):kz w' x f n ft:=h.kept fun j hj _=>hb.block j hj
theorem wv (w:World):(zeroValue 180).run prog w=.ok (.slice none 0 0) w:=by kernel_rfl
theorem nD {w:World} {bm n:Nat} {D:DataW Value} {g:List UInt8->Value} (h:w.ownsMap prog 9 bJ bm n D) (hg:∀k,D.atKey (.string k) (.held (.slice none 0 0))=.held (g k)) (nm:ByteArray) (hs:nm.size<=1000000000000) :
 (Instr.lookup 181 (.map (some bm)) (.string nm) false).run prog w=.ok (g nm.data.toList) w:=by
 obtain⟨v,ps,hrun,hR⟩:=h.lookup dP underlying181 (wv w) (zd:=.held (.slice none 0 0)) (zp:=[]) rfl (WideMaps.keyOf_string_mk (s:=nm) underlying9 (by unfold maxLen;omega));rw[hg]at hR;rw[hrun,ld hR]
theorem iO {w:World} {B:Nat} {e:TypeId} {sz n:Nat} {v:Value} {xs:List Value} (h:w.ownsRow B e sz v n xs):∃a c,v=.slice a n c:=by
 rcases h.2 with⟨rfl,rfl⟩|⟨g,cap,cur,rfl,_⟩
 ·exact⟨_,_,rfl⟩
 ·exact⟨_,_,rfl⟩
theorem rk (w:World) :
 Calls prog 153 #[] w fun e w'=>∃x,e=.returned (.pointer (some ⟨x,0,none⟩))/\kz w' x (fun _=>[]) 0 (fun j=>w.heap.size<=j/\j<w'.heap.size)/\Below w.heap.size w w':=by
 have hmm:=@run_makeMap prog;go_enter func153,ntmps153;go_wp2;go_ret;refine⟨w.heap.size+1,rfl,?_,((ae _ _).alloc ab _).alloc (by simp) _⟩;have hm:=World.ownsMap_made w prog 9 bJ;have ha:=heap_alloc_new (w.alloc (.map #[] 0)) (.cells #[.map (some w.heap.size),.int .i64 0] 183);rw[World.size_alloc]at ha;exact⟨w.heap.size,.map [],fun _=>.slice none 0 0,ha,hm.alloc _,⟨by omega,by simp⟩,⟨by omega,by simp;omega⟩,fun k=>rfl,fun k=>⟨⟨rfl,.inl ⟨rfl,rfl⟩⟩,ab,fun b hb=>by cases hb⟩,fun k k' b hb=>(by cases hb),fun k _ z=>rfl⟩
theorem tx (x:Nat) (f:cg) (n:Nat) (ft:Nat->Prop) (nm:ByteArray) (w:World) (h:kz w x f n ft) (hs:nm.size<=1000000000000) :
 Calls prog 43 #[.pointer (some ⟨x,0,none⟩),.string nm] w fun e w'=>e=.returned (.int .i64 ((f nm.data.toList).length:Nat))/\w=w':=by
 obtain⟨bm,D,g,h1,h2,h3,h4,h5,h6,h7⟩:=h;have d0:w.cell? ⟨x,0,none⟩=some (.map (some bm)):=aq h1 rfl;have hrun:=nD h2 h5 nm hs;obtain⟨a,c,hv⟩:=iO (h6 nm.data.toList).1;rw[hv]at hrun;clear h1 h2 h3 h4 h5 h6 h7 hv;go_enter func43,ntmps43;go_wp2;go_ret;exact⟨rfl,rfl⟩
theorem rC (w:World) :
 Calls prog 154 #[] w fun e w'=>∃t bm,e=.returned (.pointer (some ⟨t,0,none⟩))/\w'.heap[t]?=some (.cells #[.map (some bm)] 274 (0,0))/\w'.ownsMap prog 3 bJ bm 0 (.map [])/\w.heap.size<=bm/\bm<t/\t<w'.heap.size/\Below w.heap.size w w':=by
 have hmm:=@run_makeMap prog;go_enter func154,ntmps154;go_wp2;go_ret;have hm:=World.ownsMap_made w prog 3 bJ;have ha:=heap_alloc_new (w.alloc (.map #[] 0)) (.cells #[.map (some w.heap.size)] 274);rw[World.size_alloc]at ha;exact⟨w.heap.size+1,w.heap.size,rfl,ha,hm.alloc _,by omega,by omega,by simp,((ae _ _).alloc ab _).alloc (by simp) _⟩
structure cI where
 code:Int
 pos:Int
 first:Int
 version:Int
deriving DecidableEq,Inhabited
abbrev dU:=Int->Option (Int×(Int->Option cI))
def cX (w:World) (b:Nat) (o:cI):Prop:=w.heap[b]?=some (.cells #[.int .i64 o.code,.int .i64 o.pos,.int .i64 o.first,.int .i64 o.version] 89 (0,0))
def gP (w:World) (sb:Nat) (hi:Int) (O:Int->Option cI) (n:Nat) (bo:Nat) (ft:Nat->Prop):Prop :=
 ∃(D:DataW Value),w.heap[sb]?=some (.cells #[.int .i64 hi,.map (some bo)] 277 (0,0))/\w.ownsMap prog 3 bJ bo n D/\ft sb/\ft bo /\
  ∀q,(O q=none->∀z,D.atKey (.int .i64 q) z=z)/\(∀o,O q=some o->∃b,D.atKey (.int .i64 q) (.held (.pointer none))=.held (.pointer (some ⟨b,0,none⟩))/\cX w b o/\ft b)
def eS (w:World) (t:Nat) (S:dU) (n:Nat) (ft:Nat->Prop):Prop :=
 ∃(bm:Nat) (D:DataW Value) (gs go:Int->Nat),w.heap[t]?=some (.cells #[.map (some bm)] 274 (0,0))/\w.ownsMap prog 3 bJ bm n D/\ft t/\ft bm /\
  (∀k,S k=none->∀z,D.atKey (.int .i64 k) z=z) /\
  (∀k hi O,S k=some (hi,O)->D.atKey (.int .i64 k) (.held (.pointer none))=.held (.pointer (some ⟨gs k,0,none⟩))/\gP w (gs k) hi O n (go k) ft/\go k≠bm) /\
  (∀k k' x x',S k=some x->S k'=some x'->(gs k=gs k'\/go k=go k')->k=k')
theorem cX.kept {w w':World} {b:Nat} {o:cI} {ft:Nat->Prop} (h:cX w b o) (hf:ft b) (hk:∀j,j<w.heap.size->ft j->w'.heap[j]?=w.heap[j]?):cX w' b o:=(hk b (aA.1 h).1 hf).trans h
theorem gP.kept {w w':World} {sb n bo:Nat} {hi:Int} {O:Int->Option cI} {ft:Nat->Prop} (h:gP w sb hi O n bo ft) (hk:∀j,j<w.heap.size->ft j->w'.heap[j]?=w.heap[j]?):gP w' sb hi O n bo ft:=by
 obtain⟨D,h1,h2,h3,h4,h5⟩:=h;refine⟨D,(hk sb (aA.1 h1).1 h3).trans h1,cG h2 (hk bo h2.lt h4),h3,h4,fun q=>⟨(h5 q).1,fun o ho=>?_⟩⟩;obtain⟨b,a1,a2,a3⟩:=(h5 q).2 o ho;exact⟨b,a1,a2.kept a3 hk,a3⟩
theorem eS.kept {w w':World} {t n:Nat} {S:dU} {ft:Nat->Prop} (h:eS w t S n ft) (hk:∀j,j<w.heap.size->ft j->w'.heap[j]?=w.heap[j]?):eS w' t S n ft:=by
 obtain⟨bm,D,gs,go,h1,h2,h3,h4,h5,h6,h7⟩:=h;exact⟨bm,D,gs,go,(hk t (aA.1 h1).1 h3).trans h1,cG h2 (hk bm h2.lt h4),h3,h4,h5,fun k hi O hS=>⟨(h6 k hi O hS).1,(h6 k hi O hS).2.1.kept hk,(h6 k hi O hS).2.2⟩,h7⟩
theorem eS.next {w w':World} {t n:Nat} {S:dU} {ft:Nat->Prop} (h:eS w t S n ft) (hb:Below w.heap.size w w'):eS w' t S n ft:=h.kept fun j hj _=>hb.block j hj
theorem CD {w:World} {t bm:Nat} {ft:Nat->Prop} (h1:w.heap[t]?=some (.cells #[.map (some bm)] 274 (0,0))) (h2:w.ownsMap prog 3 bJ bm 0 (.map [])) (h3:ft t) (h4:ft bm):eS w t (fun _=>none) 0 ft :=
 ⟨bm,.map [],fun _=>0,fun _=>0,h1,h2,h3,h4,fun _ _ _=>rfl,fun _ _ _ h=>(by cases h),fun _ _ _ _ h=>(by cases h)⟩
theorem i6:Maps.Keyed prog 3:=Maps.int_keyed underlying3
theorem EO (w:World):(zeroValue 271).run prog w=.ok (.pointer none) w:=by kernel_rfl
theorem EP (w:World):(zeroValue 278).run prog w=.ok (.pointer none) w:=by kernel_rfl
theorem lK {w:World} {bm n:Nat} {D:DataW Value} {k:Int} {u:Value} (h:w.ownsMap prog 3 bJ bm n D) (hu:D.atKey (.int .i64 k) (.held (.pointer none))=.held u) (hk:(Lit.int .i64 k).wf=true) :
 (Instr.lookup 272 (.map (some bm)) (.int .i64 k) false).run prog w=.ok u w:=by
 obtain⟨v,ps,hrun,hR⟩:=h.lookup i6 underlying272 (EO w) (zd:=.held (.pointer none)) (zp:=[]) rfl (Maps.keyOf_int_mk underlying3 hk);rw[hu]at hR;rw[hrun,ld hR]
theorem wY {w:World} {bm n:Nat} {D:DataW Value} {k:Int} {u:Value} (h:w.ownsMap prog 3 bJ bm n D) (hu:D.atKey (.int .i64 k) (.held (.pointer none))=.held u) (hk:(Lit.int .i64 k).wf=true) :
 (Instr.lookup 275 (.map (some bm)) (.int .i64 k) false).run prog w=.ok u w:=by
 obtain⟨v,ps,hrun,hR⟩:=h.lookup i6 underlying275 (EP w) (zd:=.held (.pointer none)) (zp:=[]) rfl (Maps.keyOf_int_mk underlying3 hk);rw[hu]at hR;rw[hrun,ld hR]
def bR (S:dU) (k q:Int):cI×Int :=
 if q<1 then (⟨0,0,0,0⟩,2) else
 match S k with
 |none=>(⟨0,0,0,0⟩,0)
 |some (hi,O)=>if q<=hi-8 then (⟨0,0,0,0⟩,2) else match O q with
  |none=>(⟨0,0,0,0⟩,0)
  |some o=>(o,1)
def lV (o:cI):Value:=.agg #[.int .i64 o.code,.int .i64 o.pos,.int .i64 o.first,.int .i64 o.version]
theorem eN:(prog.info? 89).map (·.size)=some 4:=by kernel_rfl
theorem kJ {b:Nat} {u0 u1 u2 u3:Value} {w:World} (h:w.heap[b]?=some (.cells #[u0,u1,u2,u3] 89 (0,0))) (v0 v1 v2 v3:Value) :
 ((((w.setCell ⟨b,0,none⟩ v0).setCell ⟨b,1,none⟩ v1).setCell ⟨b,2,none⟩ v2).setCell ⟨b,3,none⟩ v3).heap[b]?=some (.cells #[v0,v1,v2,v3] 89 (0,0)) :=
 av (i:=3) (av (i:=2) (av (i:=1) (av (i:=0) h _) _) _) _
set_option maxHeartbeats 2000000 in
theorem ym (t:Nat) (S:dU) (n:Nat) (ft:Nat->Prop) (k q:Int) (w:World) (h:eS w t S n ft) (hk:(Lit.int .i64 k).wf=true) (hq:q<1) :
 Calls prog 104 #[.pointer (some ⟨t,0,none⟩),.int .i64 k,.int .i64 q] w fun e w'=>e=.returned (.tuple #[lV (bR S k q).1,.int .i64 (bR S k q).2])/\Below w.heap.size w w':=by
 obtain⟨bm,D,gs,go,h1,h2,h3,h4,h5,h6,h7⟩:=h;have hb0:=(ae _ w).alloc ab (.cells #[.int .i64 0,.int .i64 0,.int .i64 0,.int .i64 0] 89);have d0:(w.alloc (.cells #[.int .i64 0,.int .i64 0,.int .i64 0,.int .i64 0] 89)).cell? ⟨t,0,none⟩=some (.map (some bm)):=by
  rw[aw (au hb0 ab h1)];rfl
 obtain⟨u,hu⟩:∃u,D.atKey (.int .i64 k) (.held (.pointer none))=.held u:=by
  cases hS:S k with
  |none=>exact⟨_,h5 k hS _⟩
  |some x=>exact⟨_,(h6 k x.1 x.2 hS).1⟩
 have hrun:=lK (w:=w.alloc (.cells #[.int .i64 0,.int .i64 0,.int .i64 0,.int .i64 0] 89)) (h2.alloc _) hu hk;have HQ:=ad (show bR S k q=(⟨0,0,0,0⟩,2)by unfold bR;rw[if_pos hq]);clear h1 h2 h3 h4 h5 h6 h7 hu;go_enter func104,ntmps104;go_wp2;refine bodyPost_ret (aO rfl _ _ w.heap.size _ _ _ _ rfl (heap_alloc_new w _) underlying89 rfl eN) rfl ?_;exact⟨by rw[HQ.out];rfl,(ae _ w).alloc ab _⟩
set_option maxHeartbeats 2000000 in
theorem vR (t:Nat) (S:dU) (n:Nat) (ft:Nat->Prop) (k q:Int) (w:World) (h:eS w t S n ft) (hk:(Lit.int .i64 k).wf=true) (hq:¬q<1) (hS:S k=none) :
 Calls prog 104 #[.pointer (some ⟨t,0,none⟩),.int .i64 k,.int .i64 q] w fun e w'=>e=.returned (.tuple #[lV (bR S k q).1,.int .i64 (bR S k q).2])/\Below w.heap.size w w':=by
 obtain⟨bm,D,gs,go,h1,h2,h3,h4,h5,h6,h7⟩:=h;have hb0:=(ae _ w).alloc ab (.cells #[.int .i64 0,.int .i64 0,.int .i64 0,.int .i64 0] 89);have d0:(w.alloc (.cells #[.int .i64 0,.int .i64 0,.int .i64 0,.int .i64 0] 89)).cell? ⟨t,0,none⟩=some (.map (some bm)):=by
  rw[aw (au hb0 ab h1)];rfl
 have hrun:=lK (w:=w.alloc (.cells #[.int .i64 0,.int .i64 0,.int .i64 0,.int .i64 0] 89)) (h2.alloc _) (h5 k hS _) hk;have HQ:=ad (show bR S k q=(⟨0,0,0,0⟩,0)by unfold bR;rw[if_neg hq,hS]);clear h1 h2 h3 h4 h5 h6 h7;go_enter func104,ntmps104;go_wp2;refine bodyPost_ret (aO rfl _ _ w.heap.size _ _ _ _ rfl (heap_alloc_new w _) underlying89 rfl eN) rfl ?_;exact⟨by rw[HQ.out];rfl,(ae _ w).alloc ab _⟩
set_option maxHeartbeats 4000000 in
theorem vQ (t:Nat) (S:dU) (n:Nat) (ft:Nat->Prop) (k q hi:Int) (O:Int->Option cI) (w:World) (h:eS w t S n ft) (hk:(Lit.int .i64 k).wf=true) (hqw:(Lit.int .i64 q).wf=true) (hq:¬q<1) (hS:S k=some (hi,O)) (hh:0<=hi/\hi<=1000000000000) :
 Calls prog 104 #[.pointer (some ⟨t,0,none⟩),.int .i64 k,.int .i64 q] w fun e w'=>e=.returned (.tuple #[lV (bR S k q).1,.int .i64 (bR S k q).2])/\Below w.heap.size w w':=by
 obtain⟨bm,D,gs,go,h1,h2,h3,h4,h5,h6,h7⟩:=h;obtain⟨e1,⟨D2,s1,s2,s3,s4,s5⟩,e3⟩:=h6 k hi O hS;obtain⟨sb,hsb⟩:∃sb,gs k=sb:=⟨_,rfl⟩;obtain⟨bo,hbo⟩:∃bo,go k=bo:=⟨_,rfl⟩;rw[hsb]at e1 s1;rw[hbo]at s1 s2;have hb0:=(ae _ w).alloc ab (.cells #[.int .i64 0,.int .i64 0,.int .i64 0,.int .i64 0] 89);have d0:(w.alloc (.cells #[.int .i64 0,.int .i64 0,.int .i64 0,.int .i64 0] 89)).cell? ⟨t,0,none⟩=some (.map (some bm)):=by
  rw[aw (au hb0 ab h1)];rfl
 have s1':=au hb0 ab s1;have d1:(w.alloc (.cells #[.int .i64 0,.int .i64 0,.int .i64 0,.int .i64 0] 89)).cell? ⟨sb,0,none⟩=some (.int .i64 hi):=by
  rw[aw s1'];rfl
 have d2:(w.alloc (.cells #[.int .i64 0,.int .i64 0,.int .i64 0,.int .i64 0] 89)).cell? ⟨sb,1,none⟩=some (.map (some bo)):=by
  rw[aw s1'];rfl
 have hrun:=lK (w:=w.alloc (.cells #[.int .i64 0,.int .i64 0,.int .i64 0,.int .i64 0] 89)) (h2.alloc _) e1 hk;have hw8:wrap64 (hi-8)=hi-8:=IntWalk.wrap64_in _ (by omega);have hw9:IntKind.i64.wrap (hi-8)=hi-8:=by rw[IntKind.wrap_i64];omega
 by_cases hold:q<=hi-8
 ·have HQ:=ad (show bR S k q=(⟨0,0,0,0⟩,2)by unfold bR;rw[if_neg hq,hS];simp only;rw[if_pos hold]);clear h1 h2 h3 h4 h5 h6 h7 s1 s2 s3 s4 s5 e1 e3 s1';go_enter func104,ntmps104;go_wp2;refine bodyPost_ret (aO rfl _ _ w.heap.size _ _ _ _ rfl (heap_alloc_new w _) underlying89 rfl eN) rfl ?_;exact⟨by rw[HQ.out];rfl,(ae _ w).alloc ab _⟩
 ·cases hO:O q with
  |none =>
   have hrun2:=wY (w:=w.alloc (.cells #[.int .i64 0,.int .i64 0,.int .i64 0,.int .i64 0] 89)) (s2.alloc _) ((s5 q).1 hO _) hqw;have HQ:=ad (show bR S k q=(⟨0,0,0,0⟩,0)by unfold bR;rw[if_neg hq,hS];simp only;rw[if_neg hold,hO]);clear h1 h2 h3 h4 h5 h6 h7 s1 s2 s3 s4 s5 e1 e3 s1' hO;go_enter func104,ntmps104;go_wp2;refine bodyPost_ret (aO rfl _ _ w.heap.size _ _ _ _ rfl (heap_alloc_new w _) underlying89 rfl eN) rfl ?_;exact⟨by rw[HQ.out];rfl,(ae _ w).alloc ab _⟩
  |some o =>
   obtain⟨ob,o1,o2,o3⟩:=(s5 q).2 o hO;have hrun2:=wY (w:=w.alloc (.cells #[.int .i64 0,.int .i64 0,.int .i64 0,.int .i64 0] 89)) (s2.alloc _) o1 hqw;have HQ:=ad (show bR S k q=(o,1)by unfold bR;rw[if_neg hq,hS];simp only;rw[if_neg hold,hO]);have o2':=au hb0 ab o2;obtain⟨oc,op,of,ov⟩:=o;have c0:(w.alloc (.cells #[.int .i64 0,.int .i64 0,.int .i64 0,.int .i64 0] 89)).cell? ⟨ob,0,none⟩=some (.int .i64 oc):=aq o2' rfl;have c1:(w.alloc (.cells #[.int .i64 0,.int .i64 0,.int .i64 0,.int .i64 0] 89)).cell? ⟨ob,1,none⟩=some (.int .i64 op):=aq o2' rfl;have c2:(w.alloc (.cells #[.int .i64 0,.int .i64 0,.int .i64 0,.int .i64 0] 89)).cell? ⟨ob,2,none⟩=some (.int .i64 of):=aq o2' rfl;have c3:(w.alloc (.cells #[.int .i64 0,.int .i64 0,.int .i64 0,.int .i64 0] 89)).cell? ⟨ob,3,none⟩=some (.int .i64 ov):=aq o2' rfl;clear h1 h2 h3 h4 h5 h6 h7 s1 s2 s3 s4 s5 e1 e3 s1' hO o1 o2 o3 o2';go_enter func104,ntmps104;go_wp2;refine bodyPost_ret (aO rfl _ _ w.heap.size _ _ _ _ rfl (heap_alloc_new w _) underlying89 rfl eN) rfl ?_;exact⟨by rw[HQ.out];rfl,(ae _ w).alloc ab _⟩
theorem DT (S:dU) (k q:Int):(bR S k q).2=0\/(bR S k q).2=1\/(bR S k q).2=2:=by
 unfold bR;split
 ·exact .inr (.inr rfl)
 split
 ·exact .inl rfl
 split
 ·exact .inr (.inr rfl)
 split
 ·exact .inl rfl
 ·exact .inr (.inl rfl)
theorem lZ (t:Nat) (S:dU) (n:Nat) (ft:Nat->Prop) (k q:Int) (w:World) (h:eS w t S n ft) (hk:(Lit.int .i64 k).wf=true) (hqw:(Lit.int .i64 q).wf=true) (hh:∀hi O,S k=some (hi,O)->0<=hi/\hi<=1000000000000) :
 Calls prog 104 #[.pointer (some ⟨t,0,none⟩),.int .i64 k,.int .i64 q] w fun e w'=>e=.returned (.tuple #[lV (bR S k q).1,.int .i64 (bR S k q).2])/\Below w.heap.size w w':=by
 by_cases hq:q<1
 ·exact ym t S n ft k q w h hk hq
 ·cases hS:S k with
  |none=>exact vR t S n ft k q w h hk hq hS
  |some x=>exact vQ t S n ft k q x.1 x.2 w h hk hqw hq hS (hh x.1 x.2 hS)
def pX (S:dU) (k q:Int):Int:=match S k with|none=>q|some (hi,_)=>max hi q
def o5 (S:dU) (k:Int):Int->Option cI:=match S k with|none=>fun _=>none|some (_,O)=>O
def vk (O:Int->Option cI) (h q:Int) (o:cI):Int->Option cI:=fun j=>if j<=h-8 then none else if j=q then some o else O j
def jY (S:dU) (k q:Int) (o:cI):dU:=fun j=>if j=k then some (pX S k q,vk (o5 S k) (pX S k q) q o) else S j
def xF (S:dU):Prop:=∀k hi O,S k=some (hi,O)->1<=hi/\hi<=274877906944/\∀q o,O q=some o->1<=q/\hi-8<q/\q<=hi
theorem G0:xF (fun _=>none):=fun _ _ _ h=>by cases h
theorem KD {S:dU} (h:xF S) (k q:Int) (h1:1<=q) (h2:q<=274877906944):1<=pX S k q/\pX S k q<=274877906944/\q<=pX S k q:=by
 unfold pX;cases hS:S k with
 |none=>exact⟨h1,h2,Int.le_refl _⟩
 |some x =>
  obtain⟨hi,O⟩:=x;have:=h k hi O hS;exact⟨Int.le_trans h1 (Int.le_max_right _ _),Int.max_le.2 ⟨this.2.1,h2⟩,Int.le_max_right _ _⟩
theorem Je {S:dU} (h:xF S) (k q:Int) (o:cI) (h1:1<=q) (h2:q<=274877906944):xF (jY S k q o):=by
 intro j hi O hj;unfold jY at hj;by_cases e:j=k
 ·rw[if_pos e]at hj;simp only[Option.some.injEq,Prod.mk.injEq]at hj;obtain⟨rfl,rfl⟩:=hj;obtain⟨a,b,c⟩:=KD h k q h1 h2;refine⟨a,b,fun r o' hr=>?_⟩;unfold vk at hr;split at hr
  ·cases hr
  ·rename_i hn;split at hr
   ·rename_i e2;subst e2;exact⟨h1,by omega,c⟩
   ·unfold o5 at hr;cases hS:S k with
    |none=>rw[hS]at hr;cases hr
    |some x =>
     obtain⟨hi2,O2⟩:=x;rw[hS]at hr;have:=(h k hi2 O2 hS).2.2 r o' hr;refine⟨this.1,by omega,?_⟩;unfold pX;rw[hS];exact Int.le_trans this.2.2 (Int.le_max_left _ _)
 ·rw[if_neg e]at hj;exact h j hi O hj
theorem gi {w:World} {a b:Nat} {x:List Value} {T:TypeId} {fr:Nat×Nat} {n:Nat} {D:DataW Value} (h1:w.heap[a]?=some (.cells x.toArray T fr)) (h2:w.ownsMap prog 3 bJ b n D):a≠b:=by
 intro e;obtain⟨es,c,hh,_⟩:=h2;rw[<-e,h1]at hh;cases hh
theorem eS.qj {w w':World} {t n n' bm sb bo:Nat} {S:dU} {ft ft':Nat->Prop} {D D':DataW Value} {gs go:Int->Nat} {k hi:Int} {O:Int->Option cI}
 (h1:w.heap[t]?=some (.cells #[.map (some bm)] 274 (0,0))) (h2:w.ownsMap prog 3 bJ bm n D) (h3:ft t) (h4:ft bm)
 (h5:∀k,S k=none->∀z,D.atKey (.int .i64 k) z=z)
 (h6:∀k hi O,S k=some (hi,O)->D.atKey (.int .i64 k) (.held (.pointer none))=.held (.pointer (some ⟨gs k,0,none⟩))/\gP w (gs k) hi O n (go k) ft/\go k≠bm)
 (h7:∀k k' x x',S k=some x->S k'=some x'->(gs k=gs k'\/go k=go k')->k=k')
 (hM:w'.ownsMap prog 3 bJ bm n' D') (hD:∀j,j≠k->∀z,D'.atKey (.int .i64 j) z=D.atKey (.int .i64 j) z)
 (hDk:D'.atKey (.int .i64 k) (.held (.pointer none))=.held (.pointer (some ⟨sb,0,none⟩)))
 (hS:gP w' sb hi O n' bo ft') (hn:n<=n') (hft:∀j,ft j->ft' j)
 (hk:∀j,j<w.heap.size->ft j->j≠bm->j≠sb->j≠bo->w'.heap[j]?=w.heap[j]?)
 (hsb:(S k=none/\w.heap.size<=sb/\w.heap.size<=bo)\/(∃x,S k=some x/\sb=gs k/\bo=go k)) :
 eS w' t (fun j=>if j=k then some (hi,O) else S j) n' ft':=by
 have lt:∀{j:Nat} {o:Obj},w.heap[j]?=some o->j<w.heap.size:=fun h=>(aA.1 h).1;have hold:∀{j:Nat} {x:List Value} {T:TypeId} {fr:Nat×Nat},w.heap[j]?=some (.cells x.toArray T fr)->T≠277->j≠bm/\j≠sb/\j≠bo:=by
  intro j x T fr hj hT;have l:=lt hj;refine⟨gi hj h2,?_,?_⟩
  ·rcases hsb with⟨_,a,_⟩|⟨⟨hi0,O0⟩,hS0,rfl,_⟩
   ·omega
   ·intro e;subst e;obtain⟨_,⟨D0,q1,_⟩,_⟩:=h6 k hi0 O0 hS0;rw[q1]at hj;simp only[Option.some.injEq,Obj.cells.injEq]at hj;exact hT hj.2.1.symm
  ·rcases hsb with⟨_,_,a⟩|⟨⟨hi0,O0⟩,hS0,_,rfl⟩
   ·omega
   ·obtain⟨_,⟨D0,_,q2,_⟩,_⟩:=h6 k hi0 O0 hS0;exact gi hj q2
 have ht:=hold (x:=[.map (some bm)]) h1 (by decide);refine⟨bm,D',fun j=>if j=k then sb else gs j,fun j=>if j=k then bo else go j,(hk t (lt h1) h3 ht.1 ht.2.1 ht.2.2).trans h1,hM,hft t h3,hft bm h4,fun j hj=>?_,fun j hi' O' hj=>?_,fun j j' x x' hj hj' he=>?_⟩
 ·by_cases e:j=k
  ·simp[e]at hj
  ·have hj:S j=none:=by simpa[e]using hj
   intro z;rw[hD j e];exact h5 j hj z
 ·by_cases e:j=k
  ·subst e;simp only[if_true,Option.some.injEq,Prod.mk.injEq]at hj ⊢;obtain⟨rfl,rfl⟩:=hj;refine⟨hDk,hS,?_⟩;rcases hsb with⟨_,_,a⟩|⟨⟨hi0,O0⟩,hS0,_,rfl⟩
   ·have:=h2.lt;omega
   ·exact(h6 j hi0 O0 hS0).2.2
  ·simp only[if_neg e]at hj ⊢;obtain⟨q1,⟨D0,r1,r2,r3,r4,r5⟩,q3⟩:=h6 j hi' O' hj;have ha:gs j≠bm/\gs j≠sb/\gs j≠bo:=by
    have l:=lt r1;refine⟨gi (x:=[.int .i64 hi',.map (some (go j))]) r1 h2,?_,?_⟩
    ·rcases hsb with⟨_,a,_⟩|⟨⟨hi0,O0⟩,hS0,rfl,_⟩
     ·omega
     ·exact fun e2=>e (h7 j k _ _ hj hS0 (.inl e2))
    ·rcases hsb with⟨_,_,a⟩|⟨⟨hi0,O0⟩,hS0,_,rfl⟩
     ·omega
     ·obtain⟨_,⟨D1,_,s2,_⟩,_⟩:=h6 k hi0 O0 hS0;exact gi (x:=[.int .i64 hi',.map (some (go j))]) r1 s2
   have hb:go j≠sb/\go j≠bo:=by
    have l:=r2.lt;refine⟨?_,?_⟩
    ·rcases hsb with⟨_,a,_⟩|⟨⟨hi0,O0⟩,hS0,rfl,_⟩
     ·omega
     ·obtain⟨_,⟨D1,s1,_⟩,_⟩:=h6 k hi0 O0 hS0;exact fun e2=>gi (x:=[.int .i64 hi0,.map (some (go k))]) s1 r2 e2.symm
    ·rcases hsb with⟨_,_,a⟩|⟨⟨hi0,O0⟩,hS0,_,rfl⟩
     ·omega
     ·exact fun e2=>e (h7 j k _ _ hj hS0 (.inr e2))
   refine⟨by rw[hD j e];exact q1,⟨D0,(hk _ (lt r1) r3 ha.1 ha.2.1 ha.2.2).trans r1,(cG r2 (hk _ r2.lt r4 q3 hb.1 hb.2)).mono hn,hft _ r3,hft _ r4,fun q=>⟨(r5 q).1,fun o ho=>?_⟩⟩,q3⟩;obtain⟨b,b1,b2,b3⟩:=(r5 q).2 o ho;have hc:=hold (x:=[.int .i64 o.code,.int .i64 o.pos,.int .i64 o.first,.int .i64 o.version]) b2 (by decide);exact⟨b,b1,(hk _ (lt b2) b3 hc.1 hc.2.1 hc.2.2).trans b2,hft _ b3⟩
 ·have jN:∀j,j≠k->∀x,S j=some x->(sb=gs j\/bo=go j)->False:=by
   intro j e x hj he;obtain⟨hi',O'⟩:=x;obtain⟨q1,⟨D0,r1,r2,r3,r4,r5⟩,q3⟩:=h6 j hi' O' hj;have l1:=lt r1;have l2:=r2.lt;rcases hsb with⟨_,a,b⟩|⟨⟨hi0,O0⟩,hS0,rfl,rfl⟩
   ·rcases he with he|he <;> omega
   ·rcases he with he|he
    ·exact e (h7 j k _ _ hj hS0 (.inl he.symm))
    ·exact e (h7 j k _ _ hj hS0 (.inr he.symm))
  by_cases e:j=k <;> by_cases e':j'=k
  ·rw[e,e']
  ·simp only[if_pos e,if_neg e']at hj hj' he;exact(jN j' e' _ hj' he).elim
  ·simp only[if_neg e,if_pos e']at hj hj' he;exact(jN j e _ hj (by rcases he with he|he;exact .inl he.symm;exact .inr he.symm)).elim
  ·simp only[if_neg e,if_neg e']at hj hj' he;exact h7 j j' _ _ hj hj' he
theorem gP.qj {w w':World} {sb bo ob n':Nat} {h' q:Int} {O:Int->Option cI} {o:cI} {ft ft':Nat->Prop} {D D':DataW Value}
 (h5:∀q,(O q=none->∀z,D.atKey (.int .i64 q) z=z)/\(∀o,O q=some o->∃b,D.atKey (.int .i64 q) (.held (.pointer none))=.held (.pointer (some ⟨b,0,none⟩))/\cX w b o/\ft b))
 (hc:w'.heap[sb]?=some (.cells #[.int .i64 h',.map (some bo)] 277 (0,0))) (hM:w'.ownsMap prog 3 bJ bo n' D') (f1:ft' sb) (f2:ft' bo)
 (hD:∀j z,D'.atKey (.int .i64 j) z=if j<=h'-8 then z else if j=q then .held (.pointer (some ⟨ob,0,none⟩)) else D.atKey (.int .i64 j) z)
 (hO:cX w' ob o) (f3:ft' ob) (hft:∀j,ft j->ft' j) (hk:∀b x,cX w b x->ft b->cX w' b x):gP w' sb h' (vk O h' q o) n' bo ft':=by
 refine⟨D',hc,hM,f1,f2,fun j=>?_⟩;unfold vk;by_cases e1:j<=h'-8
 ·rw[if_pos e1];exact⟨fun _ z=>by rw[hD j z,if_pos e1],fun _ h=>by cases h⟩
 ·rw[if_neg e1];by_cases e2:j=q
  ·rw[if_pos e2];exact⟨fun h=>by(cases h),fun x hx=>by cases hx;exact⟨ob,by rw[hD j,if_neg e1,if_pos e2],hO,f3⟩⟩
  ·rw[if_neg e2];refine⟨fun h z=>by rw[hD j z,if_neg e1,if_neg e2];exact(h5 j).1 h z,fun x hx=>?_⟩;obtain⟨b,b1,b2,b3⟩:=(h5 j).2 x hx;exact⟨b,by rw[hD j,if_neg e1,if_neg e2];exact b1,hk b x b2 b3,hft b b3⟩
theorem AE {D:DataW Value} {x:Int} (h:x∉intKeys D) (z:DataW Value):D.atKey (.int .i64 x) z=z:=by
 refine Maps.atKey_of_not_has ?_ z;cases D <;> try rfl
 rename_i es;show es.any (fun p=>p.1.sameKey (.int .i64 x))=false;rw[List.any_eq_false];intro p hp e;apply h;have:=WideAt.sameKey_eq e;exact List.mem_map.2 ⟨p,hp,by rw[this];rfl⟩
def jV (D Di:DataW Value) (ks:List Int) (h:Int):Prop:=∀j z,Di.atKey (.int .i64 j) z=if j∈ks/\j<=h then z else D.atKey (.int .i64 j) z
theorem xr (D:DataW Value) (h:Int):jV D D [] h:=fun j z=>by simp
theorem uW {D Di:DataW Value} {ks:List Int} {h x:Int} (hd:jV D Di ks h) (hx:¬x<=h):jV D Di (ks++[x]) h:=fun j z=>by
 rw[hd j z];by_cases e:j=x
 ·subst e;simp[hx]
 ·simp[e]
theorem xt {D Di:DataW Value} {ks:List Int} {h x:Int} (hd:jV D Di ks h) (hx:x<=h):jV D (Di.del (.int .i64 x)) (ks++[x]) h:=fun j z=>by
 by_cases e:j=x
 ·subst e;rw[Maps.atKey_del_same];simp[hx]
 ·rw[Maps.atKey_del_other (by simpa using e),hd j z];simp[e]
theorem xu {D Di:DataW Value} {ks:List Int} {h:Int} (hd:jV D Di ks h) (hk:∀x,x∈ks↔x∈intKeys D) (j:Int) (z:DataW Value) :
 Di.atKey (.int .i64 j) z=if j<=h then z else D.atKey (.int .i64 j) z:=by
 rw[hd j z];by_cases e:j<=h
 ·by_cases e2:j∈ks
  ·simp[e,e2]
  ·rw[if_neg (fun x=>e2 x.1),if_pos e,AE (fun x=>e2 ((hk j).2 x))]
 ·rw[if_neg (fun x=>e x.2),if_neg e]
def eE (w:World) (x bm:Nat) (D:DataW Value) (g:List UInt8->Value) (f:cg) (ev:Int) (n:Nat) (ft:Nat->Prop):Prop :=
 w.heap[x]?=some (.cells #[.map (some bm),.int .i64 ev] 183 (0,0))/\w.ownsMap prog 9 bJ bm n D/\ft x/\ft bm /\
 (∀k,D.atKey (.string k) (.held (.slice none 0 0))=.held (g k)) /\
 (∀k,w.ownsRow 0 185 3 (g k) (f k).length (eY (f k))/\(f k).length<=n/\∀b,(g k).ownBlock=some b->ft b/\b≠x/\b≠bm) /\
 (∀k k' b,(g k).ownBlock=some b->(g k').ownBlock=some b->k=k')/\(∀k,f k=[]->∀z,D.atKey (.string k) z=z)
def kR (f:cg) (pos:Int) (nm:List UInt8) (e:Evt.Event):cg:=fun k=>if k=nm then f k++[(pos,e)] else f k
def gw (f:cg) (pos:Int) (nm:List UInt8) (es:List Evt.Event):cg:=fun k=>if k=nm then f k++es.map (fun e=>(pos,e)) else f k
theorem EK (f:cg) (pos:Int) (nm:List UInt8):gw f pos nm []=f:=by
 funext k;simp[gw]
theorem Ce (f:cg) (pos:Int) (nm:List UInt8) (es:List Evt.Event) (e:Evt.Event):kR (gw f pos nm es) pos nm e=gw f pos nm (es++[e]):=by
 funext k;by_cases h:k=nm <;> simp[kR,gw,h]
theorem eE.of {w:World} {x n:Nat} {f:cg} {ft:Nat->Prop} (h:kz w x f n ft):∃bm D g,eE w x bm D g f (n:Int) n ft:=h
theorem eE.kept {w w':World} {x bm n:Nat} {D:DataW Value} {g:List UInt8->Value} {f:cg} {ev:Int} {ft:Nat->Prop} (h:eE w x bm D g f ev n ft) (hk:∀j,j<w.heap.size->ft j->w'.heap[j]?=w.heap[j]?):eE w' x bm D g f ev n ft:=by
 obtain⟨h1,h2,h3,h4,h5,h6,h7⟩:=h;exact⟨(hk x (aA.1 h1).1 h3).trans h1,cG h2 (hk bm h2.lt h4),h3,h4,h5,fun k=>⟨fv (h6 k).1 fun b hb hl=>hk b hl ((h6 k).2.2 b hb).1,(h6 k).2⟩,h7⟩
theorem eE.next {w w':World} {x bm n:Nat} {D:DataW Value} {g:List UInt8->Value} {f:cg} {ev:Int} {ft:Nat->Prop} (h:eE w x bm D g f ev n ft) (hb:Below w.heap.size w w'):eE w' x bm D g f ev n ft:=h.kept fun j hj _=>hb.block j hj
theorem vG (l:List (Int×Evt.Event)) (p:Int×Evt.Event):eY (l++[p])=eY l++[.int .i64 p.1,.string ⟨p.2.kind.toArray⟩,.string ⟨p.2.data.toArray⟩]:=by
 simp[eY]
theorem eE.put {w W w2 w3:World} {x bm n gb cap:Nat} {D:DataW Value} {g:List UInt8->Value} {f:cg} {ev pos:Int} {ft:Nat->Prop} {nm:List UInt8} {e:Evt.Event}
 (h:eE w x bm D g f ev n ft) (hW:Below w.heap.size w W)
 (hown:w2.ownsRow 0 185 3 (.slice (some ⟨gb,0,none⟩) ((f nm).length+1) cap) ((f nm).length+1) (eY (f nm)++[.int .i64 pos,.string ⟨e.kind.toArray⟩,.string ⟨e.data.toArray⟩]))
 (hg:W.grownBy w2 (g nm).ownBlock) (hl:(g nm).ownBlock=some gb\/w.heap.size<=gb) (hlt:gb<w2.heap.size)
 (hkey:WideAt.IsKeyLit (.string nm))
 (hmap:w3.ownsMap prog 9 bJ bm (n+1) (D.put (.string nm) (.held (.slice (some ⟨gb,0,none⟩) ((f nm).length+1) cap)))) (hg3:w2.grownBy w3 (some bm)) :
 eE w3 x bm (D.put (.string nm) (.held (.slice (some ⟨gb,0,none⟩) ((f nm).length+1) cap))) (fun k=>if k=nm then .slice (some ⟨gb,0,none⟩) ((f nm).length+1) cap else g k) (kR f pos nm e) ev (n+1) (fun j=>ft j\/(w.heap.size<=j/\j<w3.heap.size)):=by
 obtain⟨h1,h2,h3,h4,h5,h6,h7,h8⟩:=h;have hx:=(aA.1 h1).1;have hm:=h2.lt;have hxm:x≠bm:=by
  intro e;obtain⟨es,c,hh,_⟩:=h2;rw[<-e,h1]at hh;cases hh
 have hgx:gb≠x:=by
  rcases hl with hl|hl
  ·exact((h6 nm).2.2 gb hl).2.1
  ·omega
 have hgm:gb≠bm:=by
  rcases hl with hl|hl
  ·exact((h6 nm).2.2 gb hl).2.2
  ·omega
 have keep2:∀j,j<w.heap.size->(g nm).ownBlock≠some j->w2.heap[j]?=w.heap[j]?:=fun j hj hne=>(hg.block j (Nat.lt_of_lt_of_le hj hW.size) (fun e=>hne e.symm)).trans (hW.block j hj);have keep3:∀j,j<w.heap.size->(g nm).ownBlock≠some j->j≠bm->w3.heap[j]?=w.heap[j]?:=fun j hj hne hb=>(hg3.block j (Nat.lt_of_lt_of_le hj (Nat.le_trans hW.size hg.size)) (by simpa using hb)).trans (keep2 j hj hne);refine⟨(keep3 x hx (fun e=>((h6 nm).2.2 x e).2.1 rfl) hxm).trans h1,hmap,.inl h3,.inl h4,fun k=>?_,fun k=>?_,fun k k' b hb hb'=>?_,fun k hk0 z=>?_⟩
 ·by_cases hk:k=nm
  ·subst hk;simp only[if_true];exact Maps.atKey_put_same h2.isMap hkey _ _
  ·simp only[if_neg hk];rw[Maps.atKey_put_other (by simpa using hk)];exact h5 k
 ·by_cases hk:k=nm
  ·subst hk;simp only[if_true,kR];refine⟨?_,?_,fun b hb=>?_⟩
   ·rw[vG,List.length_append];exact hown.kept hg3 (.inr (by simpa[Value.ownBlock]using hgm))
   ·have:=(h6 k).2.1;simp;omega
   ·obtain rfl:gb=b:=by simpa[Value.ownBlock]using hb
    refine⟨?_,hgx,hgm⟩;rcases hl with hl|hl
    ·exact .inl ((h6 k).2.2 gb hl).1
    ·exact .inr ⟨hl,Nat.lt_of_lt_of_le hlt hg3.size⟩
  ·simp only[if_neg hk,kR];refine⟨fv (h6 k).1 fun b hb hlb=>keep3 b hlb (fun e=>hk (h7 k nm b hb e)) ((h6 k).2.2 b hb).2.2,Nat.le_succ_of_le (h6 k).2.1,fun b hb=>⟨.inl ((h6 k).2.2 b hb).1,((h6 k).2.2 b hb).2⟩⟩
 ·have jN:∀k,k≠nm->(g k).ownBlock=some gb->False:=fun k hk hb=>by
   rcases hl with hl|hl
   ·exact hk (h7 k nm gb hb hl)
   ·rcases (h6 k).1.2 with⟨h0,_⟩|⟨gg,cap',cur,h0,_,hh,_⟩
    ·rw[h0]at hb;cases hb
    ·rw[h0]at hb;obtain rfl:gg=gb:=by simpa[Value.ownBlock]using hb
     have:=(aA.1 hh).1;omega
  by_cases hk:k=nm <;> by_cases hk':k'=nm
  ·rw[hk,hk']
  ·simp only[if_pos hk]at hb;simp only[if_neg hk']at hb';obtain rfl:gb=b:=by simpa[Value.ownBlock]using hb
   exact(jN k' hk' hb').elim
  ·simp only[if_neg hk]at hb;simp only[if_pos hk']at hb';obtain rfl:gb=b:=by simpa[Value.ownBlock]using hb'
   exact(jN k hk hb).elim
  ·simp only[if_neg hk]at hb;simp only[if_neg hk']at hb';exact h7 k k' b hb hb'
 ·by_cases hk:k=nm
  ·simp[kR,hk]at hk0
  ·rw[Maps.atKey_put_other (by simpa using hk)];simp only[kR,if_neg hk]at hk0;exact h8 k hk0 z
theorem I1:fh prog 180 185 3:=by
 have h:(prog.info? 185).map (fun i=>(i.zero,i.size,i.bytes))=some (some (.agg #[.int .i64 0,.string ⟨#[]⟩,.string ⟨#[]⟩]),3,40):=by kernel_rfl
 obtain⟨i0,hi,hz0,hz1,hz2⟩:=info_parts h;exact⟨underlying180,⟨i0,_,40,hi,hz0,hz1,hz2,rfl,by omega⟩,by omega⟩
theorem nt {P:Program} {ops:Array Oper} {o:Oper} {a:Act} {w:World} {K:Act->World->Prop} {Q:Exit->Act->World->Prop} {EE:Prop} (hgd:o.guard=none) (s x:Operand) {t e:TypeId} {sz:Nat}
 (ho:o.op=.call {callee:=.builtin .append,args:=#[s,x],argTypes:=#[t,t]}) (E:fh P t e sz) (v:Value) (n:Nat) (xs:List Value) (hs:a.eval s=v) (hown:w.ownsRow 0 e sz v n xs) (B:Nat) (news:List Value) (fr:Nat×Nat) (hx:a.eval x=.slice (some ⟨B,0,none⟩) 1 1) (ne:TypeId) (hB:w.heap[B]?=some (.cells news.toArray ne fr)) (hl:news.length=sz)
 (h1:∀u∈news,u.oneCell'=true) (hn:n<=1000000000)
 (h:∀g cap w',w'.ownsRow 0 e sz (.slice (some ⟨g,0,none⟩) (n+1) cap) (n+1) (xs++news)->w.grownBy w' v.ownBlock->(v.ownBlock=some g\/g=w.heap.size)->g<w'.heap.size->K (a.put o.dst (.slice (some ⟨g,0,none⟩) (n+1) cap)) w') :
 if Region.wanted o (yielded ops a.tmps)=true then Oper.wp P o a w K Q else EE:=by
 obtain⟨i,z,bytes,h2,h3,h4,h5,h6,h7⟩:=E.info;refine step_append_lies w hgd s x t ho 0 e i z sz bytes E.und h2 h3 h4 h5 h6 E.pos v n xs hs hown ⟨B,0,none⟩ 1 1 news hx (by omega) ?_ h1 (by omega) (by unfold maxLen;omega) ?_ (Nat.zero_le _) _ rfl h
 ·intro j u hj;rw[show((⟨B,0,none⟩:Addr).add j)=⟨B,j,none⟩by unfold Addr.add;split <;> simp_all,aw hB];simpa using hj
 ·have:(n+1)*bytes<=(n+1)*128:=Nat.mul_le_mul_left _ h7;omega
theorem eE.cJ {w wr W w2 w3:World} {x bm n gb cap:Nat} {D:DataW Value} {g:List UInt8->Value} {f f':cg} {ev pos:Int} {ft ft':Nat->Prop} {nm:List UInt8} {e:Evt.Event} {K Dd:ByteArray}
 (h:eE wr x bm D g f ev n ft') (hT:ax ft w wr) (hf:∀j,ft' j->ft j\/w.heap.size<=j) (hW:Below wr.heap.size wr W) (hK:(⟨e.kind.toArray⟩:ByteArray)=K) (hD:(⟨e.data.toArray⟩:ByteArray)=Dd)
 (hown:w2.ownsRow 0 185 3 (.slice (some ⟨gb,0,none⟩) ((f nm).length+1) cap) ((f nm).length+1) (eY (f nm)++[.int .i64 pos,.string K,.string Dd]))
 {u:Value} (hu:g nm=u) (hg:W.grownBy w2 u.ownBlock) (hl:u.ownBlock=some gb\/gb=W.heap.size) (hlt:gb<w2.heap.size)
 (hmap:w3.ownsMap prog 9 bJ bm (n+1) (D.put (.string nm) (.held (.slice (some ⟨gb,0,none⟩) ((f nm).length+1) cap)))) (hg3:w2.grownBy w3 (some bm)) (hf':kR f pos nm e=f') :
 ∃D3 g3 ft3,eE w3 x bm D3 g3 f' ev (n+1) ft3/\(∀j,ft3 j->ft j\/w.heap.size<=j)/\ax ft w w3:=by
 subst hK hD hu hf';have hs:=hW.size;have hw:=hT.size;have hl':(g nm).ownBlock=some gb\/wr.heap.size<=gb:=hl.imp id (fun e=>by omega);have hT2:ax ft' wr w3:=⟨(hg3.os.trans hg.os).trans hW.os,(hg3.tape.trans hg.tape).trans hW.tape,(hg3.output.trans hg.output).trans hW.output,Nat.le_trans hs (Nat.le_trans hg.size hg3.size),fun j hj hn=>by
  have a1:=hW.block j hj;have a2:=hg.block j (by omega) (fun e=>hn (((h.2.2.2.2.2.1 nm).2.2 j e.symm).1));have a3:=hg3.block j (by have:=hg.size;omega) (fun e=>hn (by cases e;exact h.2.2.2.1));exact a3.trans (a2.trans a1)⟩
 exact⟨_,_,_,h.put hW hown hg hl' hlt (by trivial) hmap hg3,fun j hj=>by
  rcases hj with hj|hj
  ·exact hf j hj
  ·exact .inr (by omega),hT.trans hT2 hf⟩
theorem eE.LH {w:World} {x bm n:Nat} {D:DataW Value} {g:List UInt8->Value} {f:cg} {ev m:Int} {ft:Nat->Prop} (h:eE w x bm D g f ev n ft) (hm:m=(n:Int)) :
 kz (w.setCell ⟨x,1,none⟩ (.int .i64 m)) x f n ft/\ax ft w (w.setCell ⟨x,1,none⟩ (.int .i64 m)):=by
 subst hm;obtain⟨h1,h2,h3,h4,h5,h6,h7⟩:=h;have hg:w.grownBy (w.setCell ⟨x,1,none⟩ (.int .i64 (n:Int))) (some x):=az _ _ _ _;have hxm:bm≠x:=by
  intro e;obtain⟨es,c,hh,_⟩:=h2;rw[e,h1]at hh;cases hh
 exact⟨⟨bm,D,g,av (i:=1) h1 _,cG h2 (hg.block bm h2.lt (by simpa using hxm)),h3,h4,h5,fun k=>⟨fv (h6 k).1 fun b hb hl=>hg.block b hl (by simpa using ((h6 k).2.2 b hb).2.1),(h6 k).2⟩,h7⟩,ax.cq hg h3⟩
set_option maxHeartbeats 4000000 in
set_option maxRecDepth 100000 in
theorem rl (x:Nat) (f:cg) (n:Nat) (ft:Nat->Prop) (pos:Int) (nm:ByteArray) (v:Value) (es:List Evt.Event) (w:World) (h:kz w x f n ft) (hs:nm.size<=1000000000000) (hv:∀w',ax ft w w'->dp w' v es) (hn:n+es.length<=1000000000) :
 Calls prog 212 #[.pointer (some ⟨x,0,none⟩),.int .i64 pos,.string nm,v] w fun e w'=>∃ft',e=.returned (.int .i64 ((f nm.data.toList).length:Nat))/\kz w' x (gw f pos nm.data.toList es) (n+es.length) ft'/\(∀j,ft' j->ft j\/w.heap.size<=j)/\ax ft w w':=by
 obtain⟨sa,sl,sc,rfl⟩:=ee (hv w (ax.refl _ _));have hsl:sl=es.length:=by
  rcases cC (hv w (ax.refl _ _))with⟨h,a',c'',e⟩|⟨b'',o'',c'',e⟩
  ·cases e;omega
  ·cases e;rfl
 subst hsl;obtain⟨bm,D,g,hM⟩:=eE.of h;have d0:w.cell? ⟨x,0,none⟩=some (.map (some bm)):=aq hM.1 rfl;have hrun:=nD hM.2.1 hM.2.2.2.2.1 nm hs;obtain⟨a,c,hgv⟩:=iO (hM.2.2.2.2.2.1 nm.data.toList).1;rw[hgv]at hrun;have HM:=ad hM;have HV:=ad hv;clear hM h hgv hv;go_enter func212,ntmps212;go_wp2;clear hrun d0
 go_loopw [21] (fun lv wr=>∃(i:Nat) (D':DataW Value) (g':List UInt8->Value) (ft':Nat->Prop),lv=.int .i64 i/\i<=es.length/\eE wr x bm D' g' (gw f pos nm.data.toList (es.take i)) (n:Int) (n+i) ft'/\(∀j,ft' j->ft j\/w.heap.size<=j)/\ax ft w wr) (fun lv _=>es.length-(Go.RowKit.intOf lv).toNat)
 case atStart=>exact⟨0,D,g,ft,rfl,by omega,by rw[List.take_zero,EK];exact HM.out,fun j hj=>.inl hj,ax.refl _ _⟩
 case round =>
  obtain⟨i,D',g',ft',rfl,hi,hM,hf,hT⟩:=hrel;by_cases hp:i<es.length
  ·obtain⟨b2,o2,c2,hv2,e1,e2⟩:=vL (HV.out wr hT) i hp;cases hv2;obtain⟨y,hy⟩:∃y,es[i]=y:=⟨_,rfl⟩;rw[hy]at e1 e2;have HN:=ad (show kR (gw f pos nm.data.toList (es.take i)) pos nm.data.toList y=gw f pos nm.data.toList (es.take (i+1))by
    rw[Ce,List.take_succ_eq_append_getElem hp,hy])
   have hF:(f nm.data.toList).length<=n:=(HM.out.2.2.2.2.2.1 nm.data.toList).2.1;obtain⟨F,hFe⟩:∃F,gw f pos nm.data.toList (es.take i)=F:=⟨_,rfl⟩;rw[hFe]at hM HN;obtain⟨K,hK,hK2,hK3⟩:=bf y.kind;obtain⟨Dd,hDd,hD2,hD3⟩:=bf y.data;rw[hK]at e1;rw[hDd]at e2;have HM2:=ad hM;have HT:=ad hT;clear hM hT HM
   go_upto_block 1 with fail
   go_cut [] (fun wx=>∃D3 g3 ft3,eE wx x bm D3 g3 (gw f pos nm.data.toList (es.take (i+1))) (n:Int) (n+i+1) ft3/\(∀j,ft3 j->ft j\/w.heap.size<=j)/\ax ft w wx)
   case rest =>
    obtain⟨D3,g3,ft3,hM3,hf3,hT3⟩:=hcut;have HM3:=ad hM3;have HT3:=ad hT3;clear hM3 hT3 HM2 HT;go_wp2;exact⟨⟨i+1,D3,g3,ft3,by go_num,by omega,HM3.out,hf3,HT3.out⟩,by simp[Go.RowKit.intOf];omega⟩
   case first =>
   go_upto_region 5 with fail;generalize hW1:wr.alloc (.cells #[.string K,.string Dd] 122)=W1;have hbW:Below wr.heap.size wr W1:=by rw[<-hW1];exact(ae _ wr).alloc ab _
   have hB1:W1.heap[wr.heap.size]?=some (.cells #[.string K,.string Dd] 122 (0,0)):=by rw[<-hW1];exact heap_alloc_new wr _
   have e0:W1.drew.cell? ⟨wr.heap.size,0,none⟩=some (.string K):=by
    show W1.cell? _=_;rw[aw hB1];rfl
   have e1:W1.drew.cell? ⟨wr.heap.size,1,none⟩=some (.string Dd):=by
    show W1.cell? _=_;rw[aw hB1];rfl
   clear hW1;have hM1:eE W1.drew x bm D' g' F (n:Int) (n+i) ft':=HM2.out.next hbW.drew;have hbK:∀o,Below wr.heap.size wr (W1.alloc o).drew:=fun o=>(hbW.alloc hbW.size o).drew;have x0:W1.drew.cell? ⟨x,0,none⟩=some (.map (some bm)):=aq hM1.1 rfl;have hM3:=HM2.out.next (hbK (.cells #[.int .i64 pos,.string K,.string Dd] 185));have x1:(W1.alloc (.cells #[.int .i64 pos,.string K,.string Dd] 185)).drew.cell? ⟨x,0,none⟩=some (.map (some bm)):=aq hM3.1 rfl;obtain⟨ga,gc,hgv⟩:=iO (hM1.2.2.2.2.2.1 nm.data.toList).1;have r0:=nD hM1.2.1 hM1.2.2.2.2.1 nm hs;have r1:=nD hM3.2.1 hM3.2.2.2.2.1 nm hs;rw[hgv]at r0 r1;have HO:=ad (hM3.2.2.2.2.2.1 nm.data.toList).1;rw[hgv]at HO;have HLE:=ad (show(F nm.data.toList).length<=1000000000 by have:=(hM1.2.2.2.2.2.1 nm.data.toList).2.1;omega);have HKB:=ad (show(W1.alloc (.cells #[.int .i64 pos,.string K,.string Dd] 185)).drew.heap[W1.heap.size]?=some (.cells #[.int .i64 pos,.string K,.string Dd] 185 (0,0))from heap_alloc_new W1 _);have HBB:=ad (hbK (.cells #[.int .i64 pos,.string K,.string Dd] 185));have HGV:=ad hgv;have HM3:=ad hM3;have HNi:=ad (show n+i<maxLen by unfold maxLen;omega);clear hM1 hM3 hbK hbW hB1 hgv
   go_region_law (first
    | (refine nt rfl _ _ rfl I1 (.slice ga (F nm.data.toList).length gc) _ _ rfl HO.out _ [.int .i64 pos, .string K, .string Dd] _ rfl _ HKB.out rfl (by simp [Value.oneCell']) HLE.out ?_
       intro gb cap w2 hown hgr hlies hlt;have hmap2 := cG HM3.out.2.1 (hgr.block bm HM3.out.2.1.lt (fun e => by
         have:=(HM3.out.2.2.2.2.2.1 nm.data.toList).2.2 bm (by rw[HGV.out];exact e.symm);exact this.2.2 rfl))
       obtain ⟨w3, hmu, hown3, hg3⟩ := hmap2.update dP underlying181 HNi.out (WideMaps.keyOf_string_mk (s := nm) underlying9 (by unfold maxLen; omega)) (val := .slice (some ⟨gb, 0, none⟩) ((F nm.data.toList).length + 1) cap) (d := .held (.slice (some ⟨gb, 0, none⟩) ((F nm.data.toList).length + 1) cap)) (ps := []) rfl;have x2 : w2.cell? ⟨x, 0, none⟩ = some (.map (some bm)) := by
         rw[aw ((hgr.block x (aA.1 HM3.out.1).1 (fun e=>by
           have:=(HM3.out.2.2.2.2.2.1 nm.data.toList).2.2 x (by rw[HGV.out];exact e.symm);exact this.2.1 rfl)).trans HM3.out.1)];rfl
       have HFIN := ad (eE.cJ HM2.out HT.out hf HBB.out hK hDd hown HGV.out hgr hlies hlt hown3 hg3 HN.out);clear hown hgr hlies hlt hown3 hg3 hmap2))
   all_goals go_wp2
   all_goals go_meet
   all_goals exact HFIN.out
  ·obtain rfl:i=es.length:=by omega
   rw[List.take_length]at hM;have c1:wr.cell? ⟨x,1,none⟩=some (.int .i64 (n:Int)):=aq hM.1 rfl;have fr:=ay hM.1 1;have hw1:wrap64 ((n:Int)+(es.length:Int))=(n:Int)+(es.length:Int):=IntWalk.wrap64_in _ (by omega);have HS:=ad (hM.LH (m:=(n:Int)+(es.length:Int)) (by omega));have HT:=ad hT;have HF:=ad hf;clear hM hT hf HM;go_wp2;go_ret;exact⟨ft',rfl,HS.out.1,HF.out,HT.out.trans HS.out.2 (fun j hj=>HF.out j hj)⟩
structure Stat where
 f:cg
 n:Nat
 S:dU
 m:Nat
 app:Int
def Stat.new:Stat:=⟨fun _=>[],0,fun _=>none,0,0⟩
def Stat.jN (st:Stat) (e:Evt.Entry):Prop:=e.b.expect≠-1/\e.b.expect≠((st.f e.b.stream).length:Int)
instance (st:Stat) (e:Evt.Entry):Decidable (st.jN e):=inferInstanceAs (Decidable (_/\_))
def Stat.kK (st:Stat) (e:Evt.Entry):cI :=
 if st.jN e then ⟨2,e.pos,(st.f e.b.stream).length,(st.f e.b.stream).length⟩ else ⟨1,e.pos,(st.f e.b.stream).length,(st.f e.b.stream).length+e.b.events.length⟩
def Stat.more (st:Stat) (e:Evt.Entry):Stat :=
 if st.jN e then st else ⟨gw st.f e.pos e.b.stream e.b.events,st.n+e.b.events.length,st.S,st.m,st.app⟩
def Stat.at (st:Stat) (p:Int):Stat:=⟨st.f,st.n,st.S,st.m,p⟩
def Stat.put (st:Stat) (k q:Int) (o:cI):Stat:=⟨st.f,st.n,jY st.S k q o,st.m+2,st.app⟩
def Stat.apply (st:Stat) (e:Evt.Entry):(cI×Nat)×Stat :=
 if Evt.bC e=false then ((⟨0,0,0,0⟩,1),st) else
 if e.pos≠st.app+1 then ((⟨0,0,0,0⟩,11),st) else
 if (bR st.S e.b.br e.b.seq).2=1 then (((bR st.S e.b.br e.b.seq).1,0),st.at e.pos) else
 if (bR st.S e.b.br e.b.seq).2=2 then ((⟨3,e.pos,0,0⟩,0),st.at e.pos) else
 (((st.kK e),0),((st.more e).at e.pos).put e.b.br e.b.seq (st.kK e))
def Stat.aS (st:Stat):List Evt.Entry->List (Evt.Entry×cI)×Stat
 |[]=>([],st)
 |e::l=>((e,(st.apply e).1.1)::((st.apply e).2.aS l).1,((st.apply e).2.aS l).2)
structure Stat.Ok (st:Stat):Prop where
 s:xF st.S
 n:st.n<=8*st.app.toNat
 m:st.m<=2*st.app.toNat
 a:0<=st.app
theorem Stat.FM:Stat.new.Ok:=⟨G0,Nat.zero_le _,Nat.zero_le _,Int.le_refl _⟩
theorem nO {e:Evt.Entry} (h:Evt.bC e=true):1<=e.pos/\e.pos<=274877906944/\1<=e.epoch/\e.epoch<=274877906944/\1<=e.b.br/\e.b.br<=274877906944/\1<=e.b.seq/\e.b.seq<=274877906944/\e.b.events.length<=8:=by
 unfold Evt.bC at h;simp only[Bool.and_eq_true,beq_iff_eq]at h;obtain⟨⟨h1,h2⟩,h3⟩:=h;unfold Evt.fits at h3;split at h3
 ·omega
 rename_i h4;split at h3
 ·omega
 rename_i h5;unfold Evt.uJ at h4;simp only[Bool.not_eq_false,Bool.and_eq_true]at h4;simp only[Evt.number,Bool.and_eq_true,decide_eq_true_eq]at h1 h2 h4;exact⟨h1.1,h1.2,h2.1,h2.2,h4.1.1.2.1,h4.1.1.2.2,h4.1.2.1,h4.1.2.2,by omega⟩
theorem Stat.Ok.apply {st:Stat} (h:st.Ok) (e:Evt.Entry):(st.apply e).2.Ok/\((st.apply e).2.app=st.app\/(st.apply e).2.app=st.app+1):=by
 have h0:=h.a;have hn:=h.n;have hm:=h.m;unfold Stat.apply;split
 ·exact⟨h,.inl rfl⟩
 rename_i hr;have hr:=nO (by simpa using hr);split
 ·exact⟨h,.inl rfl⟩
 rename_i hp;have hp:e.pos=st.app+1:=by omega
 have ht:e.pos.toNat=st.app.toNat+1:=by omega
 split
 ·exact⟨⟨h.s,by simp only[Stat.at];omega,by simp only[Stat.at];omega,by simp only[Stat.at];omega⟩,.inr hp⟩
 split
 ·exact⟨⟨h.s,by simp only[Stat.at];omega,by simp only[Stat.at];omega,by simp only[Stat.at];omega⟩,.inr hp⟩
 ·have key:(st.more e).n<=st.n+8/\(st.more e).m=st.m/\(st.more e).S=st.S:=by
   unfold Stat.more;split
   ·exact⟨by omega,rfl,rfl⟩
   ·exact⟨by simp only;omega,rfl,rfl⟩
  refine⟨⟨?_,?_,?_,?_⟩,.inr hp⟩
  ·show xF (jY (st.more e).S _ _ _);rw[key.2.2];exact Je h.s _ _ _ hr.2.2.2.2.2.2.1 hr.2.2.2.2.2.2.2.1
  ·show(st.more e).n<=8*e.pos.toNat;omega
  ·show(st.more e).m+2<=2*e.pos.toNat;omega
  ·show(0:Int)<=e.pos;omega
end Go.Proofs.YtmgmknmaepjnoaaGreatDoor
