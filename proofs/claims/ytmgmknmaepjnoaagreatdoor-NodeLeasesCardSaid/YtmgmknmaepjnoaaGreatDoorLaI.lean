/-
  The law package 21's one; how its nodes begin.
-/
import Derived.Test.YtmgmknmaepjnoaaGreatDoorLaD
namespace Go.Proofs.YtmgmknmaepjnoaaGreatDoor
open Go.RowKit Go.Shelf Go.Sort Proofs.Tryz
def Fx (v:Value) (es:List Evt.Event):(Nat→Prop)→(Nat→Prop)→World→Prop:=fun _ X w=>dz w v es∧∀b,v.ownBlock=some b→es≠[]→¬X b
theorem zV (a:World) (v:Value) (es:List Evt.Event):aB a (Fx v es):=by
 rintro T T' X X' w w' ⟨h,hx⟩ ht h1 h2 h3 h4 h5 h6
 refine⟨jb (p:=(⟨0,0,⟨[],0,0,0,es⟩⟩,v)) h hx (ht.wide h1),fun b hb he e=>?_⟩
 rcases h3 b e with e2|e2
 ·exact hx b hb he e2
 ·have:=jT h hb he;omega
theorem E6 (a:World) (v:Value) (es:List Evt.Event):lf (Fx v es) a v es:=fun _ _ _ _ _ h=>h
section
variable {R:(Nat→Prop)→(Nat→Prop)→World→Prop} {a w w':World} {nb lg sb:Nat} {room:Int} {s:Lg.S} {fs:List Dk.ah} {st:Stat} {N:Nd} {xb:Nat} {nv dv v:Value} {kn JX:List (Nat×Obj)} {H Wr:List (Int×Value)} {F:List Int} {es:List Evt.Event}
theorem cu.events (h:cu mH a nb lg sb room s fs st N xb nv dv kn H Wr F JX w) (hb:Below w.heap.size w w') (he:dz w' v es) (hv:∀b,v.ownBlock=some b→es≠[]→w.heap.size≤b):cu (Fx v es) a nb lg sb room s fs st N xb nv dv kn H Wr F JX w':=by
 obtain⟨P,h1,h2,h3⟩:=h
 have h4:=h3.enter (R':=Fx v es) (J2:=[]) (eH a) hb (fun p hp=>by cases hp) (fun T X' hX _=>⟨he,fun b hb2 hne hx=>by
  rcases (hX b hx).2 with e|⟨p,hp,_⟩
  ·have:=hv b hb2 hne;omega
  ·cases hp⟩)
 rw[List.append_nil]at h4
 exact⟨P,h1,h2,h4⟩
theorem cu.Jf (h:cu R a nb lg sb room s fs st N xb nv dv kn H Wr F JX w) (hR:aB a R):cu R a nb lg sb room s fs st N xb nv dv kn [] Wr F JX (w.setCell ⟨xb,2,none⟩ (.slice none 0 0)):=by
 obtain⟨P,h1,h2,h3⟩:=h
 have hx:=h3.bf (xb,cH nv dv H Wr F P) (by simp[aU])
 have hnew:=aq (i:=2) hx (.slice none 0 0)
 have ht:ar (fun j=>j=xb) w (w.setCell ⟨xb,2,none⟩ (.slice none 0 0)):=ar.bU (av w xb 2 (.slice none 0 0)) rfl
 have hsub:∀p∈(P.kw++P.kf)++(kn++JX),p∈aU xb nv dv H Wr F P++(kn++JX)∧p.1≠xb:=fun p hp=>by
  rcases aO.1 hp with hp|hp
  ·refine⟨aK _ ?_,h1.x p ?_⟩
   ·rw[aU,List.append_assoc];exact List.mem_cons_of_mem _ (aJ _ hp)
   ·rw[List.append_assoc];exact aJ _ hp
  ·exact⟨aJ _ hp,fun e=>h2 p hp ⟨(xb,cH nv dv H Wr F P),by simp[aU],e.symm⟩⟩
 refine⟨{P with ha:=none,hc:=0,kh:=[]},⟨cW.nil _ _,h1.w,h1.f,fun p hp=>h1.x p (by rw[List.append_assoc];exact aJ _ hp),fun p hp=>(by cases hp),fun p hp=>(by cases hp),h1.wf⟩,fun p hp ⟨q,hq,e⟩=>h2 p hp ?_,h3.cE hR (ht.wide fun j hj=>⟨(xb,cH nv dv H Wr F P),by simp[aU],hj.symm⟩) (fun p hp=>?_)⟩
 ·rcases List.mem_cons.1 hq with rfl|hq
  ·exact⟨(xb,cH nv dv H Wr F P),by simp[aU],e⟩
  ·exact⟨q,(hsub q (aK _ hq)).1 |> fun hh=>by rw[aU,List.append_assoc];exact List.mem_cons_of_mem _ (aJ _ hq),e⟩
 ·have hcase:p=(xb,cH nv dv [] Wr F {P with ha:=none,hc:=0,kh:=[]})∨p∈(P.kw++P.kf)++(kn++JX):=by
   rcases aO.1 hp with hp|hp
   ·rcases List.mem_cons.1 hp with rfl|hp
    ·exact .inl rfl
    ·exact .inr (aK _ hp)
   ·exact .inr (aJ _ hp)
  rcases hcase with rfl|hp
  ·exact⟨.inl ⟨(xb,cH nv dv H Wr F P),by simp[aU],rfl⟩,by rw[hnew];simp[cH]⟩
  ·obtain⟨g1,g2⟩:=hsub p hp
   have hw:=h3.bf p g1
   exact⟨.inl ⟨p,g1,rfl⟩,(ht.block p.1 (aA.1 hw).1 g2).trans hw⟩
end
theorem Hl (xb:Nat):iV xb [] [] [] ni:=⟨cW.nil _ _,cW.nil _ _,cW.nil _ _,fun p hp=>(by cases hp),fun p hp=>(by cases hp),fun p hp=>(by cases hp),fun p hp=>(by cases hp)⟩
theorem yY {xb:Nat} {nv dv:Value} {kn:List (Nat×Obj)}:aU xb nv dv [] [] [] ni++(kn++[])=(xb,me nv dv)::kn:=by simp[aU,ni,me]
theorem By {xb:Nat} {nv dv:Value} {kn:List (Nat×Obj)} (h:∀p∈kn,p.1≠xb):∀p∈kn++[],¬JB (aU xb nv dv [] [] [] ni) p.1:=fun p hp ⟨q,hq,e⟩=>by
 rw[List.append_nil]at hp
 simp only[aU,ni,List.append_nil,List.mem_cons,List.not_mem_nil,or_false]at hq
 subst hq
 exact h p hp e.symm
theorem eh.Kt {a w:World} {ls:Int} {n1 xb:Nat} {nv dv:Value} {kn:List (Nat×Obj)} (h:eh a 1 ls [n1] ((xb,me nv dv)::kn) w) (hk:∀p∈kn,p.1≠xb) :
 ∃lg sb d r f,Lg.ey et 1 1 f 1 [] []∧cu mH a n1 lg sb 4194304 (Lg.aI 1 [] []) f Stat.new (fX 1 d r (cj 1) ls) xb nv dv kn [] [] [] [] w:=by
 obtain⟨lg,sb,d,r,f,hi,h⟩:=h
 exact⟨lg,sb,d,r,f,hi,ni,Hl xb,By hk,by rw[yY];exact h⟩
theorem eh.Ks {a w:World} {ls:Int} {n1 n2 xb:Nat} {nv dv:Value} {kn:List (Nat×Obj)} (h:eh a 2 ls [n1,n2] ((xb,me nv dv)::kn) w) (hk:∀p∈kn,p.1≠xb) :
 ∃c:Net,c.a=a∧c.xb=xb∧c.nv=nv∧c.kn=kn∧c.x1.nb=n1∧c.x2.nb=n2∧c.ls=ls∧Quiet c [] [] w:=by
 obtain⟨lg,sb,d,r,f,lg2,sb2,d2,r2,f2,hi,hi2,h⟩:=h
 exact⟨⟨a,xb,nv,dv,kn,⟨n1,lg,sb,d,r⟩,⟨n2,lg2,sb2,d2,r2⟩,ls⟩,rfl,rfl,rfl,rfl,rfl,rfl,rfl,⟨f,1,[],[],[]⟩,⟨f2,1,[],[],[]⟩,⟨hi,rfl,rfl⟩,⟨hi2,rfl,rfl⟩,ni,Hl xb,By hk,by rw[yY];exact h⟩
set_option maxHeartbeats 4000000 in
theorem Ew (q:Int) (w:World):Calls prog 27 #[.int .i64 q] w fun e w'=>∃g,e=.returned (.agg #[.string ⟨#[115]⟩,.int .i64 (-1),.int .i64 5,.int .i64 q,.slice (some ⟨g,0,none⟩) 1 1])∧w.heap.size≤g∧dz w' (.slice (some ⟨g,0,none⟩) 1 1) [⟨[107],[]⟩]∧Below w.heap.size w w':=by
 go_enter func27,ntmps27
 go_wp2
 have hE0:((w.alloc (.cells #[.string ⟨#[115]⟩,.int .i64 (-1),.int .i64 5,.int .i64 q,.slice (some ⟨w.heap.size+1,0,none⟩) 1 1] 38)).alloc (.cells #[.string ⟨#[107]⟩,.string ⟨#[]⟩] 122)).heap[w.heap.size]?=some (.cells #[.string ⟨#[115]⟩,.int .i64 (-1),.int .i64 5,.int .i64 q,.slice (some ⟨w.heap.size+1,0,none⟩) 1 1] 38 (0,0)) :=
  (Below.heap_alloc _ _ _ (by simp)).trans (heap_alloc_new w _)
 refine bodyPost_ret (results_cell_row rfl _ _ w.heap.size _ _ _ _ rfl hE0 underlying38 rfl lW) rfl ?_
 have hb:=heap_alloc_new (w.alloc (.cells #[.string ⟨#[115]⟩,.int .i64 (-1),.int .i64 5,.int .i64 q,.slice (some ⟨w.heap.size+1,0,none⟩) 1 1] 38)) (.cells #[.string ⟨#[107]⟩,.string ⟨#[]⟩] 122)
 rw[World.size_alloc]at hb
 exact⟨_,rfl,by omega,⟨rfl,.inr ⟨w.heap.size+1,0,1,rfl,fun j u hj=>by rw[Nat.zero_add,aw hb];simpa[cI]using hj⟩⟩,((ae _ w).alloc ab _).alloc (by simp) _⟩
end Go.Proofs.YtmgmknmaepjnoaaGreatDoor
