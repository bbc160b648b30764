/-
  The law package 21's one; how its nodes begin.
-/
import Derived.Test.YtmgmknmaepjnoaaGreatDoorLaD
namespace Go.Proofs.YtmgmknmaepjnoaaGreatDoor
open Go.RowKit Go.Shelf Go.Sort Proofs.Tryz
def GM (v:Value) (es:List Evt.Event):(Nat->Prop)->(Nat->Prop)->World->Prop:=fun _ X w=>dp w v es/\∀b,v.ownBlock=some b->es≠[]->¬X b
theorem AY (a:World) (v:Value) (es:List Evt.Event):aC a (GM v es):=by
 rintro T T' X X' w w' ⟨h,hx⟩ ht h1 h2 h3 h4 h5 h6;refine⟨jq (p:=(⟨0,0,⟨[],0,0,0,es⟩⟩,v)) h hx (ht.wide h1),fun b hb he e=>?_⟩;rcases h3 b e with e2|e2
 ·exact hx b hb he e2
 ·have:=kt h hb he;omega
theorem Gm (a:World) (v:Value) (es:List Evt.Event):lG (GM v es) a v es:=fun _ _ _ _ _ h=>h
section
variable {R:(Nat->Prop)->(Nat->Prop)->World->Prop} {a w w':World} {nb lg sb:Nat} {room:Int} {s:Lg.S} {fs:List Dk.ai} {st:Stat} {N:Nd} {xb:Nat} {nv dv v:Value} {kn JX:List (Nat×Obj)} {H Wr:List (Int×Value)} {F:List Int} {es:List Evt.Event}
theorem bB.events (h:bB mY a nb lg sb room s fs st N xb nv dv kn H Wr F JX w) (hb:Below w.heap.size w w') (he:dp w' v es) (hv:∀b,v.ownBlock=some b->es≠[]->w.heap.size<=b):bB (GM v es) a nb lg sb room s fs st N xb nv dv kn H Wr F JX w':=by
 obtain⟨P,h1,h2,h3⟩:=h;have h4:=h3.enter (R':=GM v es) (J2:=[]) (eQ a) hb (fun p hp=>by cases hp) (fun T X' hX _=>⟨he,fun b hb2 hne hx=>by
  rcases (hX b hx).2 with e|⟨p,hp,_⟩
  ·have:=hv b hb2 hne;omega
  ·cases hp⟩)
 rw[List.append_nil]at h4;exact⟨P,h1,h2,h4⟩
end
theorem I6 (xb:Nat):js xb [] [] [] nH:=⟨dV.nil _ _,dV.nil _ _,dV.nil _ _,fun p hp=>(by cases hp),fun p hp=>(by cases hp),fun p hp=>(by cases hp),fun p hp=>(by cases hp)⟩
theorem Ab {xb:Nat} {nv dv:Value} {kn:List (Nat×Obj)}:bn xb nv dv [] [] [] nH++(kn++[])=(xb,mA nv dv)::kn:=by simp[bn,nH,mA]
theorem CA {xb:Nat} {nv dv:Value} {kn:List (Nat×Obj)} (h:∀p∈kn,p.1≠xb):∀p∈kn++[],¬JB (bn xb nv dv [] [] [] nH) p.1:=fun p hp ⟨q,hq,e⟩=>by
 rw[List.append_nil]at hp;simp only[bn,nH,List.append_nil,List.mem_cons,List.not_mem_nil,or_false]at hq;subst hq;exact h p hp e.symm
theorem eF.LU {a w:World} {ls:Int} {n1 xb:Nat} {nv dv:Value} {kn:List (Nat×Obj)} (h:eF a 1 ls [n1] ((xb,mA nv dv)::kn) w) (hk:∀p∈kn,p.1≠xb) :
 ∃lg sb d r f,Lg.eK eG 1 1 f 1 [] []/\bB mY a n1 lg sb 4194304 (Lg.aL 1 [] []) f Stat.new (gr 1 d r (cy 1) ls) xb nv dv kn [] [] [] [] w:=by
 obtain⟨lg,sb,d,r,f,hi,h⟩:=h;exact⟨lg,sb,d,r,f,hi,nH,I6 xb,CA hk,by rw[Ab];exact h⟩
theorem eF.LS {a w:World} {ls:Int} {n1 n2 xb:Nat} {nv dv:Value} {kn:List (Nat×Obj)} (h:eF a 2 ls [n1,n2] ((xb,mA nv dv)::kn) w) (hk:∀p∈kn,p.1≠xb) :
 ∃c:Net,c.a=a/\c.xb=xb/\c.nv=nv/\c.kn=kn/\c.x1.nb=n1/\c.x2.nb=n2/\(c.ls=ls/\c.ak=0)/\Quiet c [] [] w:=by
 obtain⟨lg,sb,d,r,f,lg2,sb2,d2,r2,f2,hi,hi2,h⟩:=h;exact⟨⟨a,xb,nv,dv,kn,⟨n1,lg,sb,d,r⟩,⟨n2,lg2,sb2,d2,r2⟩,ls,0⟩,rfl,rfl,rfl,rfl,rfl,rfl,⟨rfl,rfl⟩,⟨f,1,[],[],[]⟩,⟨f2,1,[],[],[]⟩,⟨hi,rfl,rfl⟩,⟨hi2,rfl,rfl⟩,nH,I6 xb,CA hk,by rw[Ab];exact h⟩
set_option maxHeartbeats 4000000 in
theorem FL (q:Int) (w:World):Calls prog 27 #[.int .i64 q] w fun e w'=>∃g,e=.returned (.agg #[.string ⟨#[115]⟩,.int .i64 (-1),.int .i64 5,.int .i64 q,.slice (some ⟨g,0,none⟩) 1 1])/\w.heap.size<=g/\dp w' (.slice (some ⟨g,0,none⟩) 1 1) [⟨[107],[]⟩]/\Below w.heap.size w w':=by
 go_enter func27,ntmps27;go_wp2;have hE0:((w.alloc (.cells #[.string ⟨#[115]⟩,.int .i64 (-1),.int .i64 5,.int .i64 q,.slice (some ⟨w.heap.size+1,0,none⟩) 1 1] 38)).alloc (.cells #[.string ⟨#[107]⟩,.string ⟨#[]⟩] 122)).heap[w.heap.size]?=some (.cells #[.string ⟨#[115]⟩,.int .i64 (-1),.int .i64 5,.int .i64 q,.slice (some ⟨w.heap.size+1,0,none⟩) 1 1] 38 (0,0)) :=
  (Below.heap_alloc _ _ _ (by simp)).trans (heap_alloc_new w _)
 refine bodyPost_ret (results_cell_row rfl _ _ w.heap.size _ _ _ _ rfl hE0 underlying38 rfl mq) rfl ?_;have hb:=heap_alloc_new (w.alloc (.cells #[.string ⟨#[115]⟩,.int .i64 (-1),.int .i64 5,.int .i64 q,.slice (some ⟨w.heap.size+1,0,none⟩) 1 1] 38)) (.cells #[.string ⟨#[107]⟩,.string ⟨#[]⟩] 122);rw[World.size_alloc]at hb;exact⟨_,rfl,by omega,⟨rfl,.inr ⟨w.heap.size+1,0,1,rfl,fun j u hj=>by rw[Nat.zero_add,aw hb];simpa[cZ]using hj⟩⟩,((ae _ w).alloc ab _).alloc (by simp) _⟩
end Go.Proofs.YtmgmknmaepjnoaaGreatDoor
