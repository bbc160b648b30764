/-
  The law NodeFenced, lifted: a node that has a view of an epoch takes nothing that is of another one, nor a view that is not newer: nothing is written, committed, or told
-/
import Derived.Test.YtmgmknmaepjnoaaGreatDoorLaN
import Derived.Test.YtmgmknmaepjnoaaGreatDoorCards
import Derived.Test.YtmgmknmaepjnoaaGreatDoorTie
import Derived.Carry
namespace Go.Proofs.YtmgmknmaepjnoaaGreatDoor
open Proofs.Tryz
open Go.Shelf Go.ChangeShapes Go.WideShapes Go.ChangeAt Go.RowKit Go.Lib
open Go.ChangeMaps (open_string shut_string)
theorem laidOut:laidOutB prog=true:=by kernel_rfl
theorem B7 {H:Type} {enc:TypeId×Value->H} {W:World} {a0:Option Addr} {len cap:Nat} {d:DataW H} {p:List MemPlace}
 (h:DataW.Trod enc prog W 0 (fun _=>true) true 67 (.slice a0 len cap) d p):∃ps:List (Evt.Entry×Value),kU W (.slice a0 len cap) ps/\AK (.slice a0 len cap):=by
 obtain⟨fuel,hf⟩:=h;exact zx hf
theorem IF {H:Type} {enc:TypeId×Value->H} {W:World} {a0:Option Addr} {len cap:Nat} {d:DataW H} {p:List MemPlace}
 (h:DataW.Trod enc prog W 0 (fun _=>true) true 22 (.slice a0 len cap) d p):∃l,jG W (.slice a0 len cap) l:=by
 obtain⟨fuel,hf⟩:=h;exact Bs hf
section
variable {H:Type} {enc:TypeId×Value->H} {P:Program} {w:World} {base:Nat} {spare:Nat->Bool} {held:Bool}
theorem trodAll_four {t0 t1 t2 t3:TypeId} {args:Array Value} {ds:List (DataW H)} {ps:List MemPlace} (h:DataW.TrodAll enc P w base spare held [t0,t1,t2,t3] args.toList ds ps) :
 ∃v0 v1 v2 v3 d0 d1 d2 d3 p0 p1 p2 p3,args=#[v0,v1,v2,v3]/\ds=[d0,d1,d2,d3]/\ps=p0++(p1++(p2++p3))/\DataW.Trod enc P w base spare held t0 v0 d0 p0/\DataW.Trod enc P w base spare held t1 v1 d1 p1/\DataW.Trod enc P w base spare held t2 v2 d2 p2/\DataW.Trod enc P w base spare held t3 v3 d3 p3:=by
 obtain⟨v0,vs,d0,e0,p0,q0,ha,rfl,rfl,k0,h⟩:=trodAll_cons h;obtain⟨v1,vs1,d1,e1,p1,q1,rfl,rfl,rfl,k1,h⟩:=trodAll_cons h;obtain⟨v2,vs2,d2,e2,p2,q2,rfl,rfl,rfl,k2,h⟩:=trodAll_cons h;obtain⟨v3,vs3,d3,e3,p3,q3,rfl,rfl,rfl,k3,h⟩:=trodAll_cons h;obtain⟨rfl,rfl,rfl⟩:=trodAll_nil h;exact⟨v0,v1,v2,v3,d0,d1,d2,d3,p0,p1,p2,p3,by cases args;simp_all,rfl,by simp,k0,k1,k2,k3⟩
theorem trodAll_mk4 {t0 t1 t2 t3:TypeId} {v0 v1 v2 v3:Value} {d0 d1 d2 d3:DataW H} {p0 p1 p2 p3:List MemPlace} (h0:DataW.Trod enc P w base spare held t0 v0 d0 p0) (h1:DataW.Trod enc P w base spare held t1 v1 d1 p1) (h2:DataW.Trod enc P w base spare held t2 v2 d2 p2) (h3:DataW.Trod enc P w base spare held t3 v3 d3 p3) :
 DataW.TrodAll enc P w base spare held [t0,t1,t2,t3] [v0,v1,v2,v3] [d0,d1,d2,d3] (p0++(p1++(p2++p3))):=⟨p0,_,h0,trodAll_mk3 h1 h2 h3,rfl⟩
end
theorem qg (os:Os) {H:Type} (enc:TypeId×Value->H) :
 (OpenSpec.ofChange Rows.nodeFencedSpec).preRow enc prog Tryz.f5 Rows.nodeFencedRow.domain false Rows.nodeFencedRow.laid ((nE os).forCall (fun _ _=>0) ⟨#[],#[.slice none 0 0,.int .i64 0,.slice none 0 0,.int .i64 0],[]⟩).memory #[.slice none 0 0,.int .i64 0,.slice none 0 0,.int .i64 0]:=by
 have hw:(DataW.whole enc prog ((nE os).forCall (fun _ _=>0) ⟨#[],#[.slice none 0 0,.int .i64 0,.slice none 0 0,.int .i64 0],[]⟩).memory Tryz.f5.params.toList (OpenSpec.ofChange Rows.nodeFencedSpec).vars false #[Value.slice none 0 0,Value.int .i64 0,Value.slice none 0 0,Value.int .i64 0].toList 8).map (fun x=>(x.1,x.2.1)) =
  some ([.nil,.lit (.int .i64 0),.nil,.lit (.int .i64 0)],[]):=by kernel_rfl
 obtain⟨⟨x1,x2,x3⟩,hx,hx1⟩:=Option.map_eq_some_iff.1 hw;simp only[Prod.mk.injEq]at hx1;obtain⟨rfl,rfl⟩:=hx1;exact OpenSpec.preRow_of_cond 8 hx (by kernel_rfl) (fun k hk=>by cases hk) (by kernel_rfl) (Ih os _)
set_option maxRecDepth 100000 in
set_option maxHeartbeats 2000000 in
theorem sf (os:Os) (started:os.Started) (H:Type) (enc:TypeId×Value->H) (F:Stop.Interp) :
 ReturnsInHanded {} Tryz.checked os 5 .any ((OpenSpec.ofChange Rows.nodeFencedSpec).preRow enc prog Tryz.f5 Rows.nodeFencedRow.domain false Rows.nodeFencedRow.laid) (((OpenSpec.ofChange Rows.nodeFencedSpec).at F).post enc prog Tryz.f5 false true false false):=by
 refine returnsInHanded_of_row (C:=Tryz.checked) (s:=OpenSpec.ofChange Rows.nodeFencedSpec) own started (by kernel_rfl) func5
  (witness_row_atRef (enc:=enc) (C:=Tryz.checked) false (nE os) #[.slice none 0 0,.int .i64 0,.slice none 0 0,.int .i64 0] rfl (by kernel_rfl) (by kernel_rfl) (by kernel_rfl) (qg os enc)) ?_
 intro W base args ds gs before hval0 hW _ _ _ hL _ _;have hval:∀(j:Nat) t v,Tryz.f5.params[j]?=some t->args[j]?=some v->Value.okWide prog W .any base t v:=hval0;have hW':=hW;obtain⟨p,q,hA0,hV0,rfl,_,_⟩:=hW;have hA:DataW.TrodAll enc prog W 0 (fun _=>true) true Tryz.f5.params.toList args.toList ds p:=hA0;rw[Tryz.params5]at hA hval;obtain⟨v0,v1,v2,v3,d0,d1,d2,d3,p0,p1,p2,p3,rfl,rfl,rfl,h0,h1,h2,h3⟩:=trodAll_four hA;obtain⟨rfl,rfl⟩:=trodVars_none hV0;have h0k:=h0;obtain⟨a0,len0,cap0,rfl⟩:=okWide_slice underlying22 (hval 0 22 v0 rfl rfl);have hlt0:∀x∈p0,x.block<W.heap.size:=fun x hx=>hW'.lt x (by simp[hx]);obtain⟨es0,hc0⟩:=IF h0;obtain⟨n1,rfl,rfl,rfl,ws1⟩:=open_int underlying3 (hval 1 3 v1 rfl rfl) h1;have wn1 : -9223372036854775808<=n1/\n1<=9223372036854775807:=by
  have h2:(decide (IntKind.i64.min<=n1)&&decide (n1<=IntKind.i64.max))=true:=ws1;rw[Bool.and_eq_true,decide_eq_true_eq,decide_eq_true_eq]at h2;have e1:IntKind.i64.min = -9223372036854775808:=by decide
  have e2:IntKind.i64.max=9223372036854775807:=by decide
  rw[e1,e2]at h2;exact h2
 have h2k:=h2;obtain⟨a2,len2,cap2,rfl⟩:=okWide_slice underlying67 (hval 2 67 v2 rfl rfl);have hlt2:∀x∈p2,x.block<W.heap.size:=fun x hx=>hW'.lt x (by simp[hx]);obtain⟨es2,hc2,hcap2⟩:=B7 h2;obtain⟨n3,rfl,rfl,rfl,ws3⟩:=open_int underlying3 (hval 3 3 v3 rfl rfl) h3;have wn3 : -9223372036854775808<=n3/\n3<=9223372036854775807:=by
  have h2:(decide (IntKind.i64.min<=n3)&&decide (n3<=IntKind.i64.max))=true:=ws3;rw[Bool.and_eq_true,decide_eq_true_eq,decide_eq_true_eq]at h2;have e1:IntKind.i64.min = -9223372036854775808:=by decide
  have e2:IntKind.i64.max=9223372036854775807:=by decide
  rw[e1,e2]at h2;exact h2
 clear hA0 hV0 hval0;have hE:Env W:=B0 hL;refine(vA (.slice a0 len0 cap0) es0 n1 (.slice a2 len2 cap2) es2 n3 W hE hc0 wn1 hc2 hcap2 wn3).mono ?_;rintro e W' ⟨rfl,bel⟩;have e1:((OpenSpec.ofChange Rows.nodeFencedSpec).at F).fn H ([d0,.lit (.int .i64 n1),d2,.lit (.int .i64 n3)]++[])={results:=[.lit (.bool true)],args:=[d0,.lit (.int .i64 n1),d2,.lit (.int .i64 n3)]}:=rfl;refine⟨_,rfl,_,_,_,[],p0++([]++(p2++[])),[],hW',?_,?_,?_,bel.frame _,fun h=>by cases h⟩
 ·rw[e1];exact trodAll_mk1 (shut_bool underlying4 _)
 ·rw[e1];exact trodAll_mk4 (Below.trod laidOut (by kernel_rfl) (of_decide_eq_true (by kernel_rfl)) h0k bel hlt0) (shut_int underlying3 ws1) (Below.trod laidOut (by kernel_rfl) (of_decide_eq_true (by kernel_rfl)) h2k bel hlt2) (shut_int underlying3 ws3)
 ·rw[e1];rfl
end Go.Proofs.YtmgmknmaepjnoaaGreatDoor
