/-
  Two nodes that hear one another (the law package 21): what is on its way comes.
-/
import Derived.Test.YtmgmknmaepjnoaaGreatDoorLaD
import Derived.StillTailTactics
namespace Go.Proofs.YtmgmknmaepjnoaaGreatDoor
open Go.RowKit Go.Shelf Go.Sort Proofs.Tryz
def mV (L:List Evt.Entry):Value:=.iface 79 (.agg #[.int .i64 1,.int .i64 2,.int .i64 ((L.length:Int)+1)])
def KS (c:Net) (L:List Evt.Entry) (e:Evt.Entry) (b:Nat) (H:List (Int×Value)) (v:Value) (w:World):Prop :=
 ∃(y1 y2:ND) (P:jc) (m:Int×Value),y1.ok (L++[e]) L/\y2.ok (L++[e]) (L++[e])/\js c.xb H [(2,ic L b)] [1] P/\(∀p∈c.kn++[],¬JB (bn c.xb c.nv c.dv H [(2,ic L b)] [1] P) p.1)/\1000<m.1/\m.2.oneCell'=true /\
  dH (c.Dg y1) (bn c.xb c.nv c.dv H [(2,ic L b)] [1] P++(c.kn++[])) c.a c.x2.nb c.x2.lg c.x2.sb 4194304 y2.s y2.fs (dI y2.Lp) c.n2 [m,(1,mV L)] v w
def wj (c:Net) (L:List Evt.Entry) (e:Evt.Entry) (b:Nat) (H:List (Int×Value)) (w:World):Prop :=
 ∃y1 y2:ND,y1.ok (L++[e]) L/\y2.ok (L++[e]) (L++[e])/\c.at y1 y2 H [(2,ic L b),(1,mV L)] [1,2] [] w
def KR (c:Net) (L:List Evt.Entry) (e:Evt.Entry) (b:Nat) (H:List (Int×Value)) (v:Value) (w:World):Prop :=
 ∃(y1 y2:ND) (P:jc),y1.ok (L++[e]) (L++[e])/\y2.ok (L++[e]) (L++[e])/\js c.xb H [(2,ic L b),(1,mV L)] [1,2] P/\(∀p∈c.kn++[],¬JB (bn c.xb c.nv c.dv H [(2,ic L b),(1,mV L)] [1,2] P) p.1) /\
  dH (c.rO y2) (bn c.xb c.nv c.dv H [(2,ic L b),(1,mV L)] [1,2] P++(c.kn++[])) c.a c.x1.nb c.x1.lg c.x1.sb 4194304 y1.s y1.fs (dI y1.Lp) c.n1 [] v w
def wk (c:Net) (L:List Evt.Entry) (e:Evt.Entry) (b:Nat) (H:List (Int×Value)) (w:World):Prop :=
 ∃y1 y2:ND,y1.ok (L++[e]) (L++[e])/\y2.ok (L++[e]) (L++[e])/\c.at y1 y2 H [(2,ic L b),(1,mV L)] [1,2] [] w
section
variable {c:Net} {L:List Evt.Entry} {e:Evt.Entry} {H:List (Int×Value)} {w:World} {b:Nat}
def yx (c:Net) (L:List Evt.Entry) (e:Evt.Entry) (b:Nat) (H:List (Int×Value)) (w:World):Prop:=∃(y1 y2:ND) (o:Obj),y1.ok (L++[e]) L/\y2.ok L L/\IT c.a L e o/\rJ c.kn b/\c.at y1 y2 H [(2,ic L b)] [1] [(b,o)] w
theorem wg.block (h:wg c L e H w):∃b,yx c L e b H w:=by
 obtain⟨y1,y2,b,o,h⟩:=h;exact⟨b,y1,y2,o,h⟩
set_option maxHeartbeats 2000000 in
theorem E' (now:Int) (h:yx c L e b H w) (hl:L.length<=40) :
 Calls prog 10 #[.pointer (some ⟨c.x2.nb,0,none⟩),.int .i64 1,ic L b,.int .i64 now] w fun ed w'=>∃v,ed=.returned v/\KS c L e b H v w':=by
 obtain⟨y1,y2,o,⟨h1,h1L,h1p⟩,⟨h2,h2L,h2p⟩,⟨S,ex,se,sq,sa,sl,sc,es,he,rfl,hc,hS,hx,hn,hf⟩,hoff,P,hk,hap,hN⟩:=h;have hfL:=h2.l9;have hfe:=h1.l9;have hR:aC c.a (c.Dg y1):=cu;have hN2:ah (c.Dg y1) (bn c.xb c.nv c.dv H [(2,ic L b)] [1] P++c.kn++[(b,pC ((L.length:Int)+1) 1 S ex se sq sa sl sc)]) c.a c.x2.nb c.x2.lg c.x2.sb 4194304 y2.s y2.fs (dI y2.Lp) c.n2 w:=by
  rw[List.append_assoc];exact hN.swap
 have hrow:=hN2.row yi (fun p hp=>by
  rcases aK.1 hp with hp|hp
  ·exact fun e2=>hap (b,pC ((L.length:Int)+1) 1 S ex se sq sa sl sc) (by simp) ⟨p,hp,e2⟩
  ·exact hoff p hp) hc hS hx hn
 rw[<-he]at hrow;have hy2:y2.s=Lg.aL y2.nx y2.nu L:=by unfold ND.s;rw[h2L]
 rw[hy2,h2p]at hrow;obtain⟨f2,n2,nums2,q1,q2⟩:=h2.accept (x:=e) (app:=(dI L).app) (room:=4194304) hfe (by rw[he];show(1:Int)<=1;omega) (by omega) (by omega);have hep:(cR L (L.length:Int)).1=Lg.dd L:=by rw[Lg.rW ab,List.take_length]
 have hz:=Evt.iI hf;have hse:=(Evt.fw se).1 hz.2.2.1;have hsq:=(Evt.fw sq).1 hz.2.2.2.1;have happ:=j9 hfL;have hrt:Evt.bC e=true:=by
  rw[he,Evt.kE];exact⟨(Evt.fw _).2 ⟨by show(1:Int)<=(L.length:Int)+1;omega,by show(L.length:Int)+1<=274877906944;omega⟩,(Evt.fw _).2 ⟨by show(1:Int)<=1;omega,by show(1:Int)<=274877906944;omega⟩,hf⟩
 have hlen:(L++[e]).length=L.length+1:=by simp
 have hout:=Jb (room:=4194304) (s:=Lg.aL y2.nx y2.nu L) (qs:=[(e,.slice sa sl sc)]) (va:=some ⟨b,0,none⟩) (vc:=1) (sy:=(L.length:Int)+1+1) (cm:=(L.length:Int)) 1 now ⟨by decide,by decide⟩ hrow hR (c.Kk h2) (c.Kk q2) (show jO (cy 2) 2=0 by decide) rfl c.K8 (show 0<=place (cy 2) 1 by decide) (show ahead (cy 2) 2=1 by decide) rfl (by decide) (h2.bk 1 (by omega)) (show(1:Nat)<=1 from Nat.le_refl 1) (by simp) (by simp[ag,hrt]) ⟨by omega,by omega⟩ ⟨by rw[hep];exact Lg.vM hfL,by rw[hep];have:=h2.e;omega⟩ ⟨by omega,by omega⟩ ⟨by omega,by omega⟩ (by show(L++[e]).length<=100;omega) (by show L.length<(L++[e]).length;omega) (by rw[happ];omega) (IK (by rw[happ];exact Int.le_refl _)) (by
  show ∀k,k<=(L++[e]).length->((dI L).aS ((cj (dI L) ((L++[e]).length:Int) (L++[e])).take k)).2.app<=400000;rw[lq happ];exact fun k _=>uf hfe hfL (by omega) k) (by
  show ∀p∈((dI L).aS (cj (dI L) ((L++[e]).length:Int) (L++[e]))).1,0<=p.1.b.br/\p.1.b.br<=1000000000000;rw[lq happ,kq];intro p hp;rw[aN.1 hp,he];show 0<=se/\se<=1000000000000;omega) (by
  show((dI L).aS (cj (dI L) ((L++[e]).length:Int) (L++[e]))).1.length<=100;rw[lq happ,kq];simp) q1
 refine hout.mono ?_;rintro ed w1 ⟨v,rfl,hv⟩;have e1:((Lg.aL n2 nums2 (L++[e])).es.length:Int)=((L++[e]).length:Int):=rfl;have e2:(Lg.aL n2 nums2 (L++[e])).es=L++[e]:=rfl;rw[e2,lq happ,kq]at hv;have e3:eu c.n2 [(e,zw L e)] (dI (L++[e])).app=[qE (e,zw L e),(1,mV L)]:=by
  have ha:ahead c.n2.v c.n2.id=1:=show ahead (cy 2) 2=1 by decide
  unfold eu i';rw[if_neg (by simp),ha,if_neg (by decide),j9 hfe,hlen];rfl
 rw[e3]at hv;refine⟨v,rfl,y1,⟨f2,n2,nums2,L++[e],L++[e]⟩,P,qE (e,zw L e),⟨h1,h1L,h1p⟩,⟨q2,rfl,rfl⟩,hk,fun p hp=>hap p ?_,?_,rfl,?_⟩
 ·rw[List.append_nil]at hp;exact aH _ hp
 ·show(1000:Int)<1000+e.b.br;rw[he];show(1000:Int)<1000+se;omega
 ·rw[List.append_nil];exact hv
theorem G9 {v:Value} (h:KS c L e b H v w) (hH:H.length<=90000):Calls prog 9 #[.pointer (some ⟨c.xb,0,none⟩),.int .i64 2,v] w fun ed w'=>ed=.returned (.tuple #[])/\∃m,wj c L e b (H++[m]) w':=by
 obtain⟨y1,y2,P,m,h1,h2,hk,hap,hm,hm2,hT⟩:=h;refine(kX 2 hT hk hap cu (fun p hp=>?_) ⟨by simp;omega,by simp,by simp⟩).mono ?_
 ·simp only[List.mem_cons,List.not_mem_nil,or_false]at hp;rcases hp with rfl|rfl
  ·exact hm2
  ·rfl
 ·rintro ed w1 ⟨rfl,hL⟩;have e2:dy [m,((1:Int),mV L)]=[m]:=by simp[dy,hm]
  have e3:cV [m,((1:Int),mV L)]=[(1,mV L)]:=by simp[cV,hm]
  rw[e2,e3]at hL;exact⟨rfl,m,y1,y2,h1,h2,hL.swap⟩
theorem E9 (now:Int) (h:wj c L e b H w) (hl:L.length<=40) :
 Calls prog 10 #[.pointer (some ⟨c.x1.nb,0,none⟩),.int .i64 2,mV L,.int .i64 now] w fun ed w'=>∃v,ed=.returned v/\KR c L e b H v w':=by
 obtain⟨y1,y2,⟨h1,h1L,h1p⟩,h2,P,hk,hap,hN⟩:=h;have hfe:=h1.l9;have hfL:Evt.follows L 0 0=true:=by have:=Lg.Ak hfe L.length;rwa [List.take_left']at this;rfl
 have happ:=j9 hfL;have hlen:(L++[e]).length=L.length+1:=by simp
 have hy1:y1.s=Lg.aL y1.nx y1.nu (L++[e]):=by unfold ND.s;rw[h1L]
 rw[hy1,h1p]at hN;have hcast:(L.length:Int)+1=((L++[e]).length:Int):=by simp
 have hout:=Kd 2 ((L.length:Int)+1) now ⟨by decide,by decide⟩ ⟨by omega,by omega⟩ hN (show aC c.a (c.rO y2)from cu) (c.Hg h1) c.IX (show 0<=place (cy 2) 2 by decide) (show behind (cy 2) 1=2 by decide) (show ahead (cy 2) 1=0 by decide) rfl (by show(L++[e]).length<=300000;omega) (by rw[happ];omega) (by
  show ∀k,k<=(L++[e]).length->((dI L).aS ((cj (dI L) ((L.length:Int)+1) (L++[e])).take k)).2.app<=400000;rw[hcast,lq happ];exact fun k _=>uf hfe hfL (by omega) k)
 refine hout.mono ?_;rintro ed w1 ⟨v,rfl,hv⟩;have e2:(Lg.aL y1.nx y1.nu (L++[e])).es=L++[e]:=rfl;rw[e2,hcast,lq happ,kq]at hv;exact⟨v,rfl,⟨y1.fs,y1.nx,y1.nu,L++[e],L++[e]⟩,y2,P,⟨h1,rfl,rfl⟩,h2,hk,hap,hv⟩
theorem G8 {v:Value} (h:KR c L e b H v w) (hH:H.length<=90000):Calls prog 9 #[.pointer (some ⟨c.xb,0,none⟩),.int .i64 1,v] w fun ed w'=>ed=.returned (.tuple #[])/\wk c L e b H w':=by
 obtain⟨y1,y2,P,h1,h2,hk,hap,hT⟩:=h;refine(kX 1 hT hk hap cu (fun p hp=>by cases hp) ⟨by simp;omega,by simp,by simp⟩).mono ?_;rintro ed w1 ⟨rfl,hL⟩;have e2:dy []=[]:=rfl;have e3:cV []=[]:=rfl;rw[e2,e3,List.append_nil,List.append_nil]at hL;exact⟨rfl,y1,y2,h1,h2,hL⟩
end
end Go.Proofs.YtmgmknmaepjnoaaGreatDoor
