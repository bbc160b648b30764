/-
  Two nodes that hear one another (the law package 21): what is on its way comes.
-/
import Derived.Test.YtmgmknmaepjnoaaGreatDoorLaD
import Derived.StillTailTactics
namespace Go.Proofs.YtmgmknmaepjnoaaGreatDoor
open Go.RowKit Go.Shelf Go.Sort Proofs.Tryz
def mE (L:List Evt.Entry):Value:=.iface 79 (.agg #[.int .i64 1,.int .i64 2,.int .i64 ((L.length:Int)+1)])
def Ju (c:Net) (L:List Evt.Entry) (e:Evt.Entry) (b:Nat) (H:List (Int×Value)) (v:Value) (w:World):Prop :=
 ∃(y1 y2:ND) (P:iU) (m:Int×Value),y1.ok (L++[e]) L∧y2.ok (L++[e]) (L++[e])∧iV c.xb H [(2,gS L b)] [1] P∧(∀p∈c.kn++[],¬JB (aU c.xb c.nv c.dv H [(2,gS L b)] [1] P) p.1)∧1000<m.1∧m.2.oneCell'=true ∧
  d' (c.Cj y1) (aU c.xb c.nv c.dv H [(2,gS L b)] [1] P++(c.kn++[])) c.a c.x2.nb c.x2.lg c.x2.sb 4194304 y2.s y2.fs (dH y2.Lp) c.n2 [m,(1,mE L)] v w
def vi (c:Net) (L:List Evt.Entry) (e:Evt.Entry) (b:Nat) (H:List (Int×Value)) (w:World):Prop :=
 ∃y1 y2:ND,y1.ok (L++[e]) L∧y2.ok (L++[e]) (L++[e])∧c.at y1 y2 H [(2,gS L b),(1,mE L)] [1,2] [] w
def Jt (c:Net) (L:List Evt.Entry) (e:Evt.Entry) (b:Nat) (H:List (Int×Value)) (v:Value) (w:World):Prop :=
 ∃(y1 y2:ND) (P:iU),y1.ok (L++[e]) (L++[e])∧y2.ok (L++[e]) (L++[e])∧iV c.xb H [(2,gS L b),(1,mE L)] [1,2] P∧(∀p∈c.kn++[],¬JB (aU c.xb c.nv c.dv H [(2,gS L b),(1,mE L)] [1,2] P) p.1) ∧
  d' (c.lL y2) (aU c.xb c.nv c.dv H [(2,gS L b),(1,mE L)] [1,2] P++(c.kn++[])) c.a c.x1.nb c.x1.lg c.x1.sb 4194304 y1.s y1.fs (dH y1.Lp) c.n1 [] v w
def vj (c:Net) (L:List Evt.Entry) (e:Evt.Entry) (b:Nat) (H:List (Int×Value)) (w:World):Prop :=
 ∃y1 y2:ND,y1.ok (L++[e]) (L++[e])∧y2.ok (L++[e]) (L++[e])∧c.at y1 y2 H [(2,gS L b),(1,mE L)] [1,2] [] w
section
variable {c:Net} {L:List Evt.Entry} {e:Evt.Entry} {H:List (Int×Value)} {w:World} {b:Nat}
def xx (c:Net) (L:List Evt.Entry) (e:Evt.Entry) (b:Nat) (H:List (Int×Value)) (w:World):Prop:=∃(y1 y2:ND) (o:Obj),y1.ok (L++[e]) L∧y2.ok L L∧G6 c.a L e o∧qT c.kn b∧c.at y1 y2 H [(2,gS L b)] [1] [(b,o)] w
theorem zK.block (h:zK c L e H w):∃b,xx c L e b H w:=by
 obtain⟨y1,y2,b,o,h⟩:=h
 exact⟨b,y1,y2,o,h⟩
set_option maxHeartbeats 2000000 in
theorem D5 (now:Int) (h:xx c L e b H w) (hl:L.length≤40) :
 Calls prog 10 #[.pointer (some ⟨c.x2.nb,0,none⟩),.int .i64 1,gS L b,.int .i64 now] w fun ed w'=>∃v,ed=.returned v∧Ju c L e b H v w':=by
 obtain⟨y1,y2,o,⟨h1,h1L,h1p⟩,⟨h2,h2L,h2p⟩,⟨S,ex,se,sq,sa,sl,sc,es,he,rfl,hc,hS,hx,hn,hf⟩,hoff,P,hk,hap,hN⟩:=h
 have hfL:=h2.kH
 have hfe:=h1.kH
 have hR:aB c.a (c.Cj y1):=cn
 have hN2:ak (c.Cj y1) (aU c.xb c.nv c.dv H [(2,gS L b)] [1] P++c.kn++[(b,oX ((L.length:Int)+1) 1 S ex se sq sa sl sc)]) c.a c.x2.nb c.x2.lg c.x2.sb 4194304 y2.s y2.fs (dH y2.Lp) c.n2 w:=by
  rw[List.append_assoc];exact hN.swap
 have hrow:=hN2.row xi (fun p hp=>by
  rcases aO.1 hp with hp|hp
  ·exact fun e2=>hap (b,oX ((L.length:Int)+1) 1 S ex se sq sa sl sc) (by simp) ⟨p,hp,e2⟩
  ·exact hoff p hp) hc hS hx hn
 rw[←he]at hrow
 have hy2:y2.s=Lg.aI y2.nx y2.nu L:=by unfold ND.s;rw[h2L]
 rw[hy2,h2p]at hrow
 obtain⟨f2,n2,nums2,q1,q2⟩:=h2.accept (x:=e) (app:=(dH L).app) (room:=4194304) hfe (by rw[he];show(1:Int)≤1;omega) (by omega) (by omega)
 have hep:(cN L (L.length:Int)).1=Lg.cX L:=by rw[Lg.rk ab,List.take_length]
 have hz:=Evt.iD hf
 have hse:=(Evt.fj se).1 hz.2.2.1
 have hsq:=(Evt.fj sq).1 hz.2.2.2.1
 have happ:=ji hfL
 have hrt:Evt.bB e=true:=by
  rw[he,Evt.ke]
  exact⟨(Evt.fj _).2 ⟨by show(1:Int)≤(L.length:Int)+1;omega,by show(L.length:Int)+1≤274877906944;omega⟩,(Evt.fj _).2 ⟨by show(1:Int)≤1;omega,by show(1:Int)≤274877906944;omega⟩,hf⟩
 have hlen:(L++[e]).length=L.length+1:=by simp
 have hout:=Hq (room:=4194304) (s:=Lg.aI y2.nx y2.nu L) (qs:=[(e,.slice sa sl sc)]) (va:=some ⟨b,0,none⟩) (vc:=1) (sy:=(L.length:Int)+1+1) (cm:=(L.length:Int)) 1 now ⟨by decide,by decide⟩ hrow hR (c.I2 h2) (c.I2 q2) (show jx (cj 2) 2=0 by decide) rfl c.JG (show 0≤place (cj 2) 1 by decide) (show ahead (cj 2) 2=1 by decide) rfl (by decide) (h2.bk 1 (by omega)) (show(1:Nat)≤1 from Nat.le_refl 1) (by simp) (by simp[ag,hrt]) ⟨by omega,by omega⟩ ⟨by rw[hep];exact Lg.uR hfL,by rw[hep];have:=h2.e;omega⟩ ⟨by omega,by omega⟩ ⟨by omega,by omega⟩ (by show(L++[e]).length≤100;omega) (by show L.length<(L++[e]).length;omega) (by rw[happ];omega) (GY (by rw[happ];exact Int.le_refl _)) (by
  show ∀k,k≤(L++[e]).length→((dH L).aP ((bX (dH L) ((L++[e]).length:Int) (L++[e])).take k)).2.app≤400000
  rw[kO happ]
  exact fun k _=>tv hfe hfL (by omega) k) (by
  show ∀p∈((dH L).aP (bX (dH L) ((L++[e]).length:Int) (L++[e]))).1,0≤p.1.b.bg∧p.1.b.bg≤1000000000000
  rw[kO happ,jR]
  intro p hp
  rw[aQ.1 hp,he]
  show 0≤se∧se≤1000000000000
  omega) (by
  show((dH L).aP (bX (dH L) ((L++[e]).length:Int) (L++[e]))).1.length≤100
  rw[kO happ,jR]
  simp) q1
 refine hout.mono ?_
 rintro ed w1 ⟨v,rfl,hv⟩
 have e1:((Lg.aI n2 nums2 (L++[e])).es.length:Int)=((L++[e]).length:Int):=rfl
 have e2:(Lg.aI n2 nums2 (L++[e])).es=L++[e]:=rfl
 rw[e2,kO happ,jR]at hv
 have e3:dY c.n2 [(e,yA L e)] (dH (L++[e])).app=[pS (e,yA L e),(1,mE L)]:=by
  have ha:ahead c.n2.v c.n2.id=1:=show ahead (cj 2) 2=1 by decide
  unfold dY iS
  rw[if_neg (by simp),ha,if_neg (by decide),ji hfe,hlen]
  rfl
 rw[e3]at hv
 refine⟨v,rfl,y1,⟨f2,n2,nums2,L++[e],L++[e]⟩,P,pS (e,yA L e),⟨h1,h1L,h1p⟩,⟨q2,rfl,rfl⟩,hk,fun p hp=>hap p ?_,?_,rfl,?_⟩
 ·rw[List.append_nil]at hp;exact aK _ hp
 ·show(1000:Int)<1000+e.b.bg
  rw[he]
  show(1000:Int)<1000+se
  omega
 ·rw[List.append_nil];exact hv
theorem FW {v:Value} (h:Ju c L e b H v w) (hH:H.length≤90000):Calls prog 9 #[.pointer (some ⟨c.xb,0,none⟩),.int .i64 2,v] w fun ed w'=>ed=.returned (.tuple #[])∧∃m,vi c L e b (H++[m]) w':=by
 obtain⟨y1,y2,P,m,h1,h2,hk,hap,hm,hm2,hT⟩:=h
 refine(jK 2 hT hk hap cn (fun p hp=>?_) ⟨by simp;omega,by simp,by simp⟩).mono ?_
 ·simp only[List.mem_cons,List.not_mem_nil,or_false]at hp
  rcases hp with rfl|rfl
  ·exact hm2
  ·rfl
 ·rintro ed w1 ⟨rfl,hL⟩
  have e2:dm [m,((1:Int),mE L)]=[m]:=by simp[dm,hm]
  have e3:cS [m,((1:Int),mE L)]=[(1,mE L)]:=by simp[cS,hm]
  rw[e2,e3]at hL
  exact⟨rfl,m,y1,y2,h1,h2,hL.swap⟩
theorem D4 (now:Int) (h:vi c L e b H w) (hl:L.length≤40) :
 Calls prog 10 #[.pointer (some ⟨c.x1.nb,0,none⟩),.int .i64 2,mE L,.int .i64 now] w fun ed w'=>∃v,ed=.returned v∧Jt c L e b H v w':=by
 obtain⟨y1,y2,⟨h1,h1L,h1p⟩,h2,P,hk,hap,hN⟩:=h
 have hfe:=h1.kH
 have hfL:Evt.follows L 0 0=true:=by have:=Lg.zh hfe L.length;rwa [List.take_left']at this;rfl
 have happ:=ji hfL
 have hlen:(L++[e]).length=L.length+1:=by simp
 have hy1:y1.s=Lg.aI y1.nx y1.nu (L++[e]):=by unfold ND.s;rw[h1L]
 rw[hy1,h1p]at hN
 have hcast:(L.length:Int)+1=((L++[e]).length:Int):=by simp
 have hout:=IV 2 ((L.length:Int)+1) now ⟨by decide,by decide⟩ ⟨by omega,by omega⟩ hN (show aB c.a (c.lL y2)from cn) (c.F8 h1) c.Ha (show 0≤place (cj 2) 2 by decide) (show behind (cj 2) 1=2 by decide) (show ahead (cj 2) 1=0 by decide) rfl (by show(L++[e]).length≤300000;omega) (by rw[happ];omega) (by
  show ∀k,k≤(L++[e]).length→((dH L).aP ((bX (dH L) ((L.length:Int)+1) (L++[e])).take k)).2.app≤400000
  rw[hcast,kO happ]
  exact fun k _=>tv hfe hfL (by omega) k)
 refine hout.mono ?_
 rintro ed w1 ⟨v,rfl,hv⟩
 have e2:(Lg.aI y1.nx y1.nu (L++[e])).es=L++[e]:=rfl
 rw[e2,hcast,kO happ,jR]at hv
 exact⟨v,rfl,⟨y1.fs,y1.nx,y1.nu,L++[e],L++[e]⟩,y2,P,⟨h1,rfl,rfl⟩,h2,hk,hap,hv⟩
theorem FV {v:Value} (h:Jt c L e b H v w) (hH:H.length≤90000):Calls prog 9 #[.pointer (some ⟨c.xb,0,none⟩),.int .i64 1,v] w fun ed w'=>ed=.returned (.tuple #[])∧vj c L e b H w':=by
 obtain⟨y1,y2,P,h1,h2,hk,hap,hT⟩:=h
 refine(jK 1 hT hk hap cn (fun p hp=>by cases hp) ⟨by simp;omega,by simp,by simp⟩).mono ?_
 rintro ed w1 ⟨rfl,hL⟩
 have e2:dm []=[]:=rfl
 have e3:cS []=[]:=rfl
 rw[e2,e3,List.append_nil,List.append_nil]at hL
 exact⟨rfl,y1,y2,h1,h2,hL⟩
end
end Go.Proofs.YtmgmknmaepjnoaaGreatDoor
