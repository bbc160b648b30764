/-
  A node: Take, whole, of the messages that the laws send.
-/
import Derived.Test.YtmgmknmaepjnoaaGreatDoorNodN
import Derived.Test.YtmgmknmaepjnoaaGreatDoorNodK
namespace Go.Proofs.YtmgmknmaepjnoaaGreatDoor
open Go.RowKit Go.Shelf Go.Sort Proofs.Tryz
def dH (R:(Nat->Prop)->(Nat->Prop)->World->Prop) (J:List (Nat×Obj)) (a:World) (nb lg sb:Nat) (room:Int) (s:Lg.S) (fs:List Dk.ai) (st:Stat) (N:Nd) (O:List (Int×Value)) (v:Value) (w:World):Prop :=
 ∃oa oc Ko,v=.slice oa O.length oc/\AL oa oc O Ko/\(∀p∈Ko,∀q∈J,p.1≠q.1)/\ah R (Ko++J) a nb lg sb room s fs st {N with outs:=[]} w
def Calm (N:Nd) (s:Lg.S) (fs:List Dk.ai) (st:Stat):Prop:=(eU N.v/\d' N=false)\/(gq N fs/\d' N=true/\st.app=s.es.length/\s.es.length<=100)
section
variable {R:(Nat->Prop)->(Nat->Prop)->World->Prop} {a w w':World} {nb lg sb:Nat} {room:Int} {s s':Lg.S} {fs fs':List Dk.ai} {st st2:Stat} {J:List (Nat×Obj)} {N M:Nd} {O:List (Int×Value)}
theorem gH (h:ah R J a nb lg sb room s fs st N w) (hR:aC a R) (hO:N.outs=O):Calls prog 38 #[.pointer (some ⟨nb,0,none⟩)] w fun e w'=>∃v,e=.returned v/\dH R J a nb lg sb room s fs st N O v w':=by
 subst hO;refine(GU h hR).mono ?_;rintro e w' ⟨oa,oc,Ko,rfl,h1,h3,h2⟩;exact⟨_,rfl,oa,oc,Ko,rfl,h1,h3,h2⟩
theorem dA (h:ah R J a nb lg sb room s fs st N w) (hR:aC a R) (hc:Calm N s fs st) (hn:N.outs.length<=500):Calls prog 35 #[.pointer (some ⟨nb,0,none⟩)] w fun e w'=>e=.returned (.tuple #[])/\ah R J a nb lg sb room s fs st N w':=by
 rcases hc with⟨hV,ht⟩|⟨hV,ht,ha,hl⟩
 ·refine(Dh h hR hV ht).mono ?_;rintro e w' ⟨rfl,b⟩;exact⟨rfl,h.next hR b⟩
 ·have e:cj st s.es.length s.es=[]:=by unfold cj;rw[if_pos (by omega)]
  have e2:st.aS []=([],st):=rfl;have:=nJ h hR hV ht hn hl (by omega) (by rw[e];intro k _;rw[List.take_nil,e2];show st.app<=400000;omega);rw[e,e2]at this;have e3:eu N [] st.app=[]:=by simp[eu]
  simp only[e3,List.append_nil]at this;exact this (fun p hp=>by cases hp) (Nat.zero_le _)
theorem K7 {T:TypeId} {V:Value} (fr now ep:Int) (h47:T≠47) (h45:T≠45) (h42:T≠42) (h49:T≠49) (hf:1<=fr/\fr<=100)
 (HR:Calls prog 13 #[.iface T V] w (fun e w'=>e=.returned (.bool true)/\Below w.heap.size w w')) (HE:∀Z,Below w.heap.size w Z->Calls prog 69 #[.iface T V] Z (fun e w'=>e=.returned (.int .i64 ep)/\Below Z.heap.size Z w'))
 (h:ah R J a nb lg sb room s fs st N w) (hR:aC a R) (hV:eU N.v) (hp:0<=place N.v N.id) (hno:ep≠N.v.ep\/place N.v fr<0) (hc:Calm N s fs st) (hO:N.outs=[]) :
 Calls prog 10 #[.pointer (some ⟨nb,0,none⟩),.int .i64 fr,.iface T V,.int .i64 now] w fun e w'=>∃v,e=.returned v/\dH R J a nb lg sb room s fs st N [] v w' :=
 qu (P1:=ah R J a nb lg sb room s fs st N) (P2:=ah R J a nb lg sb room s fs st N) fr now h47 h45 h42 h49 hf HR
  (fun Z hZ=>(vz fr now ep T V (h.next hR hZ) hR hV hp (fun Y hY=>HE Y (Below.up hZ ab hY)) hno).mono fun _ _ hx=>⟨hx.1,(h.next hR hZ).next hR hx.2⟩)
  (fun Z hz=>dA hz hR hc (by rw[hO];exact Nat.zero_le _)) (fun Z hz=>gH hz hR hO)
theorem Ja {T:TypeId} {V:Value} (fr now:Int) (h47:T≠47) (h45:T≠45) (h42:T≠42) (h49:T≠49) (hf:fr<1)
 (HR:Calls prog 13 #[.iface T V] w (fun e w'=>e=.returned (.bool true)/\Below w.heap.size w w'))
 (h:ah R J a nb lg sb room s fs st N w) (hR:aC a R) (hc:Calm N s fs st) (hO:N.outs=[]) :
 Calls prog 10 #[.pointer (some ⟨nb,0,none⟩),.int .i64 fr,.iface T V,.int .i64 now] w fun e w'=>∃v,e=.returned v/\dH R J a nb lg sb room s fs st N [] v w' :=
 E8 (P1:=ah R J a nb lg sb room s fs st N) (P2:=ah R J a nb lg sb room s fs st N) fr now h47 h45 h42 h49 hf HR (fun Z hZ=>h.next hR hZ)
  (fun Z hz=>dA hz hR hc (by rw[hO];exact Nat.zero_le _)) (fun Z hz=>gH hz hR hO)
theorem uC {x0 x1:Int} (h0:0<=x0/\x0<=274877906944) (h1:0<=x1/\x1<=274877906944):([x0,x1].all bF&&true)=true:=by
 simp[bF];omega
theorem yJ (x1 now:Int) (h1:0<=x1/\x1<=274877906944) (h:ah R J a nb lg sb room s fs st N w) (hR:aC a R) (hV:eU N.v) (hc:Calm {N with ez:=max N.ez x1} s fs st) (hO:N.outs=[]) :
 Calls prog 10 #[.pointer (some ⟨nb,0,none⟩),.int .i64 0,.iface 45 (.agg #[.int .i64 N.v.ep,.int .i64 x1]),.int .i64 now] w fun e w'=>∃v,e=.returned v/\dH R J a nb lg sb room s fs st {N with ez:=max N.ez x1} [] v w':=by
 refine vn (P1:=ah R J a nb lg sb room s fs st {N with ez:=max N.ez x1}) (P2:=ah R J a nb lg sb room s fs st {N with ez:=max N.ez x1}) x1 N.v.ep N.ez now (fun Z hZ=>?_) ?_ (fun Z hZ=>(h.next hR hZ).Kv _ hR) (fun Z Z' hz hb=>hz.next hR hb) (fun Z hz=>dA hz hR hc (by show N.outs.length<=500;rw[hO];exact Nat.zero_le _)) (fun Z hz=>gH hz hR hO)
 ·obtain⟨P,hh,_,_⟩:=(h.next hR hZ).heap;obtain⟨_,_,_,_,c4,_,_,_,c8,_⟩:=cM hh;exact⟨c4,c8,ay hh 8⟩
 ·have:=nP N.v.ep x1 w;rw[uC ⟨by have:=hV.1;omega,hV.2.1⟩ h1]at this;exact this
theorem AQ (x0 x1 now:Int) (h0:0<=x0/\x0<=274877906944) (h1:0<=x1/\x1<=274877906944) (hne:x0≠N.v.ep) (h:ah R J a nb lg sb room s fs st N w) (hR:aC a R) (hc:Calm N s fs st) (hO:N.outs=[]) :
 Calls prog 10 #[.pointer (some ⟨nb,0,none⟩),.int .i64 0,.iface 45 (.agg #[.int .i64 x0,.int .i64 x1]),.int .i64 now] w fun e w'=>∃v,e=.returned v/\dH R J a nb lg sb room s fs st N [] v w':=by
 refine xK (P1:=ah R J a nb lg sb room s fs st N) (P2:=ah R J a nb lg sb room s fs st N) x0 x1 N.v.ep now hne (fun Z hZ=>(h.next hR hZ).c3.1) ?_ (fun Z hZ=>h.next hR hZ) (fun Z hz=>dA hz hR hc (by rw[hO];exact Nat.zero_le _)) (fun Z hz=>gH hz hR hO);have:=nP x0 x1 w;rw[uC h0 h1]at this;exact this
theorem EZ (fr x0 x1 now:Int) (hf:1<=fr/\fr<=100) (h0:0<=x0/\x0<=274877906944) (h1:0<=x1/\x1<=274877906944) (h:ah R J a nb lg sb room s fs st N w) (hR:aC a R) (hV:eU N.v) (hp:0<=place N.v N.id) (hno:(x0≠N.v.ep\/place N.v fr<0)\/(x0=N.v.ep/\0<=place N.v fr)) (hc:Calm N s fs st) (hO:N.outs=[]) :
 Calls prog 10 #[.pointer (some ⟨nb,0,none⟩),.int .i64 fr,.iface 45 (.agg #[.int .i64 x0,.int .i64 x1]),.int .i64 now] w fun e w'=>∃v,e=.returned v/\dH R J a nb lg sb room s fs st N [] v w':=by
 have HR:=nP x0 x1 w;rw[uC h0 h1]at HR;have HE:=fun Z=>BZ x0 x1 Z;rw[if_pos (uC h0 h1)]at HE;refine AR (P1:=ah R J a nb lg sb room s fs st N) (P2:=ah R J a nb lg sb room s fs st N) x0 x1 fr now hf HR (fun Z hZ=>?_) (fun Z hz=>dA hz hR hc (by rw[hO];exact Nat.zero_le _)) (fun Z hz=>gH hz hR hO);rcases hno with hno|⟨rfl,hq⟩
 ·exact(vz fr now x0 _ _ (h.next hR hZ) hR hV hp (fun Y _=>HE Y) hno).mono fun _ _ hx=>⟨hx.1,(h.next hR hZ).next hR hx.2⟩
 ·exact(DN fr now N.v.ep x1 (h.next hR hZ) hR hV hp (fun Y _=>HE Y) hq).mono fun _ _ hx=>⟨hx.1,(h.next hR hZ).next hR hx.2⟩
theorem Cl (V:Vw) (A:q_gk) (now:Int) (hA:fE w V A) (hV:eU V) (hep:N.v.ep<V.ep) (hf:(al.cx fs).1<=V.ep) (hroom:room<=4194304) (hr:al.jj room V.ep fs=(fs',0)) (h:ah R J a nb lg sb room s fs st N w) (hR:aC a R) (hc:Calm {N with v:=V,ez:=0,q:=none} s fs' st) (hO:N.outs=[]) (hb:(cE V.ch&&cE V.si&&cE V.bo)=true) :
 Calls prog 10 #[.pointer (some ⟨nb,0,none⟩),.int .i64 0,.iface 47 (dw V A),.int .i64 now] w fun e w'=>∃v,e=.returned v/\dH R J a nb lg sb room s fs' st {N with v:=V,ez:=0,q:=none} [] v w':=by
 have hl:V.ch.length<=100/\V.si.length<=100/\V.bo.length<=100:=by have:=hV.2.2.2.1;have:=hV.2.2.2.2.1;have:=hV.2.2.2.2.2.1;omega
 have HR:=dK w (qQ V.ep A.ca V.ch.length A.cc A.sa V.si.length A.sc A.ba V.bo.length A.bc) (o4 V A (jm ..) hA hl.1 hl.2.1 hl.2.2) (c:=4) (jm ..) (by simp);have h4:([V.ep].all bF&&(cE V.ch&&cE V.si&&cE V.bo))=true:=by
  rw[hb];simp[bF];have:=hV.1;have:=hV.2.1;omega
 rw[h4]at HR;exact wJ (P1:=ah R J a nb lg sb room s fs' st {N with v:=V,ez:=0,q:=none}) (P2:=ah R J a nb lg sb room s fs' st {N with v:=V,ez:=0,q:=none}) now HR (fun Z hZ=>IL V A (h.next hR hZ) hR (hA.next hZ) hV hep hf hroom hr) (fun Z Z' hz hb=>hz.next hR hb) (fun Z hz=>dA hz hR hc (by show N.outs.length<=500;rw[hO];exact Nat.zero_le _)) (fun Z hz=>gH hz hR hO)
theorem Nd.same (h:N.outs=[]):{N with outs:=[]}=N:=by
 obtain⟨id,vU,d,r,v,ez,q,asked,saved,outs⟩:=N;simp only at h;subst h;rfl
set_option maxHeartbeats 4000000 in
theorem E0 {T:TypeId} {V:Value} (fr now:Int) (HR:Calls prog 13 #[.iface T V] w (fun e w'=>e=.returned (.bool false)/\Below w.heap.size w w')) (h:ah R J a nb lg sb room s fs st N w) (hR:aC a R) (hO:N.outs=[]) :
 Calls prog 10 #[.pointer (some ⟨nb,0,none⟩),.int .i64 fr,.iface T V,.int .i64 now] w fun e w'=>∃v,e=.returned v/\dH R J a nb lg sb room s fs st N [] v w':=by
 have HRH:=ad HR;have HX:=ad (fun Z (hb:Below w.heap.size w Z)=>(show dH R J a nb lg sb room s fs st N [] (.slice none 0 0) Z from⟨none,0,[],rfl,tf,fun p hp=>(by cases hp),by rw[Nd.same hO];exact h.next hR hb⟩));clear HR h hO;go_enter func10,ntmps10;go_wp2_with fail;refine HRH.out.mono ?_;rintro e w1 ⟨rfl,b1⟩;have H:=ad (HX.out w1 b1);clear b1 HRH HX;go_wp2;go_ret;exact⟨_,rfl,H.out⟩
theorem vY {x0:Int} {S:ByteArray} {ex se sq:Int} {sa:Option Addr} {sl sc:Nat} {es:List Evt.Event} (hE:Env w) (hS:S.size<=1000000) (hc:dp w (.slice sa sl sc) es) (hn:es.length<=1000000) (hx:Small es) (h0:0<=x0/\x0<=274877906944) :
 Calls prog 13 #[.iface 42 (.agg #[.int .i64 x0,.string S,.int .i64 ex,.int .i64 se,.int .i64 sq,.slice sa sl sc])] w fun e w'=>e=.returned (.bool (decide (Evt.fits ⟨S.data.toList,ex,se,sq,es⟩=0)))/\Below w.heap.size w w':=by
 have HR:=dK w (Bt x0 S ex se sq sa sl sc) (zt x0 S ex se sq sa sl sc es (sG ..) hE hS hc hn hx) (c:=11) (sG ..) (by simp);have h1:[x0].all bF=true:=by simp[bF];omega
 rw[h1,Bool.true_and]at HR;exact HR
def pC (p ep:Int) (S:ByteArray) (ex se sq:Int) (sa:Option Addr) (sl sc:Nat):Obj:=.cells #[.int .i64 p,.int .i64 ep,.string S,.int .i64 ex,.int .i64 se,.int .i64 sq,.slice sa sl sc] 95 (0,0)
theorem E4 {S:ByteArray} {id ex se sq now:Int} {sa:Option Addr} {sl sc:Nat} {es:List Evt.Event} (h:ah R J a nb lg sb room s fs st N w) (hR:aC a R) (hV:gq N fs) (hV':gq N fs') (hH:N.v.ch[0]?=some N.id) (ht:d' N=false) (hO:N.outs=[]) (hroom:room<=4194304) (hB:Lg.BK 1 s) (hS:S.size<=1000000) (hc:lG R a (.slice sa sl sc) es) (hn:es.length<=1000000) (hx:Small es)
 (hid:0<=id/\id<=274877906944) (hf:Evt.fits ⟨S.data.toList,ex,se,sq,es⟩=0) (hl:s.es.length<=100) (hl':s'.es.length=s.es.length+1) (happ:st.app=s.es.length) (hn4:st.n<=400) (hm4:st.m<=400) (hr:ma room ⟨S.data.toList,ex,se,sq,es⟩ s fs=((fs',s'),0)) :
 Calls prog 10 #[.pointer (some ⟨nb,0,none⟩),.int .i64 (1000+se),.iface 42 (.agg #[.int .i64 id,.string S,.int .i64 ex,.int .i64 se,.int .i64 sq,.slice sa sl sc]),.int .i64 now] w fun e w'=>∃v,e=.returned v /\
  (((bR st.S se sq).2 ≠ 0 /\ dH R J a nb lg sb room s fs st N [(1000 + se, za id 0 (IN (bR st.S se sq).1 (bR st.S se sq).2))] v w') \/
   ((bR st.S se sq).2 = 0 /\ ∃ b, rJ J b /\ dH R (J ++ [(b, pC ((s.es.length : Int) + 1) (dz fs) S ex se sq sa sl sc)]) a nb lg sb room s' fs' st N (eW N s.es.length (cR s'.es (s.es.length : Int)).1 s'.es.length st.app (some ⟨b, 0, none⟩) 1 1) v w')) := by
 have hz:=Evt.iI hf;have hse:1<=se/\se<=274877906944:=by have:=hz.2.2.1;simp[Evt.number]at this;omega
 have hsq:1<=sq/\sq<=274877906944:=by have:=hz.2.2.2.1;simp[Evt.number]at this;omega
 have HR:=vY (x0:=id) (ex:=ex) (se:=se) (sq:=sq) h.env hS (h.I5 hc) hn hx hid;rw[decide_eq_true hf]at HR;obtain⟨O1,hO1⟩:∃O1,[(1000+se,za id 0 (IN (bR st.S se sq).1 (bR st.S se sq).2))]=O1:=⟨_,rfl⟩;obtain⟨O2,hO2⟩:∃O2:Nat->List (Int×Value),(fun b=>eW N s.es.length (cR s'.es (s.es.length:Int)).1 s'.es.length st.app (some ⟨b,0,none⟩) 1 1)=O2:=⟨_,rfl⟩;have hO2:∀b,eW N s.es.length (cR s'.es (s.es.length:Int)).1 s'.es.length st.app (some ⟨b,0,none⟩) 1 1=O2 b:=fun b=>by rw[<-hO2]
 have hO2l:∀b,(O2 b).length<=1:=fun b=>by rw[<-hO2 b];unfold eW;split <;> simp
 rw[hO1];simp only[hO2];refine take_append (P1:=fun Z=>((bR st.S se sq).2≠0/\ah R J a nb lg sb room s fs st {N with outs:=O1} Z)\/((bR st.S se sq).2=0/\∃b,rJ J b/\ah R (J++[(b,pC ((s.es.length:Int)+1) (dz fs) S ex se sq sa sl sc)]) a nb lg sb room s' fs' st {N with outs:=O2 b} Z))
  (P2:=fun Z=>((bR st.S se sq).2≠0/\ah R J a nb lg sb room s fs st {N with outs:=O1} Z)\/((bR st.S se sq).2=0/\∃b,rJ J b/\ah R (J++[(b,pC ((s.es.length:Int)+1) (dz fs) S ex se sq sa sl sc)]) a nb lg sb room s' fs' st {N with outs:=O2 b} Z)) (1000+se) now (by omega) HR (fun Z hZ=>?_) (fun Z Z' hz hb=>?_) (fun Z hz=>?_) (fun Z hz=>?_)
 ·refine(xE (h.next hR hZ) hR hV hV' hH (by rw[hO];exact Nat.zero_le _) hroom hB hS hc hn hx hse hsq hl hl' happ hn4 hm4 hr).mono ?_;rintro e w1 ⟨rfl,hx⟩;refine⟨rfl,hx.imp (fun e=>⟨e.1,?_⟩) (fun ⟨e,b,hoff,e2⟩=>⟨e,b,hoff,?_⟩)⟩
  ·have:=e.2;rw[hO,hO1]at this;exact this
  ·rw[hO,hO2 b]at e2;exact e2
 ·exact hz.imp (fun e=>⟨e.1,e.2.next hR hb⟩) (fun ⟨e,b,hoff,e2⟩=>⟨e,b,hoff,e2.next hR hb⟩)
 ·rcases hz with⟨e,hz⟩|⟨e,b,hoff,hz⟩
  ·exact(dA hz hR (.inl ⟨hV.1,ht⟩) (by show O1.length<=500;rw[<-hO1];simp)).mono fun _ _ q=>⟨q.1,.inl ⟨e,q.2⟩⟩
  ·exact(dA hz hR (.inl ⟨hV.1,ht⟩) (by show(O2 b).length<=500;have:=hO2l b;omega)).mono fun _ _ q=>⟨q.1,.inr ⟨e,b,hoff,q.2⟩⟩
 ·rcases hz with⟨e,hz⟩|⟨e,b,hoff,hz⟩
  ·exact(gH hz hR rfl).mono fun _ _ ⟨v,q1,q2⟩=>⟨v,q1,.inl ⟨e,q2⟩⟩
  ·exact(gH hz hR rfl).mono fun _ _ ⟨v,q1,q2⟩=>⟨v,q1,.inr ⟨e,b,hoff,q2⟩⟩
theorem C6 {S:ByteArray} {id ex se sq now:Int} {sa:Option Addr} {sl sc:Nat} {es:List Evt.Event} (h:ah R J a nb lg sb room s fs st N w) (hR:aC a R) (hV:gq N fs) (hV':gq N fs') (hH:N.v.ch[0]?=some N.id) (ht:d' N=true) (hO:N.outs=[]) (hroom:room<=4194304) (hB:Lg.BK 1 s) (hS:S.size<=1000000) (hc:lG R a (.slice sa sl sc) es) (hn:es.length<=1000000) (hx:Small es)
 (hid:0<=id/\id<=274877906944) (hf:Evt.fits ⟨S.data.toList,ex,se,sq,es⟩=0) (hl:s.es.length<=90) (hl':s'.es.length=s.es.length+1) (happ:st.app=s.es.length) (hn4:st.n<=400) (hm4:st.m<=400) (hr:ma room ⟨S.data.toList,ex,se,sq,es⟩ s fs=((fs',s'),0)) (hlk:(bR st.S se sq).2=0) (hap2:∀k,k<=s'.es.length->(st.aS ((cj st s'.es.length s'.es).take k)).2.app<=400000) (hse2:∀p∈(st.aS (cj st s'.es.length s'.es)).1,0<=p.1.b.br/\p.1.b.br<=1000000000000) (hln2:(st.aS (cj st s'.es.length s'.es)).1.length<=100) :
 Calls prog 10 #[.pointer (some ⟨nb,0,none⟩),.int .i64 (1000+se),.iface 42 (.agg #[.int .i64 id,.string S,.int .i64 ex,.int .i64 se,.int .i64 sq,.slice sa sl sc]),.int .i64 now] w fun e w'=>∃v,e=.returned v /\
  ∃b,rJ J b/\dH R (J++[(b,pC ((s.es.length:Int)+1) (dz fs) S ex se sq sa sl sc)]) a nb lg sb room s' fs' (st.aS (cj st s'.es.length s'.es)).2 N (eu N (st.aS (cj st s'.es.length s'.es)).1 (st.aS (cj st s'.es.length s'.es)).2.app) v w':=by
 have hz:=Evt.iI hf;have hse:1<=se/\se<=274877906944:=by have:=hz.2.2.1;simp[Evt.number]at this;omega
 have hsq:1<=sq/\sq<=274877906944:=by have:=hz.2.2.2.1;simp[Evt.number]at this;omega
 have HR:=vY (x0:=id) (ex:=ex) (se:=se) (sq:=sq) h.env hS (h.I5 hc) hn hx hid;rw[decide_eq_true hf]at HR;have hbe:behind N.v N.id=0:=by
  unfold d' at ht;rw[Bool.and_eq_true]at ht;simpa using ht.2
 have hdo:∀b,eW N s.es.length (cR s'.es (s.es.length:Int)).1 s'.es.length st.app (some ⟨b,0,none⟩) 1 1=[]:=fun b=>by unfold eW;rw[if_pos hbe]
 refine take_append (P1:=fun Z=>∃b,rJ J b/\ah R (J++[(b,pC ((s.es.length:Int)+1) (dz fs) S ex se sq sa sl sc)]) a nb lg sb room s' fs' st N Z)
  (P2:=fun Z=>∃b,rJ J b/\ah R (J++[(b,pC ((s.es.length:Int)+1) (dz fs) S ex se sq sa sl sc)]) a nb lg sb room s' fs' (st.aS (cj st s'.es.length s'.es)).2 {N with outs:=eu N (st.aS (cj st s'.es.length s'.es)).1 (st.aS (cj st s'.es.length s'.es)).2.app} Z) (1000+se) now (by omega) HR (fun Z hZ=>?_) (fun Z Z' hz hb=>?_) (fun Z hz=>?_) (fun Z hz=>?_)
 ·refine(xE (h.next hR hZ) hR hV hV' hH (by rw[hO];exact Nat.zero_le _) hroom hB hS hc hn hx hse hsq (by omega) hl' happ hn4 hm4 hr).mono ?_;rintro e w1 ⟨rfl,hx⟩;rcases hx with⟨e,_⟩|⟨_,b,hoff,e2⟩
  ·exact absurd hlk e
  ·rw[hO,hdo b]at e2;exact⟨rfl,b,hoff,by rw[<-Nd.same hO];exact e2⟩
 ·obtain⟨b,hoff,e2⟩:=hz;exact⟨b,hoff,e2.next hR hb⟩
 ·obtain⟨b,hoff,e2⟩:=hz;refine(nJ e2 hR hV' ht (by rw[hO];exact Nat.zero_le _) (by omega) (by omega) hap2 hse2 hln2).mono ?_;rintro e w1 ⟨rfl,hx⟩;rw[hO]at hx;exact⟨rfl,b,hoff,hx⟩
 ·obtain⟨b,hoff,e2⟩:=hz;exact(gH e2 hR rfl).mono fun _ _ ⟨v,q1,q2⟩=>⟨v,q1,b,hoff,q2⟩
theorem IY {id z:Int} {S:ByteArray} (hE:Env w) (hS:S.size<=1000000) (hn:Txt.name S.data.toList=true) (hz:0<=z/\z<=274877906944) (h0:0<=id/\id<=274877906944) :
 Calls prog 13 #[.iface 49 (.agg #[.int .i64 id,.string S,.int .i64 z])] w fun e w'=>e=.returned (.bool true)/\Below w.heap.size w w':=by
 have HR:=dK w (FO id S z) (DH id z S (xf ..) hE hS hn (by simp[bF];omega)) (c:=12) (xf ..) (by simp);have h1:([id].all bF&&true)=true:=by simp[bF];omega
 rw[h1]at HR;exact HR
def ED (id:Int) (S:ByteArray) (z:Int):Obj:=.cells #[.int .i64 id,.string S,.int .i64 z] 49 (0,0)
theorem IZ {id z:Int} {S:ByteArray} (h:ah R J a nb lg sb room s fs st N w) (hR:aC a R) (hc:Calm N s fs st) (hO:N.outs=[]) (Z:World) (b:Nat) (hZ:Below w.heap.size w Z) (hb:w.heap.size<=b) (hz:Z.heap[b]?=some (ED id S z)) :
 Calls prog 35 #[.pointer (some ⟨nb,0,none⟩)] Z fun e w'=>e=.returned (.tuple #[])/\ah R J a nb lg sb room s fs st N w'/\w'.heap[b]?=some (ED id S z):=by
 have h2:ah R (J++[(b,ED id S z)]) a nb lg sb room s fs st N Z:=h.enter hR hZ (fun p hp=>by rw[aN.1 hp];exact⟨hb,hz⟩) (fun _ _ _ e=>e);refine(dA h2 hR hc (by rw[hO];exact Nat.zero_le _)).mono ?_;rintro e w1 ⟨rfl,hx⟩;exact⟨rfl,hx.drop hR,hx.bj (b,ED id S z) (by simp)⟩
theorem xz (h:Calm N s fs st):Calm {N with outs:=O} s fs st:=h
theorem C5 {id z cl now:Int} {S:ByteArray} (h:ah R J a nb lg sb room s fs st N w) (hR:aC a R) (hV:gq N fs) (hc:Calm N s fs st) (hO:N.outs=[]) (hcl:1000<cl) (hS:S.size<=1000000) (hn:Txt.name S.data.toList=true) (hz:0<=z/\z<=274877906944) (h0:0<=id/\id<=274877906944) (hl:N.ez<=now) :
 Calls prog 10 #[.pointer (some ⟨nb,0,none⟩),.int .i64 cl,.iface 49 (.agg #[.int .i64 id,.string S,.int .i64 z]),.int .i64 now] w fun e w'=>∃v,e=.returned v/\dH R J a nb lg sb room s fs st N [(cl,gV id 9 0 none 0 0)] v w':=by
 refine wK (P0:=ah R J a nb lg sb room s fs st N) (P1:=ah R J a nb lg sb room s fs st {N with outs:=[(cl,gV id 9 0 none 0 0)]}) (P2:=ah R J a nb lg sb room s fs st {N with outs:=[(cl,gV id 9 0 none 0 0)]}) cl now hcl (IY h.env hS hn hz h0) (fun Z b hZ hb hz=>IZ h hR hc hO Z b hZ hb hz) (fun Z hz=>?_) (fun Z hz=>dA hz hR (xz hc) (by simp)) (fun Z hz=>(gH hz hR rfl).mono fun _ _ q=>q);have:=Jf cl id z now S hz hR hV (by rw[hO];exact Nat.zero_le _) hl;rw[hO]at this;exact this
theorem AP {id z cl now:Int} {S:ByteArray} (h:ah R J a nb lg sb room s fs st N w) (hR:aC a R) (hV:gq N fs) (hc:Calm N s fs st) (hO:N.outs=[]) (hcl:1000<cl) (hS:S.size<=1000000) (hn:Txt.name S.data.toList=true) (hz:0<=z/\z<=274877906944) (h0:0<=id/\id<=274877906944) (hl:now<N.ez)
 (hn4:st.n<=400) (hm4:st.m<=400) (hel:s.es.length<=300000) (happ:st.app<=1000000000000) (hd:d' N=true\/uU s st S=false) :
 Calls prog 10 #[.pointer (some ⟨nb,0,none⟩),.int .i64 cl,.iface 49 (.agg #[.int .i64 id,.string S,.int .i64 z]),.int .i64 now] w fun e w'=>∃v,e=.returned v/\∃va vc,∃K:List (Nat×Obj),
  Hid (AM J va vc (eM (st.f S.data.toList) z) K) /\
  dH R (J++K) a nb lg sb room s fs st N [(cl,gV id 0 ((st.f S.data.toList).length:Nat) va (eM (st.f S.data.toList) z).length vc)] v w':=by
 obtain⟨P,hP⟩:∃P:Option Addr->Nat->List (Nat×Obj)->World->Prop,(fun va vc K Z=>Hid (AM J va vc (eM (st.f S.data.toList) z) K)/\ah R (J++K) a nb lg sb room s fs st {N with outs:=[(cl,gV id 0 ((st.f S.data.toList).length:Nat) va (eM (st.f S.data.toList) z).length vc)]} Z)=P:=⟨_,rfl⟩;refine wK (P0:=ah R J a nb lg sb room s fs st N) (P1:=fun Z=>∃va vc K,P va vc K Z) (P2:=fun Z=>∃va vc K,P va vc K Z) cl now hcl (IY h.env hS hn hz h0) (fun Z b hZ hb hz=>IZ h hR hc hO Z b hZ hb hz) (fun Z hz=>?_) (fun Z hz=>?_) (fun Z hz=>?_)
 ·refine(Hf cl id z now S hz hR hV (by rw[hO];exact Nat.zero_le _) (by unfold maxLen;omega) hn4 hm4 hel happ hl hd).mono ?_;rintro e w1 ⟨va,vc,K,rfl,q1,q2⟩;have q2:=q2.out;rw[hO]at q2;exact⟨rfl,va,vc,K,by rw[<-hP];exact⟨q1,q2⟩⟩
 ·obtain⟨va,vc,K,hz⟩:=hz;rw[<-hP]at hz;refine(dA hz.2 hR (xz hc) (by simp)).mono ?_;rintro e w1 ⟨rfl,hx⟩;exact⟨rfl,va,vc,K,by rw[<-hP];exact⟨hz.1,hx⟩⟩
 ·obtain⟨va,vc,K,hz⟩:=hz;rw[<-hP]at hz;exact(gH hz.2 hR rfl).mono fun _ _ ⟨v,q1,q2⟩=>⟨v,q1,va,vc,K,hz.1,q2⟩
theorem Kd (fr n now:Int) (hf:1<=fr/\fr<=100) (hnn:0<=n/\n<=274877906944) (h:ah R J a nb lg sb room s fs st N w) (hR:aC a R) (hV:gq N fs) (ht:d' N=false) (hpf:0<=place N.v fr) (hbe:behind N.v N.id=fr) (hah:ahead N.v N.id=0) (hO:N.outs=[]) (hl:s.es.length<=300000) (happ:st.app<=100000) (hap2:∀k,k<=s.es.length->(st.aS ((cj st n s.es).take k)).2.app<=400000) :
 Calls prog 10 #[.pointer (some ⟨nb,0,none⟩),.int .i64 fr,.iface 79 (.agg #[.int .i64 N.v.ep,.int .i64 fr,.int .i64 n]),.int .i64 now] w fun e w'=>∃v,e=.returned v/\dH R J a nb lg sb room s fs (st.aS (cj st n s.es)).2 N [] v w':=by
 have hb:([N.v.ep,fr,n].all bF&&true)=true:=by
  have h1:=hV.1.1;have h2:=hV.1.2.1;simp[bF];omega
 have HR:=wM N.v.ep fr n w;rw[hb]at HR;have HE:=fun Z=>xn N.v.ep fr n Z;rw[if_pos hb]at HE;have e:oH N (st.aS (cj st n s.es)).1 (st.aS (cj st n s.es)).2.app=[]:=by
  unfold oH i';rw[if_pos hah];split <;> rfl
 refine qu (P1:=ah R J a nb lg sb room s fs (st.aS (cj st n s.es)).2 N) (P2:=ah R J a nb lg sb room s fs (st.aS (cj st n s.es)).2 N) fr now (by decide) (by decide) (by decide) (by decide) hf HR (fun Z hZ=>?_) (fun Z hz=>dA hz hR (.inl ⟨hV.1,ht⟩) (by rw[hO];exact Nat.zero_le _)) (fun Z hz=>gH hz hR hO);refine Hq fr now (h.next hR hZ) hR hV.1 hV.2.1 (fun Y _=>HE Y) hpf hbe hV (fun Y hY=>?_);have:=J5 N.v.ep fr n ((h.next hR hZ).next hR hY) hR hV.1 (by rw[hO];exact Nat.zero_le _) hl happ ⟨by omega,by omega⟩ hap2;rw[e,hO,List.append_nil,Nd.same hO]at this;exact this
theorem Jb (fr now:Int) {pv pe sy cm:Int} {va:Option Addr} {vc:Nat} {qs:List bu} (hf:1<=fr/\fr<=100) (h:ah (cn R (.slice va qs.length vc) qs) J a nb lg sb room s fs st N w) (hR:aC a R) (hV:gq N fs) (hV':gq N fs') (hb0:jO N.v N.id=0) (hb1:N.vU=1) (ht:d' N=true) (hpf:0<=place N.v fr) (hah:ahead N.v N.id=fr) (hO:N.outs=[]) (hroom:room<=4194304) (hB:Lg.BK qs.length s) (hcap:mw (.slice va qs.length vc)) (hq8:qs.length<=8) (hqr:(ag qs).all Evt.bC=true)
 (hpv:0<=pv/\pv<=274877906944) (hpe:0<=pe/\pe<=274877906944) (hsy:0<=sy/\sy<=274877906944) (hcm:0<=cm/\cm<=274877906944) (hl:s'.es.length<=100) (hlt:s.es.length<s'.es.length) (happ:st.app<=100000) (hadv:cj st cm s'.es=[]) (hap2:∀k,k<=s'.es.length->(st.aS ((cj st s'.es.length s'.es).take k)).2.app<=400000) (hse2:∀p∈(st.aS (cj st s'.es.length s'.es)).1,0<=p.1.b.br/\p.1.b.br<=1000000000000) (hln2:(st.aS (cj st s'.es.length s'.es)).1.length<=100)
 (hr:ku room pv pe st.app (ag qs) s fs=((fs',s'),0)) :
 Calls prog 10 #[.pointer (some ⟨nb,0,none⟩),.int .i64 fr,.iface 77 (.agg #[.int .i64 N.v.ep,.int .i64 fr,.int .i64 pv,.int .i64 pe,.int .i64 sy,.int .i64 cm,.slice va qs.length vc]),.int .i64 now] w fun e w'=>∃v,e=.returned v /\
  dH R J a nb lg sb room s' fs' (st.aS (cj st s'.es.length s'.es)).2 N (eu N (st.aS (cj st s'.es.length s'.es)).1 (st.aS (cj st s'.es.length s'.es)).2.app) v w':=by
 have hRW:=fi hR (.slice va qs.length vc) qs;have hbe:behind N.v N.id=0:=by
  unfold d' at ht;rw[Bool.and_eq_true]at ht;simpa using ht.2
 have hents:dk w (.slice va qs.length vc) qs:=by
  obtain⟨J',h1,_⟩:=h.rep;obtain⟨TL,TS,X,_,_,ha⟩:=h1;exact ha.cr
 have hw:=h.env;have HP:=uj N.v.ep fr pv pe sy cm va vc qs (jn ..) hw hents (by omega);have hb:([N.v.ep,fr,pv,pe,sy,cm].all bF&&oy qs)=true:=by
  have h1:=hV.1.1;have h2:=hV.1.2.1;have h3:oy qs=true:=by unfold oy;rw[hqr,decide_eq_true hq8];rfl
  rw[h3];simp[bF];omega
 have HR:=dK w (nC N.v.ep fr pv pe sy cm va qs.length vc) HP (c:=7) (jn ..) (by simp);rw[hb]at HR;have HE:=fun Z (hZ:Below w.heap.size w Z)=>fV Z (nC N.v.ep fr pv pe sy cm va qs.length vc) (fun Y hY=>HP Y (Below.up hZ ab hY)) (c:=7) (jn ..) (by simp) (by simp);simp only[if_pos hb]at HE;have e2:st.aS []=([],st):=rfl;refine qu (P1:=ah R J a nb lg sb room s' fs' st N) (P2:=ah R J a nb lg sb room s' fs' (st.aS (cj st s'.es.length s'.es)).2 {N with outs:=eu N (st.aS (cj st s'.es.length s'.es)).1 (st.aS (cj st s'.es.length s'.es)).2.app}) fr now (by decide) (by decide) (by decide) (by decide) hf HR (fun Z hZ=>?_) (fun Z hz=>?_) (fun Z hz=>(gH hz hR rfl).mono fun _ _ q=>q)
 ·refine FQ fr now (h.next hRW hZ) hR hV.1 hV.2.1 (fun Y hY=>HE Y (Below.up hZ ab hY)) hpf hah (fun Y hY=>?_);have:=Hw (x:=N.v.ep) (nd:=fr) (pv:=pv) (pe:=pe) (sy:=sy) (cm:=cm) ((h.next hRW hZ).next hRW hY) hR hV hV' hb0 hb1 hbe (by rw[hO];exact Nat.zero_le _) hroom hB hcap (by omega) (by omega) (by omega) (by omega) hl hlt happ ⟨by omega,by omega⟩ (by rw[hadv];intro k _;rw[List.take_nil,e2];show st.app<=400000;omega) hr;rw[hadv,e2]at this;exact this
 ·have:=nJ hz hR hV' ht (by rw[hO];exact Nat.zero_le _) hl happ hap2 hse2 hln2;rw[hO]at this;exact this
end
end Go.Proofs.YtmgmknmaepjnoaaGreatDoor
