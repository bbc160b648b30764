/-
  The law package 21: batches one behind the other.
-/
import Derived.Test.YtmgmknmaepjnoaaGreatDoorLaJ
import Derived.Test.YtmgmknmaepjnoaaGreatDoorLaH
namespace Go.Proofs.YtmgmknmaepjnoaaGreatDoor
open Go.RowKit Go.Shelf Go.Sort Proofs.Tryz
section
variable {R:(Nat->Prop)->(Nat->Prop)->World->Prop} {a w w':World} {nb lg sb:Nat} {room:Int} {s:Lg.S} {fs:List Dk.ai} {st:Stat} {N:Nd} {xb:Nat} {nv dv v:Value} {kn JX:List (Nat×Obj)} {H Wr:List (Int×Value)} {F:List Int} {O:List (Int×Value)} {P:jc}
theorem bB.Kc (hk:js xb H Wr F P) (hap:∀p∈kn++JX,¬JB (bn xb nv dv H Wr F P) p.1) (hT:dH R (bn xb nv dv H Wr F P++(kn++JX)) a nb lg sb room s fs st N O v w) (hR:aC a R):bB R a nb lg sb room s fs st {N with outs:=[]} xb nv dv kn H Wr F JX w :=
 ⟨P,hk,hap,(hT.drop hR).1⟩
set_option maxHeartbeats 8000000 in
theorem GG (now:Int) (h:bB R a nb lg sb room s fs st N xb nv dv kn H [] [] JX w) (hR:aC a R) :
 Calls prog 11 #[.pointer (some ⟨xb,0,none⟩),.int .i64 now] w fun ed w'=>ed=.returned (.tuple #[])/\bB R a nb lg sb room s fs st N xb nv dv kn H [] [] JX w':=by
 have HF:=ad (h.IU hR);obtain⟨P,h1,h2,h3⟩:=h;have hx:=h3.bj (xb,dt nv dv H [] [] P) (by simp[bn]);have c3:w.cell? ⟨xb,3,none⟩=some (.slice P.wa 0 P.wc):=aq hx rfl;have c4:w.cell? ⟨xb,4,none⟩=some (.slice P.fa 0 P.fc):=aq hx rfl;have f3:=ay hx 3;have f4:=ay hx 4;clear h1 h2 h3 hx;go_enter func11,ntmps11;go_wp2_with fail
 go_loopw [4] (fun iv wr=>iv=.int .i64 0/\wr=w) (fun _ _=>0)
 case atStart=>exact⟨rfl,rfl⟩
 case round =>
  obtain⟨rfl,rfl⟩:=hrel;go_wp2;go_end0;exact⟨rfl,HF.out⟩
end
section
variable {c:Net} {L:List Evt.Entry} {H:List (Int×Value)} {w:World}
def GN (c:Net) (L:List Evt.Entry) (H:List (Int×Value)) (w:World):Prop:=(∃H',H'.length<=H.length+1/\Quiet c L H' w)\/∃e,wg c L e H w
theorem GH (now:Int) (hkn:kS 29 1 c.nv 2 (dE [c.x1.nb,c.x2.nb]) c.kn) (h:GN c L H w) (hl:L.length<=40) (hH:H.length<=80000) :
 Calls prog 11 #[.pointer (some ⟨c.xb,0,none⟩),.int .i64 now] w fun ed w'=>ed=.returned (.tuple #[])/\∃L' H',L'.length<=L.length+1/\H'.length<=H.length+1/\Quiet c L' H' w':=by
 rcases h with⟨H',h1,y1,y2,h2,h3,h4⟩|⟨e,h⟩
 ·refine(GG now h4 cu).mono ?_;rintro ed w1 ⟨rfl,hx⟩;exact⟨rfl,L,H',by omega,h1,y1,y2,h2,h3,hx⟩
 ·refine(EJ now hkn h hl hH).mono ?_;rintro ed w1 ⟨rfl,H',h1,hx⟩;exact⟨rfl,L++[e],H',by simp,h1,hx⟩
def wh (c:Net) (kb ko nc:Nat) (w:World):Prop:=w.cell? ⟨c.xb,0,none⟩=some (.slice (some ⟨kb,ko,none⟩) 2 nc)/\w.cell? ⟨kb,ko,none⟩=some (.pointer (some ⟨c.x1.nb,0,none⟩))/\w.cell? ⟨kb,ko+1,none⟩=some (.pointer (some ⟨c.x2.nb,0,none⟩))/\Below c.a.heap.size c.a w
theorem Cw {kb ko nc:Nat} {Wr:List (Int×Value)} {F:List Int} {P:jc} (hkn:kS 29 1 c.nv 2 (dE [c.x1.nb,c.x2.nb]) c.kn) (hnv:c.nv=.slice (some ⟨kb,ko,none⟩) 2 nc) (hx:w.heap[c.xb]?=some (dt c.nv c.dv H Wr F P)) (hk:∀p∈c.kn,w.heap[p.1]?=some p.2) (hb:Below c.a.heap.size c.a w):wh c kb ko nc w:=by
 have hr:=aj (hkn w hk);rw[hnv]at hr;rcases hr.2 with⟨h0,_⟩|⟨kb2,ko2,nc2,hv,hc⟩
 ·omega
 cases hv;exact⟨by rw[aw hx,<-hnv];rfl,hc 0 (.pointer (some ⟨c.x1.nb,0,none⟩)) rfl,hc 1 (.pointer (some ⟨c.x2.nb,0,none⟩)) rfl,hb⟩
theorem Net.GB {kb ko nc:Nat} {y1 y2:ND} {Wr:List (Int×Value)} {F:List Int} {JX:List (Nat×Obj)} (hkn:kS 29 1 c.nv 2 (dE [c.x1.nb,c.x2.nb]) c.kn) (hnv:c.nv=.slice (some ⟨kb,ko,none⟩) 2 nc) (h:c.at y1 y2 H Wr F JX w):wh c kb ko nc w:=by
 obtain⟨P,h1,h2,h3⟩:=h;exact Cw hkn hnv (h3.bj (c.xb,dt c.nv c.dv H Wr F P) (by simp[bn])) (fun p hp=>h3.bj p (aD _ (aH _ hp))) h3.below
theorem Quiet.wT {kb ko nc:Nat} (hkn:kS 29 1 c.nv 2 (dE [c.x1.nb,c.x2.nb]) c.kn) (hnv:c.nv=.slice (some ⟨kb,ko,none⟩) 2 nc) (h:Quiet c L H w):wh c kb ko nc w:=by
 obtain⟨y1,y2,_,_,h⟩:=h;exact Net.GB hkn hnv h
theorem GK.wT {kb ko nc:Nat} {v:Value} (hkn:kS 29 1 c.nv 2 (dE [c.x1.nb,c.x2.nb]) c.kn) (hnv:c.nv=.slice (some ⟨kb,ko,none⟩) 2 nc) (h:GK c L H v w):wh c kb ko nc w:=by
 obtain⟨S,h⟩:=h;rcases h with⟨y1,y2,P,O,_,_,_,_,_,oa,oc,Ko,_,_,_,h⟩|⟨y1,y2,P,e,b,o,_,_,_,_,_,_,_,oa,oc,Ko,_,_,_,h⟩
 all_goals exact Cw hkn hnv (h.bj (c.xb,dt c.nv c.dv H [] [] P) (by simp[bn])) (fun p hp=>h.bj p (aD _ (aD _ (aH _ hp)))) h.below
theorem GN.wT {kb ko nc:Nat} (hkn:kS 29 1 c.nv 2 (dE [c.x1.nb,c.x2.nb]) c.kn) (hnv:c.nv=.slice (some ⟨kb,ko,none⟩) 2 nc) (h:GN c L H w):wh c kb ko nc w:=by
 rcases h with⟨H',_,h⟩|⟨e,y1,y2,b,o,_,_,_,_,h⟩
 ·exact h.wT hkn hnv
 ·exact Net.GB hkn hnv h
theorem Quiet.row (hkn:kS 29 1 c.nv 2 (dE [c.x1.nb,c.x2.nb]) c.kn) (h:Quiet c L H w):∃kb ko nc,c.nv=.slice (some ⟨kb,ko,none⟩) 2 nc:=by
 obtain⟨y1,y2,_,_,h⟩:=h;obtain⟨kb,ko,nc,_,_,_,_,e,_⟩:=h.cells hkn;exact⟨kb,ko,nc,e⟩
theorem Quiet.next {w':World} (h:Quiet c L H w) (hb:Below w.heap.size w w'):Quiet c L H w':=by
 obtain⟨y1,y2,h1,h2,h⟩:=h;exact⟨y1,y2,h1,h2,h.next cu hb⟩
end
section
variable {R:(Nat->Prop)->(Nat->Prop)->World->Prop} {a w w':World} {nb lg sb d r:Nat} {fs fs':List Dk.ai} {nx:Int} {nu:List Int} {L:List Evt.Entry} {V:Vw} {id ls:Int} {xb:Nat} {nv dv v:Value} {kn:List (Nat×Obj)} {H Wr:List (Int×Value)} {F:List Int} {E:Int} {k:Nat}
structure Good (fs:List Dk.ai) (nx:Int) (nu:List Int) (L:List Evt.Entry) (V:Vw) (id E:Int) (k:Nat):Prop where
 i:Lg.eK eG E k fs nx nu L
 v:eU V
 p:0<=place V id
 s:since V id=1
 l:L.length<=40
theorem Good.calm (h:Good fs nx nu L V id E k) (d r:Nat) (ls:Int):Calm (gr id d r V ls) (Lg.aL nx nu L) fs (dI L):=rZ (N:=gr id d r V ls) h.i h.v h.p h.s (j9 h.i.l9) (by have:=h.l;omega)
def Fr (R:(Nat->Prop)->(Nat->Prop)->World->Prop) (a:World) (nb lg sb d r:Nat) (fs:List Dk.ai) (nx:Int) (nu:List Int) (L:List Evt.Entry) (V:Vw) (id ls:Int) (xb:Nat) (nv dv:Value) (kn:List (Nat×Obj)) (H Wr:List (Int×Value)) (F:List Int) (w:World):Prop :=
 bB R a nb lg sb 4194304 (Lg.aL nx nu L) fs (dI L) (gr id d r V ls) xb nv dv kn H Wr F [] w
theorem JP (V2:Vw) (A:q_gk) (now:Int) (hA:fE w V2 A) (hV:eU V2) (hep:V.ep<V2.ep) (hE:E<V2.ep) (hk:k<=8) (hp:0<=place V2 id) (hs:since V2 id=1) (hb:(cE V2.ch&&cE V2.si&&cE V2.bo)=true) (h:Fr R a nb lg sb d r fs nx nu L V id ls xb nv dv kn H Wr F w) (hR:aC a R) (hg:Good fs nx nu L V id E k) :
 Calls prog 10 #[.pointer (some ⟨nb,0,none⟩),.int .i64 0,.iface 47 (dw V2 A),.int .i64 now] w fun e w'=>∃v,e=.returned v/\∃f2,Good f2 nx nu L V2 id V2.ep (k+1)/\Fr R a nb lg sb d r f2 nx nu L V2 id 0 xb nv dv kn H Wr F w':=by
 obtain⟨P,g1,g2,g3⟩:=h;obtain⟨f2,q1,q2⟩:=hg.i.raise (room:=4194304) (e:=V2.ep) hk hE hV.2.1 (by have:=hg.l;omega) (by omega);have hg2:Good f2 nx nu L V2 id V2.ep (k+1):=⟨q2,hV,hp,hs,hg.l⟩;refine(Cl V2 A now hA hV hep (by rw[hg.i.uQ];omega) (by decide) q1 g3 hR (hg2.calm d r 0) rfl hb).mono ?_;rintro e w1 ⟨v,rfl,hT⟩;exact⟨v,rfl,f2,hg2,bB.Kc g1 g2 hT hR⟩
end
theorem xR {ps:List gQ} (h:gm ps=true):ps.length<=40/\∀p∈ps,p.s.size<=300/\p.es.length<=20/\Small p.es:=by
 unfold gm at h;simp only[Bool.and_eq_true,decide_eq_true_eq,List.all_eq_true,gp,j7]at h;refine⟨h.1,fun p hp=>?_⟩;have h2:=(h.2 p hp).2 p.en (by simp);simp only[gQ.en]at h2;refine⟨by have:=h2.1.1;rw[Lib.size_eq];simpa using this,h2.1.2,fun e he=>?_⟩;have h3:=h2.2 e he;unfold mP at h3;simp only[Bool.and_eq_true,decide_eq_true_eq]at h3;omega
theorem Lj {fs:List Dk.ai} {nx:Int} {nu:List Int} {L:List Evt.Entry} {k:Nat} (h:Lg.eK eG 1 1 fs nx nu L) (hk:k<2) (hl:L.length<=40):Good fs nx nu L (cy 2) ((k:Int)+1) 1 1:=⟨h,iT 2,(qh (.inr rfl) hk).1,(qh (.inr rfl) hk).2.1,hl⟩
section
variable {w:World} {nb:Nat} {P0 P1 P2:World->Prop} {Q:Value->World->Prop}
set_option maxHeartbeats 16000000 in
set_option maxRecDepth 100000 in
theorem C7 {ep:Int} {ca sa ba:Option Addr} {cl cc sl sc bl bc:Nat} (fr now:Int) (hf:1<=fr/\fr<=100)
 (HR:Calls prog 13 #[.iface 47 (.agg #[.int .i64 ep,.slice ca cl cc,.slice sa sl sc,.slice ba bl bc])] w (fun e w'=>e=.returned (.bool true)/\Below w.heap.size w w'))
 (HN:∀Z,Below w.heap.size w Z->Calls prog 37 #[.pointer (some ⟨nb,0,none⟩),.int .i64 fr,.iface 47 (.agg #[.int .i64 ep,.slice ca cl cc,.slice sa sl sc,.slice ba bl bc]),.int .i64 now] Z (fun e w'=>e=.returned (.tuple #[])/\P1 w'))
 (HS:∀Z,P1 Z->Calls prog 35 #[.pointer (some ⟨nb,0,none⟩)] Z (fun e w'=>e=.returned (.tuple #[])/\P2 w'))
 (HT:∀Z,P2 Z->Calls prog 38 #[.pointer (some ⟨nb,0,none⟩)] Z (fun e w'=>∃v,e=.returned v/\Q v w')) :
 Calls prog 10 #[.pointer (some ⟨nb,0,none⟩),.int .i64 fr,.iface 47 (.agg #[.int .i64 ep,.slice ca cl cc,.slice sa sl sc,.slice ba bl bc]),.int .i64 now] w fun e w'=>∃v,e=.returned v/\Q v w':=by
 have a47:=fun (v:Value) (w:World)=>eZ 47 v w;have a45:=fun (v:Value) (w:World)=>dS 47 v w;have a42:=fun (v:Value) (w:World)=>fZ 47 v w;have a49:=fun (v:Value) (w:World)=>i7 47 v w;have h45:¬47=45:=by decide
 have h42:¬47=42:=by decide
 have h49:¬47=49:=by decide
 simp only[if_neg h45,if_neg h42,if_neg h49,decide_eq_false h45,decide_eq_false h42,decide_eq_false h49,if_true,decide_true]at a47 a45 a42 a49;have hf0:(fr==0)=false:=by rw[beq_eq_false_iff_ne];omega
 have HRH:=ad HR;have HNH:=ad HN;have HSH:=ad HS;have HTH:=ad HT;have hf1:=hf.1;have hf2:=hf.2;clear HR HN HS HT h45 h42 h49 hf;go_enter func10,ntmps10;go_wp2_with fail;refine HRH.out.mono ?_;rintro e w1 ⟨rfl,b1⟩;have HB1:=ad b1;clear b1 HRH;go_wp2;go_quiet (fail);go_wp2_with fail;refine(HNH.out _ (by repeat (first|exact HB1.out|refine an ?_ _|refine fY ?_ _))).mono ?_;rintro e w2 ⟨rfl,h2⟩;have HS2:=ad (HSH.out _ h2);clear h2 HNH HSH HB1;go_wp2_with fail;refine HS2.out.mono ?_;rintro e w3 ⟨rfl,h3⟩;have HT3:=ad (HTH.out _ h3);clear h3 HTH HS2;go_wp2_with fail;refine HT3.out.mono ?_;rintro e w4 ⟨v,rfl,h4⟩;have H4:=ad h4;clear h4 HT3;go_wp2;go_ret;exact⟨v,rfl,H4.out⟩
end
theorem Kz {w w3 Z:World} {k:Nat} {a b c d:Addr} {u v x y:Value} (h:w3.cell? a=some u/\w3.cell? b=some v/\w3.cell? c=some x/\w3.cell? d=some y/\Below w.heap.size w w3) (hg:w3.grownBy Z (some k)) (hk:w.heap.size<=k) (ha:a.block<k) (hb:b.block<k) (hc:c.block<k) (hd:d.block<k) :
 Z.cell? a=some u/\Z.cell? b=some v/\Z.cell? c=some x/\Z.cell? d=some y/\Below w.heap.size w Z:=by
 have hne:∀e:Addr,e.block<k->some e.block≠some k:=fun e he q=>by simp only[Option.some.injEq]at q;omega
 exact⟨hg.cell h.1 (hne a ha),hg.cell h.2.1 (hne b hb),hg.cell h.2.2.1 (hne c hc),hg.cell h.2.2.2.1 (hne d hd),h.2.2.2.2.grown hg h.2.2.2.2.size (fun j hj=>by simp only[Option.some.injEq]at hj;omega)⟩
section
variable {R:(Nat->Prop)->(Nat->Prop)->World->Prop} {a w w':World} {nb lg sb:Nat} {room:Int} {s s':Lg.S} {fs fs':List Dk.ai} {st st2:Stat} {J:List (Nat×Obj)} {N M:Nd} {O:List (Int×Value)}
set_option maxHeartbeats 8000000 in
set_option maxRecDepth 100000 in
theorem IM (V:Vw) (A:q_gk) (b:Bool) (h:ah R J a nb lg sb room s fs st N w) (hR:aC a R) (hA:fE w V A) (h1:1<=V.ch.length/\V.ch.length<=100) (h2:1<=V.si.length/\V.si.length<=100) (h3:1<=V.bo.length/\V.bo.length<=100) (hV:if b=true then eU V else V.ep<1) (hep:V.ep<=N.v.ep) :
 Calls prog 33 #[.pointer (some ⟨nb,0,none⟩),dw V A] w fun e w'=>e=.returned (.tuple #[])/\Below w.heap.size w w':=by
 have b0:=an (ae _ w) (.cells #[.int .i64 V.ep,.slice A.ca V.ch.length A.cc,.slice A.sa V.si.length A.sc,.slice A.ba V.bo.length A.bc] 47);have HOF:=ad (tI V A b _ (hA.next b0) h1 h2 h3 hV);have HB0:=ad b0;have hep':decide (V.ep<=N.v.ep)=true:=decide_eq_true hep;have HC:=ad (fun Z (hb:Below w.heap.size w Z)=>(h.next hR hb).c3.1);clear h hA hV b0 h1 h2 h3;unfold dw;go_enter func33,ntmps33;go_wp2_with fail;refine HOF.out.mono ?_;rintro e w1 ⟨hx,b1⟩;have HB1:=ad (Below.up HB0.out ab b1);clear HOF HB0 b1;cases b with
 |true =>
  rw[if_pos rfl]at hx;unfold dw at hx;obtain⟨A',rfl,_⟩:=hx;have c4:=HC.out (w1.alloc (.cells #[.int .i64 V.ep,.slice A'.ca V.ch.length A'.cc,.slice A'.sa V.si.length A'.sc,.slice A'.ba V.bo.length A'.bc] 70)) (an HB1.out _);go_wp2;go_quiet (fail);go_wp2;refine bodyPost_ret (results_none rfl _ _ _) rfl ?_;exact⟨rfl,by repeat (first|exact HB1.out|refine an ?_ _|refine fY ?_ _)⟩
 |false =>
  rw[if_neg (by simp)]at hx;subst hx;go_wp2;go_quiet (fail);go_wp2;refine bodyPost_ret (results_none rfl _ _ _) rfl ?_;exact⟨rfl,by repeat (first|exact HB1.out|refine an ?_ _|refine fY ?_ _)⟩
set_option maxHeartbeats 16000000 in
set_option maxRecDepth 100000 in
theorem FP (fr now:Int) {ep:Int} {ca sa ba:Option Addr} {cl cc sl sc bl bc:Nat} (h:ah R J a nb lg sb room s fs st N w) (hR:aC a R) (hV:eU N.v) (hp:0<=place N.v N.id) (HE:∀Z,Below w.heap.size w Z->Calls prog 69 #[.iface 47 (.agg #[.int .i64 ep,.slice ca cl cc,.slice sa sl sc,.slice ba bl bc])] Z (fun e w'=>e=.returned (.int .i64 N.v.ep)/\Below Z.heap.size Z w')) (hf:0<=place N.v fr)  :
 Calls prog 37 #[.pointer (some ⟨nb,0,none⟩),.int .i64 fr,.iface 47 (.agg #[.int .i64 ep,.slice ca cl cc,.slice sa sl sc,.slice ba bl bc]),.int .i64 now] w fun e w'=>e=.returned (.tuple #[])/\Below w.heap.size w w':=by
 have HI1:∀d os,Calls prog 51 #[.pointer (some ⟨nb,0,none⟩)] (grow (redrawn w d) os) (fun e w'=>e=.returned (.bool true)/\∃p:Regrown,w'=grow (redrawn w p.d) p.os):=fun d os=>Calls.regrown_of (by
  have:=jl (h.next hR (below_regrown w d os)) hV;rw[decide_eq_true hp]at this;exact this)
 have HE1:∀d os,Calls prog 69 #[.iface 47 (.agg #[.int .i64 ep,.slice ca cl cc,.slice sa sl sc,.slice ba bl bc])] (grow (redrawn w d) os) (fun e w'=>e=.returned (.int .i64 N.v.ep)/\∃p:Regrown,w'=grow (redrawn w p.d) p.os):=fun d os=>Calls.regrown_of (HE _ (below_regrown w d os));obtain⟨P,hh,hv,_⟩:=h.heap;have HP1:∀d os,Calls prog 70 #[dw N.v P.A,.int .i64 fr] (grow (redrawn w d) os) (fun e w'=>e=.returned (.int .i64 (place N.v fr))/\∃p:Regrown,w'=grow (redrawn w p.d) p.os):=fun d os=>Calls.regrown_of (et N.v P.A fr _ (hv.next (below_regrown w d os)) hV);obtain⟨_,_,_,_,c4,c5,c6,c7,_⟩:=cM hh;have k4:=cell_regrown c4;have k5:=cell_regrown c5;have k6:=cell_regrown c6;have k7:=cell_regrown c7;unfold dw at HP1;obtain⟨pl,hpl⟩:∃pl,place N.v fr=pl:=⟨_,rfl⟩;rw[hpl]at HP1 hf;obtain⟨kf,HM,HM2,HK⟩:=jm ep ca cl cc sa sl sc ba bl bc;have HK:=ad HK;have H:=ad h;clear h hh hv hpl c4 c5 c6 c7 HE;go_enter func37,ntmps37;go_wp2_with fail;refine wp_region_quiet_below (by kernel_rfl) (by kernel_rfl) ?_
 repeat (quiet_step (first|exact HI1 _ _|exact HE1 _ _|exact HP1 _ _))
 refine wpQuiet_nil ?_;intro _ hw';obtain⟨⟨dq,osq⟩,hw''⟩:=hw';subst hw'';obtain⟨w1,hw1⟩:∃w1,grow (redrawn w dq) osq=w1:=⟨_,rfl⟩;have b1:Below w.heap.size w w1:=by rw[<-hw1];exact below_regrown w dq osq
 rw[hw1];have HB1:=ad b1;clear hw1 b1 k4 k5 k6 k7 HI1 HE1 HP1;go_wp2_with fail;refine(HK.out w1).mono ?_;rintro e w2 ⟨rfl,b2⟩;have HB2:=ad (Below.up HB1.out ab b2);clear b2 HK HB1;go_wp2;go_end0;exact⟨rfl,HB2.out⟩
theorem x9 (h:ah R J a nb lg sb room s fs st N w) (hroom:room<=4194304):Calls prog 22 #[.pointer (some ⟨nb,0,none⟩)] w fun e w'=>e=.returned (.int .i64 (al.cx fs).1)/\Below w.heap.size w w':=by
 have HF:=ad (sC h hroom);have c3:=h.c3.2.2;clear h;go_enter func22,ntmps22;go_wp2_with fail;refine HF.out.mono ?_;rintro e w1 ⟨rfl,b1⟩;have HB:=ad b1;clear b1 HF c3;go_wp2;go_ret;exact⟨rfl,HB.out⟩
theorem vB (h:ah R J a nb lg sb room s fs st N w):Calls prog 16 #[.pointer (some ⟨nb,0,none⟩)] w fun e w'=>e=.returned (.int .i64 st.app)/\Below w.heap.size w w':=by
 have HF:=ad (mJ h);have c3:=h.c3.2.2;clear h;go_enter func16,ntmps16;go_wp2_with fail;refine HF.out.mono ?_;rintro e w1 ⟨rfl,rfl⟩;clear HF c3;go_wp2;go_ret;exact⟨rfl,ae _ _⟩
theorem x7 (h:ah R J a nb lg sb room s fs st N w):Calls prog 24 #[.pointer (some ⟨nb,0,none⟩)] w fun e w'=>e=.returned (.int .i64 N.ez)/\Below w.heap.size w w':=by
 obtain⟨P,hh,_,_⟩:=h.heap;have c8:=(cM hh).2.2.2.2.2.2.2.2.1;clear h hh;go_enter func24,ntmps24;go_wp2;go_ret;exact⟨rfl,ae _ _⟩
set_option maxHeartbeats 8000000 in
set_option maxRecDepth 100000 in
theorem zK (h:ah R J a nb lg sb room s fs st N w) (hV:eU N.v):Calls prog 23 #[.pointer (some ⟨nb,0,none⟩)] w fun e w'=>∃a1 l1 c1 a2 l2 c2 a3 l3 c3,e=.returned (.agg #[.int .i64 N.v.ep,.slice a1 l1 c1,.slice a2 l2 c2,.slice a3 l3 c3])/\Below w.heap.size w w':=by
 obtain⟨P,hh,hv,_⟩:=h.heap;obtain⟨_,_,_,_,c4,c5,c6,c7,_⟩:=cM hh;have b0:Below w.heap.size w (w.alloc l8):=an (ae _ w) _;have HW0:=ad b0;have k4:=cell_kept b0 ab c4;have k5:=cell_kept b0 ab c5;have k6:=cell_kept b0 ab c6;have k7:=cell_kept b0 ab c7;have hr:(w.alloc l8).heap[w.heap.size]?=some l8:=heap_alloc_new w l8;have C1:=ad (fun Z (hb:Below w.heap.size w Z)=>jB P.A.ca P.A.cc N.v.ch Z (hv.1.next hb) (by have:=hV.2.2.2.1;omega) hV.2.2.1);have C2:=ad (fun Z (hb:Below w.heap.size w Z)=>jB P.A.sa P.A.sc N.v.si Z (hv.2.1.next hb) (by have:=hV.2.2.2.1;have:=hV.2.2.2.2.1;omega) (by have:=hV.2.2.1;have:=hV.2.2.2.2.1;omega));have C3:=ad (fun Z (hb:Below w.heap.size w Z)=>jB P.A.ba P.A.bc N.v.bo Z (hv.2.2.1.next hb) (by have:=hV.2.2.2.1;have:=hV.2.2.2.2.2.1;omega) (by have:=hV.2.2.1;have:=hV.2.2.2.2.2.1;omega));have hlt:nb<w.heap.size:=(aA.1 hh).1;clear h hh hv hV b0 c4 c5 c6 c7;go_enter func23,ntmps23;go_wp2_with fail
 go_region_held3 (fun Z=>Z.cell? ⟨nb,4,none⟩=some (.int .i64 N.v.ep)/\Z.cell? ⟨nb,5,none⟩=some (.slice P.A.ca N.v.ch.length P.A.cc)/\Z.cell? ⟨nb,6,none⟩=some (.slice P.A.sa N.v.si.length P.A.sc)/\Z.cell? ⟨nb,7,none⟩=some (.slice P.A.ba N.v.bo.length P.A.bc)/\Below w.heap.size w Z)
  (first|exact⟨k4,k5,k6,k7,HW0.out.drew⟩|exact mi (by assumption) hb|exact Kz (by assumption) (dG _ _ _ _ _ _) ab hlt hlt hlt hlt)
  (first
   |(go_at_call_of 47 (Value.slice P.A.ca N.v.ch.length P.A.cc);refine(C1.out _ (And.right (And.right (And.right (And.right (by assumption)))))).mono ?_;rintro e w1 ⟨a1,c1,rfl,_,hb⟩;have hrr:w1.heap[w.heap.size]?=some l8:=(by first|with_reducible exact au hb ab hr|exact au (vh hb) ab hr))
   |(go_at_call_of 47 (Value.slice P.A.sa N.v.si.length P.A.sc);refine(C2.out _ (And.right (And.right (And.right (And.right (by assumption)))))).mono ?_;rintro e w2 ⟨a2,c2,rfl,_,hb⟩;have hrr2:w2.heap[w.heap.size]?=some l8:=au hb ab hrr)
   |(go_at_call_of 47 (Value.slice P.A.ba N.v.bo.length P.A.bc);refine(C3.out _ (And.right (And.right (And.right (And.right (by assumption)))))).mono ?_;rintro e w3 ⟨a3,c3,rfl,_,hb⟩;have hrr3:w3.heap[w.heap.size]?=some l8:=au hb ab hrr2;have f0:=ay hrr3 0;have f1:=ay hrr3 1;have f2:=ay hrr3 2;have f3:=ay hrr3 3;obtain⟨n0,n1,n2,n3⟩:=fI hrr3))
 all_goals go_wp2
 all_goals refine bodyPost_ret (t' rfl _ _ w.heap.size _ _ _ _ rfl (oJ hrr3 _ _ _ _) underlying70 rfl qi) rfl ?_
 all_goals exact⟨_,_,_,_,_,_,_,_,_,rfl,And.right (And.right (And.right (And.right (by assumption))))⟩
theorem FV (h:ah R J a nb lg sb room s fs st N w) (hR:aC a R) (hn:s.es.length<=1000000) :
 Calls prog 45 #[.pointer (some ⟨N.r,0,none⟩),.int .i64 1,.int .i64 (s.es.length:Int)] w fun e w'=>∃va qs vc,e=.returned (.slice va qs.length vc)/\Hid (ag qs=s.es)/\Hid (ah (cn R (.slice va qs.length vc) qs) J a nb lg sb room s fs st N w')/\Below w.heap.size w w':=by
 obtain⟨J',h1,h2⟩:=h.rep;refine(qF 1 (s.es.length:Int) h1 hR hn).mono ?_;rintro e w1 ⟨va,qs,vc,rfl,hp,_,hr,hb⟩;exact⟨va,qs,vc,rfl,ad (hp.out.trans (Lg.FA (Int.le_refl _))),ad (h2 _ s fs st w1 hr.out),hb⟩
set_option maxHeartbeats 8000000 in
set_option maxRecDepth 100000 in
theorem qR (h:ah R J a nb lg sb room s fs st N w) (hR:aC a R) (hn:s.es.length<=1000000) :
 Calls prog 21 #[.pointer (some ⟨nb,0,none⟩)] w fun e w'=>∃va qs vc,e=.returned (.slice va qs.length vc)/\Hid (ag qs=s.es)/\Hid (ah (cn R (.slice va qs.length vc) qs) J a nb lg sb room s fs st N w')/\Below w.heap.size w w':=by
 have HL:=ad (fun Z (hb:Below w.heap.size w Z)=>kL (h.next hR hb));have HG:=ad (fun Z (hb:Below w.heap.size w Z)=>FV (h.next hR hb) hR hn);have HC:=ad (fun Z (hb:Below w.heap.size w Z)=>(h.next hR hb).c3.2.2);have c3:=h.c3.2.2;clear h;go_enter func21,ntmps21;go_wp2_with fail
 go_region_held3 (fun Z=>Z.cell? ⟨nb,3,none⟩=some (.pointer (some ⟨N.r,0,none⟩))/\Below w.heap.size w Z)
  (first|exact⟨HC.out _ (ae _ w).drew,(ae _ w).drew⟩|exact⟨HC.out _ HB2.out,HB2.out⟩|assumption)
  (first
   |(go_at_call 41;refine(HL.out _ (And.right (by assumption))).mono ?_;rintro e w1 ⟨rfl,rfl⟩)
   |(go_at_call 45;refine(HG.out _ (And.right (by assumption))).mono ?_;rintro e w2 ⟨va,qs,vc,rfl,HP,HN,hb⟩;have HB2:=ad (Below.up (B:=w.heap.size) (And.right (by assumption)) ab hb);clear hb))
 all_goals go_wp2
 all_goals go_ret
 all_goals exact⟨va,qs,vc,rfl,HP,HN,HB2.out⟩
theorem By (h:ah R J a nb lg sb room s fs st N w) (hR:aC a R) (hn:s.es.length<=1000000) :
 Calls prog 21 #[.pointer (some ⟨nb,0,none⟩)] w fun e w'=>∃va qs vc,e=.returned (.slice va qs.length vc)/\Hid (ag qs=s.es)/\Hid (dk w' (.slice va qs.length vc) qs)/\Below w.heap.size w w':=by
 refine(qR h hR hn).mono ?_;rintro e w1 ⟨va,qs,vc,rfl,hp,hn,hb⟩;obtain⟨J',h1,_⟩:=hn.out.rep;obtain⟨TL,TS,X,_,_,ha⟩:=h1;exact⟨va,qs,vc,rfl,hp,ad ha.cr,hb⟩
theorem qo {T:TypeId} {V:Value} {c:Bool} (fr now ep:Int) (h47:T≠47) (h45:T≠45) (h42:T≠42) (h49:T≠49) (hf:fr<=100)
 (HR:Calls prog 13 #[.iface T V] w (fun e w'=>e=.returned (.bool c)/\Below w.heap.size w w')) (HE:c=true->∀Z,Below w.heap.size w Z->Calls prog 69 #[.iface T V] Z (fun e w'=>e=.returned (.int .i64 ep)/\Below Z.heap.size Z w'))
 (h:ah R J a nb lg sb room s fs st N w) (hR:aC a R) (hV:eU N.v) (hp:0<=place N.v N.id) (hno:1<=fr->ep≠N.v.ep\/place N.v fr<0) (hc:Calm N s fs st) (hO:N.outs=[]) :
 Calls prog 10 #[.pointer (some ⟨nb,0,none⟩),.int .i64 fr,.iface T V,.int .i64 now] w fun e w'=>∃v,e=.returned v/\dH R J a nb lg sb room s fs st N [] v w':=by
 cases c with
 |false=>exact E0 fr now HR h hR hO
 |true =>
  by_cases h1:fr<1
  ·exact Ja fr now h47 h45 h42 h49 h1 HR h hR hc hO
  ·exact K7 fr now ep h47 h45 h42 h49 ⟨by omega,hf⟩ HR (HE rfl) h hR hV hp (hno (by omega)) hc hO
theorem K4 {V:Vw} {A:q_gk} (hA:fE w V A) (hep:0<=V.ep/\V.ep<=274877906944) (h1:V.ch.length<=100) (h2:V.si.length<=100) (h3:V.bo.length<=100) (hb:(cE V.ch&&cE V.si&&cE V.bo)=true) :
 Calls prog 13 #[.iface 47 (dw V A)] w fun e w'=>e=.returned (.bool true)/\Below w.heap.size w w':=by
 have HR:=dK w (qQ V.ep A.ca V.ch.length A.cc A.sa V.si.length A.sc A.ba V.bo.length A.bc) (o4 V A (jm ..) hA h1 h2 h3) (c:=4) (jm ..) (by simp);have h4:([V.ep].all bF&&(cE V.ch&&cE V.si&&cE V.bo))=true:=by
  rw[hb];simp[bF];omega
 rw[h4]at HR;exact HR
theorem C4 (V:Vw) (A:q_gk) (b:Bool) (fr now:Int) (hf:fr=0\/1<=fr/\fr<=100) (hA:fE w V A) (h1:1<=V.ch.length/\V.ch.length<=100) (h2:1<=V.si.length/\V.si.length<=100) (h3:1<=V.bo.length/\V.bo.length<=100) (hV:if b=true then eU V else V.ep<1) (he0:0<=V.ep/\V.ep<=274877906944) (hb:(cE V.ch&&cE V.si&&cE V.bo)=true)
 (hep:V.ep<=N.v.ep) (h:ah R J a nb lg sb room s fs st N w) (hR:aC a R) (hVN:eU N.v) (hp:0<=place N.v N.id) (hc:Calm N s fs st) (hO:N.outs=[]) :
 Calls prog 10 #[.pointer (some ⟨nb,0,none⟩),.int .i64 fr,.iface 47 (dw V A),.int .i64 now] w fun e w'=>∃v,e=.returned v/\dH R J a nb lg sb room s fs st N [] v w':=by
 have HR:=K4 hA he0 h1.2 h2.2 h3.2 hb;rcases hf with rfl|hf
 ·exact wJ (P1:=ah R J a nb lg sb room s fs st N) (P2:=ah R J a nb lg sb room s fs st N) now HR (fun Z hZ=>(IM V A b (h.next hR hZ) hR (hA.next hZ) h1 h2 h3 hV hep).mono fun _ _ q=>⟨q.1,(h.next hR hZ).next hR q.2⟩) (fun Z Z' hz hb=>hz.next hR hb) (fun Z hz=>dA hz hR hc (by rw[hO];exact Nat.zero_le _)) (fun Z hz=>gH hz hR hO)
 ·have HE:=fun Z (hZ:Below w.heap.size w Z)=>fV Z (qQ V.ep A.ca V.ch.length A.cc A.sa V.si.length A.sc A.ba V.bo.length A.bc) (o4 V A (jm ..) (hA.next hZ) h1.2 h2.2 h3.2) (c:=4) (jm ..) (by simp) (by simp);have h4:([V.ep].all bF&&(cE V.ch&&cE V.si&&cE V.bo))=true:=by
   rw[hb];simp[bF];omega
  simp only[if_pos h4]at HE;refine C7 (P1:=ah R J a nb lg sb room s fs st N) (P2:=ah R J a nb lg sb room s fs st N) fr now hf HR (fun Z hZ=>?_) (fun Z hz=>dA hz hR hc (by rw[hO];exact Nat.zero_le _)) (fun Z hz=>gH hz hR hO);by_cases hq:V.ep≠N.v.ep\/place N.v fr<0
  ·exact(vz fr now V.ep _ _ (h.next hR hZ) hR hVN hp (fun Y hY=>HE Y (Below.up hZ ab hY)) hq).mono fun _ _ hx=>⟨hx.1,(h.next hR hZ).next hR hx.2⟩
  ·have hq1:V.ep=N.v.ep:=by
    by_cases e:V.ep=N.v.ep
    ·exact e
    ·exact absurd (.inl e) hq
   have hq2:0<=place N.v fr:=by
    by_cases e:place N.v fr<0
    ·exact absurd (.inr e) hq
    ·omega
   exact(FP fr now (h.next hR hZ) hR hVN hp (fun Y hY=>by rw[<-hq1];exact HE Y (Below.up hZ ab hY)) hq2).mono fun _ _ hx=>⟨hx.1,(h.next hR hZ).next hR hx.2⟩
end
section
variable {R:(Nat->Prop)->(Nat->Prop)->World->Prop} {a w w':World} {nb lg sb d r:Nat} {fs fs':List Dk.ai} {nx:Int} {nu:List Int} {L:List Evt.Entry} {V:Vw} {id ls:Int} {xb:Nat} {nv dv v:Value} {kn:List (Nat×Obj)} {H Wr:List (Int×Value)} {F:List Int} {E:Int} {k:Nat}
theorem Fr.tk {m:Value} {fr now:Int} (h:Fr R a nb lg sb d r fs nx nu L V id ls xb nv dv kn H Wr F w) (hR:aC a R)
 (htk:∀J,ah R J a nb lg sb 4194304 (Lg.aL nx nu L) fs (dI L) (gr id d r V ls) w->Calls prog 10 #[.pointer (some ⟨nb,0,none⟩),.int .i64 fr,m,.int .i64 now] w fun e w'=>∃v,e=.returned v/\dH R J a nb lg sb 4194304 (Lg.aL nx nu L) fs (dI L) (gr id d r V ls) [] v w') :
 Calls prog 10 #[.pointer (some ⟨nb,0,none⟩),.int .i64 fr,m,.int .i64 now] w fun e w'=>∃oa oc,e=.returned (.slice oa 0 oc)/\Fr R a nb lg sb d r fs nx nu L V id ls xb nv dv kn H Wr F w':=by
 obtain⟨P,g1,g2,g3⟩:=h;refine(htk _ g3).mono ?_;rintro e w1 ⟨v,rfl,hT⟩;obtain⟨_,oa,oc,rfl⟩:=hT.drop hR;exact⟨oa,oc,rfl,bB.Kc g1 g2 hT hR⟩
def gG:Vw:=⟨5,[1,2,3],[1,1,4],[0,0,6]⟩
theorem EV:eU gG:=by
 refine⟨by decide,by decide,by decide,by decide,rfl,rfl,fun i n s b h1 h2 h3=>?_⟩
 match i with
 |0=>simp[gG]at h1 h2 h3;subst h1 h2 h3;simp[gG]
 |1=>simp[gG]at h1 h2 h3;subst h1 h2 h3;simp[gG]
 |2=>simp[gG]at h1 h2 h3;subst h1 h2 h3;simp[gG]
 |i+3=>simp[gG]at h1
def jb (ep:Int):Vw:=⟨min ep 5,[2],[1],[0]⟩
theorem Jo {ep:Int} (h:1<=ep):eU (jb ep):=by
 refine⟨by simp only[jb];omega,by simp only[jb];omega,by simp[jb],by simp[jb],rfl,rfl,fun i n s b h1 h2 h3=>?_⟩
 match i with
 |0=>simp[jb]at h1 h2 h3;subst h1 h2 h3;simp[jb];omega
 |i+1=>simp[jb]at h1
def pz (ep who:Int) (va:Option Addr) (n vc:Nat) (A:q_gk):Nat->Value
 |0=>.iface 75 (.agg #[.int .i64 ep,.int .i64 who,.int .i64 0,.slice none 0 0])
 |1=>.iface 77 (.agg #[.int .i64 ep,.int .i64 who,.int .i64 0,.int .i64 0,.int .i64 1,.int .i64 0,.slice va n vc])
 |2=>.iface 79 (.agg #[.int .i64 ep,.int .i64 who,.int .i64 1073741824])
 |3=>.iface 81 (.agg #[.int .i64 ep,.int .i64 who,.int .i64 0,.int .i64 1])
 |4=>.iface 83 (.agg #[.int .i64 ep,.int .i64 0,.int .i64 1,.int .i64 1073741824])
 |5=>.iface 47 (dw (jb ep) A)
 |_=>.iface 45 (.agg #[.int .i64 ep,.int .i64 50])
theorem Iw {i:Nat} {ep who:Int} {va:Option Addr} {vc:Nat} {qs:List bu} {A:q_gk} (hep:0<=ep/\ep<=274877906944) (hw:0<=who/\who<=4) (h5:ep=5->who=4) (hi:i<7) (hs:i=6->ep≠5) (hE:Env w) (hrow:dk w (.slice va qs.length vc) qs) (hq:qs.length<=40) (hA:fE w (jb ep) A)
 (h:Fr R a nb lg sb d r fs nx nu L gG 2 0 xb nv dv kn H Wr F w) (hR:aC a R) (hg:Good fs nx nu L gG 2 E k) :
 Calls prog 10 #[.pointer (some ⟨nb,0,none⟩),.int .i64 who,pz ep who va qs.length vc A i,.int .i64 0] w fun e w'=>∃oa oc,e=.returned (.slice oa 0 oc)/\Fr R a nb lg sb d r fs nx nu L gG 2 0 xb nv dv kn H Wr F w':=by
 refine h.tk hR (fun J g=>?_);have hc:Calm (gr 2 d r gG 0) (Lg.aL nx nu L) fs (dI L):=hg.calm d r 0;have hno:1<=who->ep≠(gr 2 d r gG 0).v.ep\/place (gr 2 d r gG 0).v who<0:=fun _=>by
  by_cases e:ep=5
  ·rw[h5 e];exact .inr (show place gG 4<0 by decide)
  ·exact .inl e
 have hV:eU (gr 2 d r gG 0).v:=EV;have hp:0<=place (gr 2 d r gG 0).v (gr 2 d r gG 0).id:=by show 0<=place gG 2;decide
 match i,hi with
 |0,_ =>
  have HP:=fun (Z:World)=>DI (a:=Z) ep who 0 (rh ..);refine qo (c:=[ep,who,0].all bF&&true) who 0 ep (by decide) (by decide) (by decide) (by decide) (by omega) (dK w (wS ep who 0 none 0 0) (HP w) (c:=6) (rh ..) (by simp)) (fun hx Z hZ=>?_) g hR hV hp hno hc rfl;have:=fV Z (wS ep who 0 none 0 0) (HP Z) (c:=6) (rh ..) (by simp) (by simp);rw[if_pos hx]at this;exact this
 |1,_ =>
  have HP:=fun (Z:World) (hZ:Below w.heap.size w Z)=>uj (a:=Z) ep who 0 0 1 0 va vc qs (jn ..) (hE.next hZ) (hrow.next hZ) hq;refine qo (c:=[ep,who,0,0,1,0].all bF&&oy qs) who 0 ep (by decide) (by decide) (by decide) (by decide) (by omega) (dK w (nC ep who 0 0 1 0 va qs.length vc) (HP w (ae _ _)) (c:=7) (jn ..) (by simp)) (fun hx Z hZ=>?_) g hR hV hp hno hc rfl;have:=fV Z (nC ep who 0 0 1 0 va qs.length vc) (HP Z hZ) (c:=7) (jn ..) (by simp) (by simp);rw[if_pos hx]at this;exact this
 |2,_ =>
  refine qo (c:=[ep,who,1073741824].all bF&&true) who 0 ep (by decide) (by decide) (by decide) (by decide) (by omega) (wM ep who 1073741824 w) (fun hx Z hZ=>?_) g hR hV hp hno hc rfl;have:=xn ep who 1073741824 Z;rw[if_pos hx]at this;exact this
 |3,_ =>
  refine qo (c:=[ep,who,0,1].all bF&&true) who 0 ep (by decide) (by decide) (by decide) (by decide) (by omega) (Fu ep who 0 1 w) (fun hx Z hZ=>?_) g hR hV hp hno hc rfl;have:=Gp ep who 0 1 Z;rw[if_pos hx]at this;exact this
 |4,_ =>
  refine qo (c:=[ep,0,1,1073741824].all bF&&true) who 0 ep (by decide) (by decide) (by decide) (by decide) (by omega) (Du ep 0 1 1073741824 w) (fun hx Z hZ=>?_) g hR hV hp hno hc rfl;have:=Eo ep 0 1 1073741824 Z;rw[if_pos hx]at this;exact this
 |5,_ =>
  refine C4 (jb ep) A (decide (1<=ep)) who 0 (by omega) hA (by simp[jb]) (by simp[jb]) (by simp[jb]) ?_ (by simp only[jb];omega) (by simp[cE,jb,bF]) (by show min ep 5<=5;omega) g hR hV hp hc rfl;by_cases e:1<=ep
  ·rw[if_pos (decide_eq_true e)];exact Jo e
  ·rw[if_neg (by simpa using e)];simp only[jb];omega
 |6,_ =>
  by_cases h0:who=0
  ·rw[h0];exact AQ ep 50 0 hep ⟨by decide,by decide⟩ (hs rfl) g hR hc rfl
  ·exact EZ who ep 50 0 ⟨by omega,by omega⟩ hep ⟨by decide,by decide⟩ g hR hV hp (.inl (.inl (hs rfl))) hc rfl
end
section
variable {R:(Nat->Prop)->(Nat->Prop)->World->Prop} {a w w':World} {nb lg sb:Nat} {room:Int} {s s':Lg.S} {fs fs':List Dk.ai} {st st2:Stat} {J:List (Nat×Obj)} {N M:Nd} {xb:Nat} {nv dv:Value} {kn C:List (Nat×Obj)} {H Wr:List (Int×Value)} {F:List Int}
theorem bB.Gs (h:bB R a nb lg sb room s fs st N xb nv dv kn H Wr F [] w) (hR:aC a R) (hb:Below w.heap.size w w') (hC:∀p∈C,w.heap.size<=p.1/\w'.heap[p.1]?=some p.2):bB R a nb lg sb room s fs st N xb nv dv (kn++C) H Wr F [] w':=by
 obtain⟨P,h1,h2,h3⟩:=h;have h4:=h3.enter (R':=R) (J2:=C) hR hb hC (fun _ _ _ e=>e);rw[List.append_nil,List.append_assoc]at h4;refine⟨P,h1,fun p hp=>?_,by rw[List.append_nil];exact h4⟩;rw[List.append_nil]at hp;rcases aK.1 hp with hp|hp
 ·exact h2 p (aH _ hp)
 ·rintro ⟨q,hq,e⟩;have:=(aA.1 (h3.bj q (aH _ hq))).1;have:=(hC p hp).1;omega
theorem bB.kept {JX:List (Nat×Obj)} (h:bB R a nb lg sb room s fs st N xb nv dv kn H Wr F JX w) {p:Nat×Obj} (hp:p∈kn):w.heap[p.1]?=some p.2:=by
 obtain⟨P,_,_,h3⟩:=h;exact h3.bj p (aD _ (aH _ hp))
theorem Quiet.enter {c:Net} {L:List Evt.Entry} (h:Quiet c L H w) (hb:Below w.heap.size w w') (hC:∀p∈C,w.heap.size<=p.1/\w'.heap[p.1]?=some p.2):Quiet {c with kn:=c.kn++C} L H w':=by
 obtain⟨y1,y2,h1,h2,h3⟩:=h;exact⟨y1,y2,h1,h2,bB.Gs h3 cu hb hC⟩
theorem Quiet.kept {c:Net} {L:List Evt.Entry} (h:Quiet c L H w) {p:Nat×Obj} (hp:p∈c.kn):w.heap[p.1]?=some p.2:=by
 obtain⟨y1,y2,h1,h2,h3⟩:=h;exact bB.kept h3 hp
theorem Quiet.Mc {c:Net} {L:List Evt.Entry} (h:Quiet c L H w) (hl:L.length<=40):∃R fs nx nu,aC c.a R/\Good fs nx nu L (cy 2) 2 1 1/\Fr R c.a c.x2.nb c.x2.lg c.x2.sb c.x2.d c.x2.r fs nx nu L (cy 2) 2 c.ls c.xb c.nv c.dv c.kn H [] [] w:=by
 obtain⟨y1,y2,⟨h1,h1L,h1p⟩,⟨h2,h2L,h2p⟩,h3⟩:=h;have e2:y2.s=Lg.aL y2.nx y2.nu L:=by unfold ND.s;rw[h2L]
 have h4:bB (iE c.a c.x2.nb c.x2.lg c.x2.sb 4194304 y2.s y2.fs (dI y2.Lp) c.n2) c.a c.x1.nb c.x1.lg c.x1.sb 4194304 y1.s y1.fs (dI y1.Lp) c.n1 c.xb c.nv c.dv c.kn H [] [] [] w:=h3;have h5:=h4.swap;rw[e2,h2p]at h5;exact⟨_,y2.fs,y2.nx,y2.nu,cu,Lj (k:=1) h2 (by omega) hl,h5⟩
end
section
variable {R:(Nat->Prop)->(Nat->Prop)->World->Prop} {a w w':World} {nb lg sb d r:Nat} {fs fs':List Dk.ai} {nx:Int} {nu:List Int} {L:List Evt.Entry} {V:Vw} {id ls:Int} {xb:Nat} {nv dv v:Value} {kn C:List (Nat×Obj)} {H Wr:List (Int×Value)} {F:List Int} {E:Int} {k:Nat}
theorem Fr.below (h:Fr R a nb lg sb d r fs nx nu L V id ls xb nv dv kn H Wr F w):Below a.heap.size a w:=by
 obtain⟨P,g1,g2,g3⟩:=h;exact g3.below
theorem Fr.env (h:Fr R a nb lg sb d r fs nx nu L V id ls xb nv dv kn H Wr F w):Env w:=by
 obtain⟨P,g1,g2,g3⟩:=h;exact g3.env
theorem Fr.cr {va:Option Addr} {vc:Nat} {qs:List bu} (h:Fr (cn R (.slice va qs.length vc) qs) a nb lg sb d r fs nx nu L V id ls xb nv dv kn H Wr F w):dk w (.slice va qs.length vc) qs:=by
 obtain⟨P,g1,g2,g3⟩:=h;obtain⟨J',h1,_⟩:=g3.rep;obtain⟨TL,TS,X,_,_,ha⟩:=h1;exact ha.cr
theorem KI (h:Fr R a nb lg sb d r fs nx nu L V id ls xb nv dv kn H Wr F w) (hR:aC a R) (hl:L.length<=40) :
 Calls prog 21 #[.pointer (some ⟨nb,0,none⟩)] w fun e w'=>∃va qs vc,e=.returned (.slice va qs.length vc)/\Hid (ag qs=L)/\Hid (Fr (cn R (.slice va qs.length vc) qs) a nb lg sb d r fs nx nu L V id ls xb nv dv kn H Wr F w'):=by
 obtain⟨P,g1,g2,g3⟩:=h;refine(qR g3 hR (show L.length<=1000000 by omega)).mono ?_;rintro e w1 ⟨va,qs,vc,rfl,hp,hn,hb⟩;exact⟨va,qs,vc,rfl,hp,ad ⟨P,g1,g2,hn.out⟩⟩
theorem CH (h:Fr R a nb lg sb d r fs nx nu L V id ls xb nv dv kn H Wr F w) (hR:aC a R) (hl:L.length<=40) :
 Calls prog 21 #[.pointer (some ⟨nb,0,none⟩)] w fun e w'=>∃va qs vc,e=.returned (.slice va qs.length vc)/\Hid (ag qs=L)/\Hid (dk w' (.slice va qs.length vc) qs)/\Below w.heap.size w w':=by
 obtain⟨P,g1,g2,g3⟩:=h;exact By g3 hR (show L.length<=1000000 by omega)
theorem rn (h:Fr R a nb lg sb d r fs nx nu L V id ls xb nv dv kn H Wr F w) :
 Calls prog 16 #[.pointer (some ⟨nb,0,none⟩)] w fun e w'=>e=.returned (.int .i64 (dI L).app)/\Below w.heap.size w w':=by
 obtain⟨P,g1,g2,g3⟩:=h;exact vB g3
theorem Ai (h:Fr R a nb lg sb d r fs nx nu L V id ls xb nv dv kn H Wr F w) (hg:Good fs nx nu L V id E k) :
 Calls prog 22 #[.pointer (some ⟨nb,0,none⟩)] w fun e w'=>e=.returned (.int .i64 E)/\Below w.heap.size w w':=by
 obtain⟨P,g1,g2,g3⟩:=h;have:=x9 g3 (by decide);rw[hg.i.uQ]at this;exact this
theorem tA (h:Fr R a nb lg sb d r fs nx nu L V id ls xb nv dv kn H Wr F w) :
 Calls prog 24 #[.pointer (some ⟨nb,0,none⟩)] w fun e w'=>e=.returned (.int .i64 ls)/\Below w.heap.size w w':=by
 obtain⟨P,g1,g2,g3⟩:=h;exact x7 g3
theorem tz (h:Fr R a nb lg sb d r fs nx nu L V id ls xb nv dv kn H Wr F w) (hg:Good fs nx nu L V id E k) :
 Calls prog 23 #[.pointer (some ⟨nb,0,none⟩)] w fun e w'=>∃a1 l1 c1 a2 l2 c2 a3 l3 c3,e=.returned (.agg #[.int .i64 V.ep,.slice a1 l1 c1,.slice a2 l2 c2,.slice a3 l3 c3])/\Below w.heap.size w w':=by
 obtain⟨P,g1,g2,g3⟩:=h;exact zK g3 hg.v
end
end Go.Proofs.YtmgmknmaepjnoaaGreatDoor
