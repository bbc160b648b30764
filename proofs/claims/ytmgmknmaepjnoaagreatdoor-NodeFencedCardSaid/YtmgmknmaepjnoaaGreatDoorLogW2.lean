/-
  The walk of a log's read (layer 11): a segment that goes on is taken in. The walk of a log's room (layer 11).
-/
import Derived.Test.YtmgmknmaepjnoaaGreatDoorLogW1
namespace Go.Proofs.YtmgmknmaepjnoaaGreatDoor
open Go.RowKit Go.Shelf Proofs.Tryz
section
theorem Lg.nA {room n:Int} {s s':Lg.S} {fs fs':List Dk.ai} (h:Lg.rQ room n s fs=((fs',s'),true,0)) :
 (af.cA n fs).2=0/\Lg.oB (af.cA n fs).1 s.es=true/\s'=s.more n (af.cA n fs).1 /\
  ((af.cA n fs).1.cH=true/\af.fD room n ((af.cA n fs).1.first+(af.cA n fs).1.entries.length-1) fs=(fs',0)\/(af.cA n fs).1.cH=false/\fs'=fs):=by
 unfold Lg.rQ at h;split at h
 ·rename_i hc;refine⟨hc.1,hc.2,?_⟩;split at h
  ·rename_i ht;split at h
   ·rename_i h0;simp only[Prod.mk.injEq,and_true]at h;exact⟨h.2.symm,.inl ⟨ht,Prod.ext h.1 h0⟩⟩
   ·simp at h
  ·rename_i ht;simp only[Prod.mk.injEq,and_true]at h;exact⟨h.2.symm,.inr ⟨by simpa using ht,h.1.symm⟩⟩
 ·simp at h
theorem Lg.Ed {g:af.af} {es:List Evt.Entry} (h:Lg.oB g es=true):g.first=(es.length:Int)+1/\∀e l,g.entries=e::l->Lg.dd es<=e.epoch:=by
 unfold Lg.oB at h;rw[Bool.and_eq_true,decide_eq_true_eq]at h;refine⟨h.1,fun e l he=>?_⟩;have:=h.2;rw[he]at this;simpa using this
theorem gl.out {base:Nat} {w:World} {v:Value} {qs:List bu} {X:Nat->Prop} (h:gl base w v qs) (hX:∀j,base<=j->j<w.heap.size->¬X j):∀p∈qs,dp w p.2 p.1.b.events/\l7 p.1/\kT X p:=fun p hp =>
 ⟨aj (h.2 p hp).1,(h.2 p hp).2.1,fun b hb _ hx=>by
  have:=(h.2 p hp).1.lt b hb;exact hX b this.1 this.2 hx⟩
theorem mo (w:World) (c:List Value) (e:TypeId):Cells (w.alloc (.cells c.toArray e)) (.slice (some ⟨w.heap.size,0,none⟩) 1 1) c.length 1 c:=by
 refine⟨by simp,.inr ⟨w.heap.size,0,1,rfl,fun j u hj=>?_⟩⟩;rw[aw (heap_alloc_new w _)];simpa using hj
variable {a w w':World} {lg d:Nat} {room:Int} {s s':Lg.S} {fs fs':List Dk.ai} {T X ft:Nat->Prop} {pv ev:Value} {ps qs:List bu}
def lr (a:World) (lg d:Nat) (room:Int) (s:Lg.S) (fs':List Dk.ai) (T X:Nat->Prop) (pv ev:Value) (ps:List bu) (w:World) (G:Nat) (first:Int) (v:Value) (cH:Bool) (qs:List bu) (wx:World):Prop :=
 ∃T2 ft2,Lay a lg d room s fs' T2 (fun j=>X j\/T2 j) ft2 pv ev ps wx/\(∀j,T j->T2 j)/\(∀j,T2 j->T j\/w.heap.size<=j)/\ax T w wx/\SB G first v cH wx /\
  (∀p∈qs,dp wx p.2 p.1.b.events/\l7 p.1/\kT (fun j=>X j\/T2 j) p)/\Cells wx v 7 qs.length (aM qs)/\¬T2 G/\∀b,v.ownBlock=some b->¬T2 b
theorem lr.whole {W:World} {G:Nat} {first:Int} {v:Value} {cH:Bool} (h:Lay a lg d room s fs T X ft pv ev ps w) (hb:Below w.heap.size w W) (hn:gl w.heap.size W v qs) (hs:SB G first v cH W) (hG:w.heap.size<=G):lr a lg d room s fs T X pv ev ps w G first v cH qs W :=
 ⟨T,ft,(h.next hb).wide (fun j hj=>by rcases hj with hj|hj;exact hj;exact h.cz j hj) (fun j hj=>.inr hj),fun _ h=>h,fun _ h=>.inl h,ax.aI hb,hs,
  hn.out (fun j h1 _ hx=>by rcases hx with hx|hx;have:=h.lt j hx;omega;have:=h.lt j (h.cz j hx);omega),aj hn.1,
  fun hx=>by have:=h.lt _ (h.cz _ hx);omega,fun b hb' hx=>by have:=h.lt _ (h.cz _ hx);have:=(hn.1.lt b hb').1;omega⟩
theorem lr.cut {W w2:World} {G:Nat} {first:Int} {v:Value} {cH:Bool} (h:Lay a lg d room s fs T X ft pv ev ps w) (hb:Below w.heap.size w W) (hn:gl w.heap.size W v qs) (hs:SB G first v cH W) (hG:w.heap.size<=G) (hd:DStep d room fs' ft W w2):lr a lg d room s fs' T X pv ev ps w G first v cH qs w2:=by
 obtain⟨T2,ft2,q1,q2,q3,q4,_⟩:=(h.next hb).jr hd;obtain⟨g,g1,g2,g3,g4⟩:=hd.open;have hftl:∀j,ft j->j<w.heap.size:=fun j hj=>h.lt j (h.cz j (h.sub j hj));have hn2:=hn.cJ hftl g4;have hbs:=hb.size;refine⟨T2,ft2,q1,q2,fun j hj=>?_,(ax.aI hb).trans q4 (fun j hj=>.inl hj),hs.cJ (fun hf=>by have:=hftl _ hf;omega) g4,?_,aj hn2.1,fun hx=>?_,fun b hb' hx=>?_⟩
 ·rcases q3 j hj with h|h
  ·exact .inl h
  ·exact .inr (Nat.le_trans hbs h)
 ·intro p hp;refine⟨aj (hn2.2 p hp).1,(hn2.2 p hp).2.1,fun b hb' hne hx=>?_⟩;have hlt:=(hn.2 p hp).1.lt b hb';rcases hx with hx|hx
  ·have:=h.lt b hx;omega
  ·rcases q3 b hx with hx|hx
   ·have:=h.lt b (h.cz b hx);omega
   ·omega
 ·have hlt:=(aA.1 hs).1;rcases q3 _ hx with hx|hx
  ·have:=h.lt _ (h.cz _ hx);omega
  ·omega
 ·have hlt:=hn.1.lt b hb';rcases q3 b hx with hx|hx
  ·have:=h.lt b (h.cz b hx);omega
  ·omega
theorem bd {f:Nat->Prop} {w w':World} {b i:Nat} {v:Value} (h:ax f w w') (hf:¬f b) (hc:w.cell? ⟨b,i,none⟩=some v):w'.cell? ⟨b,i,none⟩=some v:=by
 rw[World.cell?_of_block (w:=w) (w':=w') (h.block b (World.block_lt_of_cell? _ _ hc) hf)];exact hc
theorem pI {f:Nat->Prop} {w w':World} {v:Value} {sz n:Nat} {xs:List Value} (h:Cells w v sz n xs) (hf:∀b,v.ownBlock=some b->¬f b) (ht:ax f w w'):Cells w' v sz n xs:=by
 refine⟨h.1,?_⟩;rcases h.2 with h|⟨b,o,c,e,h2⟩
 ·exact .inl h
 ·exact .inr ⟨b,o,c,e,fun j u hj=>bd ht (hf b (by rw[e];rfl)) (h2 j u hj)⟩
theorem sO {w:World} {qs:List bu} {X:Nat->Prop} (h:∀p∈qs,dp w p.2 p.1.b.events/\l7 p.1/\kT X p):∀u∈aM qs,u.oneCell'=true:=od qs fun p hp=>by
 obtain⟨va,vc,e⟩:=aJ (h p hp).1;exact⟨_,_,_,e⟩
theorem qO {w w':World} {qs:List bu} {X X' T:Nat->Prop} (h:∀p∈qs,dp w p.2 p.1.b.events/\l7 p.1/\kT X p) (ht:ax T w w') (hT:∀j,T j->X j) (hX:∀j,X' j->X j\/w.heap.size<=j):∀p∈qs,dp w' p.2 p.1.b.events/\l7 p.1/\kT X' p:=fun p hp =>
 ⟨jq (h p hp).1 (fun b hb hne hx=>(h p hp).2.2 b hb hne (hT b hx)) ht,(h p hp).2.1,(h p hp).2.2.step (h p hp).1 hX⟩
set_option maxHeartbeats 8000000 in
set_option maxRecDepth 100000 in
theorem BI {n:Int} (h:Lay a lg d room s fs T X ft pv ev ps w) (hroom:room<=4194304) (hn:s.parts.length<=1000) (hps:ps.length<=500000) (hr:Lg.rQ room n s fs=((fs',s'),true,0)) :
 Calls prog 145 #[.pointer (some ⟨lg,0,none⟩),.int .i64 n] w fun e w'=>e=.returned (.tuple #[.bool true,.int .i64 0])/\dB a lg d room s' fs' T X w w':=by
 obtain⟨r1,r2,r3,r4⟩:=Lg.nA hr;have hle:=pj n fs (kg h.im hroom (af.nameOf n));have HL:=ad (nK a d room n fs ft w h.mr h.im hroom);have HLay:=ad h;have hlen:s.es.length<=ps.length:=Nat.le_of_eq h.len.symm;obtain⟨k0,k1,k2,k3⟩:=h.cells;clear h hr;go_enter func145,ntmps145;go_wp2_with fail;refine HL.out.mono ?_;rintro e w1 ⟨first,v,qs,cH,c,rfl,hLD,hNE,b1⟩;rw[hLD.out]at r1 r2 r3 r4 hle;simp only at r1 r4 hle;subst r1;obtain⟨g1,g2⟩:=Lg.Ed r2;simp only at g1 g2;subst g1;have hql:qs.length<=480000:=by have:=hle.2.2;simpa[ag]using this
 obtain⟨va,vc,rfl⟩:=aJ (aj hNE.out.1);have sb:SB w1.heap.size ((s.es.length:Int)+1) (.slice va qs.length vc) cH (w1.alloc (.cells #[.int .i64 ((s.es.length:Int)+1),.slice va qs.length vc,.bool cH] 312)):=heap_alloc_new w1 _;have ba:Below w1.heap.size w1 (w1.alloc (.cells #[.int .i64 ((s.es.length:Int)+1),.slice va qs.length vc,.bool cH] 312)):=(ae _ _).alloc ab _;obtain⟨W,hW⟩:∃W,W=w1.alloc (.cells #[.int .i64 ((s.es.length:Int)+1),.slice va qs.length vc,.bool cH] 312):=⟨_,rfl⟩;rw[<-hW]at sb ba;have hb2:Below w.heap.size w W:=Below.up b1 ab ba;have hNW:gl w.heap.size W (.slice va qs.length vc) qs:=⟨bX hNE.out.1 ba,fun p hp=>⟨bX (hNE.out.2 p hp).1 ba,(hNE.out.2 p hp).2⟩⟩;have HW:=ad hW;have HB2:=ad hb2;have HNW:=ad hNW;have HSB:=ad sb;have hG:w.heap.size<=w1.heap.size:=b1.size;have HR4:=ad r4;have HR3:=ad r3;have HG2:=ad g2;clear HL hLD hNE b1 ba hb2 hNW sb hW r2 r3 r4 g2 k0 k1 k2 k3;go_upto_region 2 with fail;rw[<-HW.out];go_cut [43] (fun v wx=>v=.bool false/\Below W.heap.size W wx)
 case first =>
  have HLW:=ad (HLay.out.next HB2.out);have HLA:=ad (fun n=>xe (HLW.out.next (below_drewN (ae _ W) n)));have HEP:=ad (fun n=>pg (HLW.out.next (below_drewN (ae _ W) n)) (by omega));obtain⟨m0,m1,m2⟩:=HSB.out.cells;have hw1:IntKind.i64.wrap ((s.es.length:Int)+1)=(s.es.length:Int)+1:=by rw[IntKind.wrap_i64];omega
  by_cases hq0:qs.length=0
  ·rw[hq0]at m1;clear hq0;go_quiet (first|(go_at_call 87;exact Calls.quiet_of_same (HLA.out _))|(go_at_call 163;exact Calls.quiet_of (HEP.out _)));go_wp2;go_meet
   case rel=>exact⟨rfl,below_drewN (ae _ W) _⟩
  ·obtain⟨b,o,c,p,ep,S,ex,se,sq,sa,sl,sc,es,hv,q0,q1,q2,q3,q4,q5,q6,_,_,_,_,hpe,_⟩:=jI HNW.out.cr 0 (by omega);cases hv;have hge:Lg.dd s.es<=ep:=by
    have e1:(ag qs)[0]?=some ⟨p,ep,⟨S.data.toList,ex,se,sq,es⟩⟩:=by
     rw[<-hpe.out];simp only[ag,List.getElem?_map];rw[aR (by omega)];rfl
    cases hc:ag qs with
    |nil=>rw[hc]at e1;cases e1
    |cons x l =>
     have:=HG2.out x l hc;rw[hc]at e1;simp only[List.getElem?_cons_zero,Option.some.injEq]at e1;rw[e1]at this;exact this
   have hlt:decide (ep<Lg.dd s.es)=false:=by rw[decide_eq_false_iff_not];omega
   have hgt:decide ((0:Int)<(qs.length:Int))=true:=by rw[decide_eq_true_eq];omega
   have hgt2:decide (0<qs.length)=true:=by rw[decide_eq_true_eq];omega
   have hgt3:(0:Int)<(qs.length:Int):=by omega
   have hgt4:0<qs.length:=by omega
   clear hpe q0 q2 q3 q4 q5 q6 hge;go_quiet (first|(go_at_call 87;exact Calls.quiet_of_same (HLA.out _))|(go_at_call 163;exact Calls.quiet_of (HEP.out _)));go_wp2;go_meet
   case rel=>exact⟨rfl,below_drewN (ae _ W) _⟩
 case rest =>
  obtain⟨rfl,hbc⟩:=hcut;have hLc:=HLay.out.next (HB2.out.trans (hbc.mono HB2.out.size));obtain⟨m0,m1,m2⟩:=(HSB.out.next hbc).cells;have HBC:=ad hbc;clear hbc;go_upto_if 45 with fail;go_cut [] (fun wx=>lr a lg d room s fs' T X pv ev ps w w1.heap.size ((s.es.length:Int)+1) (.slice va qs.length vc) cH qs wx)
  case first =>
   cases cH with
   |false =>
    obtain rfl:fs'=fs:=by
     rcases HR4.out with h|h
     ·cases h.1
     ·exact h.2
    go_wp2;go_meet
    case rel=>exact lr.whole HLay.out (HB2.out.trans (HBC.out.mono HB2.out.size)) ⟨bX HNW.out.1 HBC.out,fun p hp=>⟨bX (HNW.out.2 p hp).1 HBC.out,(HNW.out.2 p hp).2⟩⟩ (HSB.out.next HBC.out) hG
   |true =>
    have hcd:af.fD room n ((s.es.length:Int)+1+(qs.length:Int)-1) fs=(fs',0):=by
     rcases HR4.out with h|h
     ·have:=h.2;simpa[ag]using this
     ·cases h.1
    have hw1:IntKind.i64.wrap ((s.es.length:Int)+1+(qs.length:Int))=(s.es.length:Int)+1+(qs.length:Int):=by rw[IntKind.wrap_i64];omega
    have hw2:IntKind.i64.wrap ((s.es.length:Int)+1+(qs.length:Int)-1)=(s.es.length:Int)+1+(qs.length:Int)-1:=by rw[IntKind.wrap_i64];omega
    have hLd:=hLc.next (ae _ wc).drew;have HCUT:=tX a d room n ((s.es.length:Int)+1+(qs.length:Int)-1) fs ft wc.drew hLd.mr hLd.im hroom;rw[hcd]at HCUT;have HCUT:=ad HCUT;obtain⟨k0,_,_,_⟩:=hLc.cells;have hcc:=aB k0 (aB m0 m1);have hG1:¬ft w1.heap.size:=fun hf=>by have:=HLay.out.lt _ (HLay.out.cz _ (HLay.out.sub _ hf));omega
    have hG2:¬ft lg:=HLay.out.tl.2;clear hcd hLd hLc k0;go_wp2
    go_region_held3 (fun Z=>Z.cell? ⟨lg,0,none⟩=some (.pointer (some ⟨d,0,none⟩))/\Z.cell? ⟨w1.heap.size,0,none⟩=some (.int .i64 ((s.es.length:Int)+1))/\Z.cell? ⟨w1.heap.size,1,none⟩=some (.slice va qs.length vc))
     (first|exact hcc|exact⟨bd hds.choose_spec.2.2 hG2 hcc.1,bd hds.choose_spec.2.2 hG1 hcc.2.1,bd hds.choose_spec.2.2 hG1 hcc.2.2⟩)
     (first|(go_at_call 194;refine HCUT.out.mono ?_;rintro e w' ⟨rfl,hds⟩))
    have HDS:=ad hds;clear hds HCUT hcc;go_wp2;go_meet
    case rel =>
     have hbd:Below W.heap.size W wc.drew:=HBC.out.drew;exact lr.cut HLay.out (HB2.out.trans (hbd.mono HB2.out.size)) ⟨bX HNW.out.1 hbd,fun p hp=>⟨bX (HNW.out.2 p hp).1 hbd,(HNW.out.2 p hp).2⟩⟩ (HSB.out.next hbd) hG HDS.out
  case rest =>
   obtain⟨T2,ft2,hL2,mT,nT,tT,hS2,hE2,hC2,hG2,hv2⟩:=hcut;obtain⟨pa,pc,rfl⟩:=aJ (aj hL2.parts);have b8:Below wc.heap.size wc (wc.drew.alloc (.cells #[.int .i64 n,.int .i64 ((s.es.length:Int)+1)] 264)):=(ae _ wc).drew.alloc ab _;have HL8:=ad (hL2.next b8);have hx8:=mo wc.drew [.int .i64 n,.int .i64 ((s.es.length:Int)+1)] 264;have hE8:=qO hE2 (ax.aI (ft:=fun _=>False) b8) (fun _ h=>h.elim) (fun j hj=>.inl hj);have hC8:=pI hC2 (fun _ _ h=>h) (ax.aI (ft:=fun _=>False) b8);have hS8:=hS2.next b8;have H8:=ad (aB b8 (aB hE8 (aB hC8 hS8)));obtain⟨c0,c1,c2,c3⟩:=hL2.cells;obtain⟨m0,m1,m2⟩:=hS2.cells;have H2:=ad (aB mT (aB nT (aB tT (aB hG2 hv2))));have c2a:=(hL2.next ((ae _ wc).alloc ab (.cells #[.int .i64 n,.int .i64 ((s.es.length:Int)+1)] 264))).cells.2.2.1;clear b8 hE8 hC8 hS8 hL2 hE2 hC2 hS2 mT nT tT hLc HNW;go_upto_region 8 with fail;go_cut [] (fun wx=>∃v8 T3 ft3,Lay a lg d room ⟨s.next,s.parts++[(n,(s.es.length:Int)+1)],s.es⟩ fs' T3 (fun j=>(X j\/T2 j)\/T3 j) ft3 v8 ev ps wx/\(∀j,T2 j->T3 j)/\(∀j,T3 j->T2 j\/(wc.drew.alloc (.cells #[.int .i64 n,.int .i64 ((s.es.length:Int)+1)] 264)).heap.size<=j)/\ax T2 (wc.drew.alloc (.cells #[.int .i64 n,.int .i64 ((s.es.length:Int)+1)] 264)) wx)
   case first =>
    go_region_law (first
     | (refine iy rfl _ _ rfl yt a.heap.size (.slice pa s.parts.length pc) s.parts.length (aY s.parts) rfl HL8.out.parts _ 1 [.int .i64 n, .int .i64 ((s.es.length : Int) + 1)] rfl hx8 (by simp [Value.oneCell']) (by omega) HL8.out.base.below.size ?_
        intro v8 wa hown hga hbl;obtain ⟨va8, vc8, rfl⟩ := aJ (aj hown);have HP := ad (HL8.out.Hl hown hga hbl);have hlw := HP.out.1.trans HL8.out.log;have d2 : wa.cell? ⟨lg, 2, none⟩ = some (.slice pa s.parts.length pc) := aq hlw rfl;have f2 := ay hlw 2;clear hown hga hbl hlw))
    all_goals go_wp2
    all_goals go_meet
    all_goals exact⟨_,HP.out.2⟩
   case rest =>
    obtain⟨v8,T3,ft3,hL3,m3,n3,t3⟩:=hcut;have hx9:=pI H8.out.2.2.1 H2.out.2.2.2.2 t3;have hE9:=qO H8.out.2.1 t3 (fun j hj=>.inr hj) (X':=fun j=>(X j\/T2 j)\/T3 j) (fun j hj=>by
     rcases hj with hj|hj
     ·exact .inl hj
     ·rcases n3 j hj with h|h
      ·exact .inl (.inr h)
      ·exact .inr h)
    have hS9:=H8.out.2.2.2.cJ H2.out.2.2.2.1 t3;have b10:Below wc.heap.size wc wc.drew:=(ae _ wc).drew;have HL10:=ad (hL3.next b10);have hx10:=hx9.next b10;have hE10:=qO hE9 (ax.aI (ft:=fun _=>False) b10) (fun _ h=>h.elim) (X':=fun j=>(X j\/T2 j)\/T3 j) (fun j hj=>.inl hj);have HE10:=ad hE10;have HX10:=ad hx10;have H3:=ad (aB m3 (aB n3 t3));obtain⟨ea,ec,rfl⟩:=aJ (aj hL3.cr);obtain⟨c0,c1,c2,c3⟩:=hL3.cells;obtain⟨m0,m1,m2⟩:=hS9.cells;have hoc:=sO hE10;clear hx9 hE9 hS9 b10 hx10 hE10 m3 n3 t3 hL3;go_wp2
    go_region_law (first
     | (refine iy rfl _ _ rfl Gt a.heap.size (.slice ea ps.length ec) ps.length (aM ps) rfl HL10.out.cr _ qs.length (aM qs) rfl HX10.out hoc (by omega) HL10.out.base.below.size ?_
        intro v9 wa hown hga hbl;obtain ⟨va9, vc9, rfl⟩ := aJ (aj hown);have HP := ad (HL10.out.CN HE10.out hown hga hbl);have hlw := HP.out.1.trans HL10.out.log;have d3 : wa.cell? ⟨lg, 3, none⟩ = some (.slice ea ps.length ec) := aq hlw rfl;have f3 := ay hlw 3;clear hown hga hbl hlw))
    all_goals go_wp2
    all_goals go_ret2
    all_goals refine⟨rfl,?_⟩
    all_goals rw[HR3.out]
    all_goals exact dB.trans H2.out.2.2.1 H2.out.1 H2.out.2.1 (dB.under H8.out.1 (dB.trans H3.out.2.2 H3.out.1 H3.out.2.1 (dB.under ((ae _ _).drew) (dB.Ma HP.out.2))))
end
section
def Lg.Bounded (s:Lg.S):Prop:=s.parts.length<=1000/\s.es.length<=500000/\0<=s.next/\s.next<=2147483648/\∀p∈s.parts,0<=p.2/\p.2<=1000000
theorem Lg.Dr {room:Int} {s:Lg.S} {fs:List Dk.ai} (h:s.parts.length=0):Lg.dL room s fs=Lg.mI room s fs:=by
 unfold Lg.dL;rw[aP h];rfl
theorem Lg.Dq {room:Int} {s:Lg.S} {fs:List Dk.ai} {x y:Int} {n:Nat} (hn:s.parts.length=n+1) (h:s.parts[n]?=some (x,y)):Lg.dL room s fs=if (s.es.length:Int)+1-y<8 then ((fs,s),8-((s.es.length:Int)+1-y),0) else Lg.mI room s fs:=by
 unfold Lg.dL;rw[List.getLast?_eq_getElem?,hn,Nat.add_sub_cancel,h]
def jP (b:Nat) (x y:Int) (w:World):Prop:=w.heap[b]?=some (.cells #[.int .i64 x,.int .i64 y] 264 (0,0))
theorem jP.cells {b:Nat} {x y:Int} {w:World} (h:jP b x y w):w.cell? ⟨b,0,none⟩=some (.int .i64 x)/\w.cell? ⟨b,1,none⟩=some (.int .i64 y):=by
 refine⟨?_,?_⟩ <;> (rw[aw h];rfl)
theorem jP.next {b:Nat} {x y:Int} {w w':World} (h:jP b x y w) (hb:Below w.heap.size w w'):jP b x y w':=au hb ab h
theorem jP.cJ {f:Nat->Prop} {b:Nat} {x y:Int} {w w':World} (h:jP b x y w) (hf:¬f b) (ht:ax f w w'):jP b x y w':=(ht.block b (aA.1 h).1 hf).trans h
theorem Kq {w:World} {base n sz:Nat} {e:TypeId} {v:Value} {xs:List Value} (h:w.ownsRow base e sz v n xs):n=0->v=.slice none 0 0\/∃b o c,v=.slice (some ⟨b,o,none⟩) 0 c:=fun hn=>by
 rcases h.2 with⟨h,_⟩|⟨g,cap,cur,h,_⟩
 ·exact .inl h
 ·exact .inr ⟨g,0,cap,by rw[h,hn]⟩
variable {a w w':World} {lg d:Nat} {room:Int} {s s':Lg.S} {fs fs':List Dk.ai} {T X ft:Nat->Prop} {pv ev:Value} {ps qs:List bu}
set_option maxHeartbeats 8000000 in
set_option maxRecDepth 100000 in
theorem BH {k:Int} {c:Nat} (h:Lay a lg d room s fs T X ft pv ev ps w) (hB:Lg.Bounded s) (hr:Lg.dL room s fs=((fs',s'),k,c)) :
 Calls prog 165 #[.pointer (some ⟨lg,0,none⟩)] w fun e w'=>e=.returned (.tuple #[.int .i64 k,.int .i64 (c:Int)])/\dB a lg d room s' fs' T X w w':=by
 obtain⟨B1,B2,B3,B4,B5⟩:=hB;have HLay:=ad h;have hlen:ps.length=s.es.length:=h.len;obtain⟨pa,pc,rfl⟩:=aJ (aj h.parts);obtain⟨ea,ec,rfl⟩:=aJ (aj h.cr);obtain⟨k0,k1,k2,k3⟩:=h.cells;have HR:=ad hr;clear hr;go_enter func165,ntmps165;go_upto_if 16 with fail;go_cut [] (fun wx=>Lg.mI room s fs=((fs',s'),k,c)/\Below w.heap.size w wx)
 case first =>
  by_cases h0:s.parts.length=0
  ·rw[Lg.Dr h0]at HR;have HR':=ad HR.out;have hz:¬0<s.parts.length:=by omega
   clear h HR;go_wp2;go_meet
   case rel=>exact⟨HR'.out,ae _ _⟩
  ·obtain⟨n,hn⟩:∃n,s.parts.length=n+1:=⟨s.parts.length-1,by omega⟩;obtain⟨⟨x,y⟩,hxy⟩:∃x,s.parts[n]'(by omega)=x:=⟨_,rfl⟩;obtain⟨b,o,c',hv,q0,q1⟩:=partAt (aj h.parts) n (by omega) hxy;cases hv;have hxy':s.parts[n]?=some (x,y):=by rw[aR (by omega),hxy]
   have hy:=B5 (x,y) (List.mem_of_getElem? hxy');simp only at hy;rw[Lg.Dq hn hxy']at HR;have hz:decide (0<s.parts.length)=true:=by rw[decide_eq_true_eq];omega
   have hw1:IntKind.i64.wrap ((s.parts.length:Int)-1)=(n:Int):=by rw[IntKind.wrap_i64];omega
   have hw2:IntKind.i64.wrap ((s.es.length:Int)+1)=(s.es.length:Int)+1:=by rw[IntKind.wrap_i64];omega
   have hw3:IntKind.i64.wrap ((s.es.length:Int)+1-y)=(s.es.length:Int)+1-y:=by rw[IntKind.wrap_i64];omega
   have hw4:wrap64 (8-((s.es.length:Int)+1-y))=8-((s.es.length:Int)+1-y):=by rw[IntWalk.wrap64_in] <;> omega
   have hw5:((n:Int)).toNat=n:=by omega
   have hlt:(n:Int)<(s.parts.length:Int):=by omega
   have hlt2:n<s.parts.length:=by omega
   by_cases h8:(s.es.length:Int)+1-y<8
   ·rw[if_pos h8]at HR;have HR1:=ad (show fs'=fs/\s'=s/\k=8-((s.es.length:Int)+1-y)/\c=0 by
     have:=HR.out;simp only[Prod.mk.injEq]at this;exact⟨this.1.1.symm,this.1.2.symm,this.2.1.symm,this.2.2.symm⟩)
    clear h hn hxy hxy' HR;go_wp2;go_quiet (fail);go_wp2
    go_ret2
    obtain⟨rfl,rfl,rfl,rfl⟩:=HR1.out;exact⟨rfl,dB.refl ⟨_,_,_,_,HLay.out⟩ (below_drewN (ae _ _) _)⟩
   ·rw[if_neg h8]at HR;have HR':=ad HR.out;clear h hn hxy hxy' HR;go_wp2;go_quiet (fail);go_wp2;go_meet
    case rel=>exact⟨HR'.out,below_drewN (ae _ _) _⟩
 case rest =>
  obtain⟨hnew,hbc⟩:=hcut;have HN:=ad hnew;have HBC:=ad hbc;have HLc:=ad (h.next hbc);obtain⟨c0,c1,c2,c3⟩:=HLc.out.cells;clear h hnew hbc HR k0 k1 k2 k3;by_cases h30:30<=s.parts.length
  ·have HN1:=ad (show fs'=fs/\s'=s/\k=0/\c=4 by
    have:=HN.out;rw[Lg.mI,if_pos h30]at this;simp only[Prod.mk.injEq]at this;exact⟨this.1.1.symm,this.1.2.symm,this.2.1.symm,this.2.2.symm⟩)
   have h30i:(30:Int)<=(s.parts.length:Int):=by omega
   clear HN;go_wp2
   go_ret2
   obtain⟨rfl,rfl,rfl,rfl⟩:=HN1.out;exact⟨rfl,dB.refl ⟨_,_,_,_,HLay.out⟩ HBC.out⟩
  ·have h30i:¬(30:Int)<=(s.parts.length:Int):=by omega
   have h30j:(s.parts.length:Int)<30:=by omega
   obtain⟨⟨f1,e1⟩,hF1⟩:∃P,af.create room s.next ((s.es.length:Int)+1) fs=P:=⟨_,rfl⟩;have HN1:=ad (show(if e1≠0 then ((f1,s),0,e1) else if (al.save room (s.next+1) (s.ar++[s.next]) f1).2≠0 then
    (((Dk.delete (af.nameOf s.next) (al.save room (s.next+1) (s.ar++[s.next]) f1).1).1,s),0,(al.save room (s.next+1) (s.ar++[s.next]) f1).2)
    else (((al.save room (s.next+1) (s.ar++[s.next]) f1).1,⟨s.next+1,s.parts++[(s.next,(s.es.length:Int)+1)],s.es⟩),8,0))=((fs',s'),k,c)by
    have:=HN.out;rw[Lg.mI,if_neg h30,hF1]at this;exact this)
   have HLA:=ad (jM (HLc.out.next (ae _ wc).drew));have HLA2:=ad (jM (HLc.out.next (((ae _ wc).alloc ab (.cells #[.int .i64 0,.int .i64 0] 264)).drew)));have hw1:IntKind.i64.wrap ((s.es.length:Int)+1)=(s.es.length:Int)+1:=by rw[IntKind.wrap_i64];omega
   clear HN h30;go_upto_region 8 with fail;go_cut [6] (fun p6 wx=>p6=.pointer (some ⟨wc.heap.size,0,none⟩)/\jP wc.heap.size s.next ((s.es.length:Int)+1) wx/\Below wc.heap.size wc wx)
   case first =>
    go_region_held3 (fun Z=>Z.cell? ⟨lg,1,none⟩=some (.int .i64 s.next))
     (first|exact c1|exact cell_kept (((ae _ wc).alloc ab (.cells #[.int .i64 0,.int .i64 0] 264)).drew) ab c1|exact cell_kept (((ae _ wc).alloc ab (.cells #[.int .i64 s.next,.int .i64 ((s.es.length:Int)+1)] 264)).drew) ab c1)
     (first|(go_at_call 87;(first|refine HLA.out.mono ?_|refine HLA2.out.mono ?_);rintro e w' ⟨rfl,rfl⟩))
    all_goals go_wp2
    all_goals go_meet
    all_goals exact⟨rfl,heap_alloc_new wc _,((ae _ wc).alloc ab _).drew⟩
   case rest =>
   rename World=>W
   obtain⟨rfl,hP,b8⟩:=hcut;have hL8:=HLc.out.next b8;have HM8:=ad (du.next (du.start HLay.out) (HBC.out.trans (b8.mono HBC.out.size)));have hft:∀j,w.heap.size<=j->¬ft j:=fun j hj hf=>by have:=HLay.out.lt _ (HLay.out.cz _ (HLay.out.sub _ hf));omega
   have hwc:w.heap.size<=wc.heap.size:=HBC.out.size;have HP8:=ad hP;obtain⟨d0,d1,d2,d3⟩:=hL8.cells;obtain⟨p0,p1⟩:=hP.cells;have HCR:=xU a d room s.next ((s.es.length:Int)+1) fs ft W.drew (hL8.next (ae _ W).drew).mr (hL8.next (ae _ W).drew).im;rw[hF1]at HCR;have HCR:=ad HCR;have hcc:=aB d0 (aB p0 p1);have hG1:¬ft wc.heap.size:=hft _ hwc;have hG2:¬ft lg:=HLay.out.tl.2;clear hP b8 hL8 hF1 HLA HLA2 c0 c1 c2 c3;go_wp2
   go_region_held3 (fun Z=>Z.cell? ⟨lg,0,none⟩=some (.pointer (some ⟨d,0,none⟩))/\Z.cell? ⟨wc.heap.size,0,none⟩=some (.int .i64 s.next)/\Z.cell? ⟨wc.heap.size,1,none⟩=some (.int .i64 ((s.es.length:Int)+1)))
    (first|exact hcc|exact⟨bd hds.choose_spec.2.2 hG2 hcc.1,bd hds.choose_spec.2.2 hG1 hcc.2.1,bd hds.choose_spec.2.2 hG1 hcc.2.2⟩)
    (first|(go_at_call 207;refine HCR.out.mono ?_;rintro e w' ⟨rfl,hds⟩))
   obtain⟨T2,ft2,hM9,m9,n9⟩:=(HM8.out.next (ae _ W).drew).jr hds;have hP9:=(HP8.out.next (ae _ W).drew).cJ hG1 hds.choose_spec.2.2;have HM9:=ad hM9;have HP9:=ad hP9;clear hds HCR hcc d0 d1 d2 d3 p0 p1 hM9;by_cases he:e1=0
   ·subst he;have HN1:=ad (show(if (al.save room (s.next+1) ((s.parts++[(s.next,(s.es.length:Int)+1)]).map (·.1)) f1).2≠0 then
     (((Dk.delete (af.nameOf s.next) (al.save room (s.next+1) ((s.parts++[(s.next,(s.es.length:Int)+1)]).map (·.1)) f1).1).1,s),0,(al.save room (s.next+1) ((s.parts++[(s.next,(s.es.length:Int)+1)]).map (·.1)) f1).2)
     else (((al.save room (s.next+1) ((s.parts++[(s.next,(s.es.length:Int)+1)]).map (·.1)) f1).1,⟨s.next+1,s.parts++[(s.next,(s.es.length:Int)+1)],s.es⟩),8,0))=((fs',s'),k,c)by
     have:=HN1.out;rw[if_neg (by simp)]at this;rw[List.map_append];exact this)
    have hcells:=aj HM9.out.lay.parts;have hor:=Kq HM9.out.lay.parts;have HCL:=ad (pH (.slice pa s.parts.length pc) s.parts.length (aY s.parts) w'.drew (hcells.next (ae _ w').drew) (lU _) (by omega) hor);have bz:Below w'.heap.size w' (w'.alloc (.cells #[.int .i64 s.next,.int .i64 ((s.es.length:Int)+1)] 264)).drew:=((ae _ w').alloc ab _).drew;have HCL2:=ad (pH (.slice pa s.parts.length pc) s.parts.length (aY s.parts) (w'.alloc (.cells #[.int .i64 s.next,.int .i64 ((s.es.length:Int)+1)] 264)).drew (hcells.next bz) (lU _) (by omega) hor);have hxz:=(mo w' [.int .i64 s.next,.int .i64 ((s.es.length:Int)+1)] 264).next ((ae _ _).drew);obtain⟨d0,d1,d2,d3⟩:=HM9.out.lay.cells;obtain⟨p0,p1⟩:=hP9.cells;have hcc:=aB d2 (aB p0 p1);have HBZ:=ad (aB bz hxz);clear hcells hor bz hxz hP9;go_upto_region 12 with fail;go_cut [8] (fun p8 wx=>∃va8 vc8,p8=.slice va8 (s.parts.length+1) vc8/\wx.ownsRow w'.heap.size 264 2 p8 (s.parts.length+1) (aY s.parts++[.int .i64 s.next,.int .i64 ((s.es.length:Int)+1)])/\Below w'.heap.size w' wx)
    case first =>
     go_region_held3 (fun Z=>Z.cell? ⟨lg,2,none⟩=some (.slice pa s.parts.length pc)/\Z.cell? ⟨wc.heap.size,0,none⟩=some (.int .i64 s.next)/\Z.cell? ⟨wc.heap.size,1,none⟩=some (.int .i64 ((s.es.length:Int)+1)))
      (first|exact hcc|exact⟨cell_kept HFIN.out.2 ab hcc.1,cell_kept HFIN.out.2 ab hcc.2.1,cell_kept HFIN.out.2 ab hcc.2.2⟩|exact⟨cell_kept HBZ.out.1 ab hcc.1,cell_kept HBZ.out.1 ab hcc.2.1,cell_kept HBZ.out.1 ab hcc.2.2⟩|exact⟨cell_kept (HBZ.out.1.trans (hb.mono HBZ.out.1.size)) ab hcc.1,cell_kept (HBZ.out.1.trans (hb.mono HBZ.out.1.size)) ab hcc.2.1,cell_kept (HBZ.out.1.trans (hb.mono HBZ.out.1.size)) ab hcc.2.2⟩|exact⟨cell_kept hb ab hcc.1,cell_kept hb ab hcc.2.1,cell_kept hb ab hcc.2.2⟩|exact⟨cell_kept (hb.alloc hb.size _) ab hcc.1,cell_kept (hb.alloc hb.size _) ab hcc.2.1,cell_kept (hb.alloc hb.size _) ab hcc.2.2⟩)
      (first
       |(go_at_call 208;(first|refine HCL.out.mono ?_|refine HCL2.out.mono ?_);rintro e w2 ⟨v2,rfl,hV,hb⟩)
       | (refine iy rfl _ _ rfl yt w'.heap.size v2 s.parts.length (aY s.parts) rfl (bX (bV hV.out (Nat.le_refl w'.heap.size)) ((ae _ w2).alloc ab _)) _ 1 [.int .i64 s.next, .int .i64 ((s.es.length : Int) + 1)] rfl (mo w2 _ 264) (by simp [Value.oneCell']) (by omega) (Nat.le_trans hb.size (Nat.le_of_lt (by rw [World.size_alloc]; exact Nat.lt_succ_self _))) ?_
          intro v3 wa hown hga hbl;have hfin : Below w'.heap.size w' wa := (((ae _ w').drew.trans hb).alloc hb.size _).grown hga (Nat.le_trans hb.size (Nat.le_of_lt (by rw [World.size_alloc]; exact Nat.lt_succ_self _))) (fun k hk => (hV.out.lt k hk).1);obtain ⟨va3, vc3, rfl⟩ := aJ (aj hown);have HFIN := ad (aB hown hfin);clear hown hga hbl hfin)
       | (refine iy rfl _ _ rfl yt w'.heap.size v2 s.parts.length (aY s.parts) rfl (bV hV.out HBZ.out.1.size) _ 1 [.int .i64 s.next, .int .i64 ((s.es.length : Int) + 1)] rfl (HBZ.out.2.next hb) (by simp [Value.oneCell']) (by omega) (Nat.le_trans HBZ.out.1.size hb.size) ?_
          intro v3 wa hown hga hbl;have hfin : Below w'.heap.size w' wa := (HBZ.out.1.trans (hb.mono HBZ.out.1.size)).grown hga (Nat.le_trans HBZ.out.1.size hb.size) (fun k hk => Nat.le_trans HBZ.out.1.size (hV.out.lt k hk).1);obtain ⟨va3, vc3, rfl⟩ := aJ (aj hown);have HFIN := ad (aB hown hfin);clear hown hga hbl hfin))
     all_goals go_wp2
     all_goals go_meet
     all_goals exact⟨_,_,rfl,HFIN.out.1,HFIN.out.2⟩
    case rest =>
    rename World=>W12
    obtain⟨va8,vc8,rfl,hown,hb12⟩:=hcut;obtain⟨T3,hM12,m12,n12⟩:=HM9.out.more hb12;have hP12:=HP9.out.next hb12;have hnew8:∀b,(Value.slice va8 (s.parts.length+1) vc8).ownBlock=some b->T3 b/\¬ft2 b/\b≠lg:=fun b hb=>n12 b (hown.lt b hb).1 (hown.lt b hb).2;obtain⟨d0,d1,d2,d3⟩:=hM12.lay.cells;obtain⟨p0,p1⟩:=hP12.cells;have HM12:=ad hM12;have HP12:=ad hP12;have HO12:=ad hown;have HN8:=ad hnew8;obtain⟨NP,hNP⟩:∃NP,s.parts++[(s.next,(s.es.length:Int)+1)]=NP:=⟨_,rfl⟩;have hNPl:s.parts.length+1=NP.length:=by rw[<-hNP,List.length_append];rfl
    have hNPc:aY s.parts++[.int .i64 s.next,.int .i64 ((s.es.length:Int)+1)]=aY NP:=by rw[<-hNP,jZ];rfl
    rw[hNP]at HN1;rw[hNPl,hNPc]at HO12;rw[hNPl]at HN8 hown ⊢;rw[hNPc]at hown;obtain⟨⟨f2,e2⟩,hS⟩:∃P,al.save room (s.next+1) (NP.map (·.1)) f1=P:=⟨_,rfl⟩;rw[hS]at HN1;have hNP32:NP.length<=100:=by omega
    have HND:=ad (wU (s.next+1) (.slice va8 NP.length vc8) NP W12.drew (Cells.next (aj hown) (ae _ _).drew) (by omega));have HSV:=ad (fun (V:Value) (w13:World) (hb:Below W12.drew.heap.size W12.drew w13) (hV:Cells w13 V 1 (NP.map (·.1)).length (aE (NP.map (·.1)))) =>
     (show Calls prog 146 #[.pointer (some ⟨d,0,none⟩),.agg #[.int .i64 (s.next+1),V]] w13 fun e w'=>e=.returned (.int .i64 (e2:Nat))/\DStep d room f2 ft2 w13 w' by
      have:=sE a d room (s.next+1) V (NP.map (·.1)) f1 ft2 w13 ((hM12.next (ae _ W12).drew).next hb).lay.mr ((hM12.next (ae _ W12).drew).next hb).lay.im hV (by rw[List.length_map];omega);rw[hS]at this;exact this))
    have HNPL:=ad hNPl;have HNP:=ad hNP;have hw2:IntKind.i64.wrap (s.next+1)=s.next+1:=by rw[IntKind.wrap_i64];omega
    have hcc:=aB d0 d1;have hG2:¬ft2 lg:=hM12.lay.tl.2;have hG3:¬ft2 wc.heap.size:=fun hf=>by
     rcases n9 _ hf with h|h
     ·exact hG1 h
     ·have:=(aA.1 HP8.out).1;have e:W.drew.heap.size=W.heap.size:=rfl;omega
    clear hM12 hP12 hown hnew8 hb12 n12 hNP hNPl hNPc hS hNP32;go_wp2
    go_region_held3 (fun Z=>Z.cell? ⟨lg,0,none⟩=some (.pointer (some ⟨d,0,none⟩))/\Z.cell? ⟨lg,1,none⟩=some (.int .i64 s.next))
     (first|exact hcc|exact⟨cell_kept hb ab hcc.1,cell_kept hb ab hcc.2⟩|exact⟨bd hds.choose_spec.2.2 hG2 (cell_kept hb ab hcc.1),bd hds.choose_spec.2.2 hG2 (cell_kept hb ab hcc.2)⟩)
     (first
      |(go_at_call 147;refine HND.out.mono ?_;rintro e w13 ⟨V,rfl,hV,hb⟩)
      |(go_at_call 146;refine(HSV.out V w13 hb (aj hV.out)).mono ?_;rintro e w14 ⟨rfl,hds⟩))
    have hM13:=(HM12.out.next (ae _ W12).drew).next hb;obtain⟨T4,ft4,hM14,m14,n14⟩:=hM13.jr hds;have b13:Below W12.heap.size W12 w13:=(ae _ W12).drew.trans hb;have hP14:=(HP12.out.next b13).cJ hG3 hds.choose_spec.2.2;have hO14:=dD (bX HO12.out b13) (fun b hb=>(HN8.out b hb).2.1) hds.choose_spec.2.2;have hN14:∀b,(Value.slice va8 NP.length vc8).ownBlock=some b->T4 b/\¬ft4 b/\b≠lg:=fun b hb=>by
     obtain⟨q1,q2,q3⟩:=HN8.out b hb;refine⟨m14 b q1,fun hf=>?_,q3⟩;rcases n14 b hf with h|h
     ·exact q2 h
     ·have h1:=(HO12.out.lt b hb).2;have h2:=b13.size;omega
    obtain⟨d0,d1,d2,d3⟩:=hM14.lay.cells;obtain⟨p0,p1⟩:=hP14.cells;have HM14:=ad hM14;have HP14:=ad hP14;have HO14:=ad hO14;have HN14:=ad hN14;have hsz13:=b13.size;clear hM13 hds hV hb b13 hM14 hP14 hO14 hN14 HND HSV hcc;by_cases he2:e2=0
    ·subst he2;have HN2:=ad (show fs'=f2/\s'=⟨s.next+1,NP,s.es⟩/\k=8/\c=0 by
      have:=HN1.out;rw[if_neg (by simp)]at this;simp only[Prod.mk.injEq]at this;exact⟨this.1.1.symm,this.1.2.symm,this.2.1.symm,this.2.2.symm⟩)
     have fz:=HM14.out.lay.frozen;have f2':=fz 2;have f1':=fz 1;have hl2:=av (i:=2) HM14.out.lay.log (.slice va8 NP.length vc8);have x1:(w14.setCell ⟨lg,2,none⟩ (.slice va8 NP.length vc8)).cell? ⟨lg,1,none⟩=some (.int .i64 s.next):=aq hl2 rfl;have x2:=ay hl2 1;have hl1:=av (i:=1) hl2 (.int .i64 (s.next+1));have hw3:wrap64 (s.next+1)=s.next+1:=by rw[IntWalk.wrap64_in] <;> omega
     have t2:ax (fun j=>j=lg) w14 ((w14.setCell ⟨lg,2,none⟩ (.slice va8 NP.length vc8)).setCell ⟨lg,1,none⟩ (.int .i64 (s.next+1))) :=
      ax.gB (aF (az w14 lg 2 _) (az _ lg 1 _)) (fun b e=>by cases e;rfl)
     have hPUT:=HM14.out.lay.put (s':=⟨s.next+1,NP,s.es⟩) (pv':=.slice va8 NP.length vc8) (ev':=.slice ea ps.length ec) (ps':=ps) (w':=(w14.setCell ⟨lg,2,none⟩ (.slice va8 NP.length vc8)).setCell ⟨lg,1,none⟩ (.int .i64 (s.next+1)))
      (t2.wide (fun j e=>by subst e;exact HM14.out.lay.tl)) hl1
      (bV (dD HO14.out (fun b e e2=>(HN14.out b e).2.2 e2) t2) (by have:=HLc.out.base.below.size;have h2:=HM9.out.lay.base.below.size;exact h2))
      (dD HM14.out.lay.cr (fun b e e2=>(HM14.out.lay.te b e).2.2 e2) t2) HM14.out.lay.plain HM14.out.lay.gu (fun b e=>.inl (HN14.out b e)) (fun b e=>.inl (HM14.out.lay.te b e))
      (fun b e e2=>by
       have q1:=(HO12.out.lt b e).1;have q2:=(HM9.out.lay.cr.lt b e2).2;omega)
     have HPUT:=ad hPUT;clear hPUT hl2 hl1 t2 fz HN1;go_wp2
     go_ret2
     obtain⟨rfl,rfl,rfl,rfl⟩:=HN2.out;obtain⟨T5,q1,q2,q3,q4⟩:=HPUT.out;exact⟨rfl,(HM14.out.of q1 q2 q3 q4).step⟩
    ·have hcb:((e2:Int) != 0)=true:=by rw[bne_iff_ne];omega
     have HN2:=ad (show fs'=(Dk.delete (af.nameOf s.next) f2).1/\s'=s/\k=0/\c=e2 by
      have:=HN1.out;rw[if_pos he2]at this;simp only[Prod.mk.injEq]at this;exact⟨this.1.1.symm,this.1.2.symm,this.2.1.symm,this.2.2.symm⟩)
     have HNM:=ad (fj s.next w14.drew (HM14.out.next (ae _ w14).drew).lay.env);have hnl:=af.gL s.next;obtain⟨nm,hnm⟩:∃nm,af.nameOf s.next=nm:=⟨_,rfl⟩;rw[hnm]at HNM HN2 hnl;have hns:(⟨nm.toArray⟩:ByteArray).size<=14:=by rw[Lib.size_eq];exact hnl
     have hcc:=aB d0 p0;have hG5:¬ft4 lg:=HM14.out.lay.tl.2;have hG6:¬ft4 wc.heap.size:=fun hf=>by
      rcases n14 _ hf with h|h
      ·exact hG3 h
      ·have h1:=(aA.1 HP12.out).1;have h2:=hsz13;omega
     clear HN1 hnm hnl;go_wp2
     go_region_held3 (fun Z=>Z.cell? ⟨lg,0,none⟩=some (.pointer (some ⟨d,0,none⟩))/\Z.cell? ⟨wc.heap.size,0,none⟩=some (.int .i64 s.next))
      (first|exact hcc|exact⟨cell_kept hb ab hcc.1,cell_kept hb ab hcc.2⟩|exact⟨bd hds.choose_spec.2.2 hG5 (cell_kept hb ab hcc.1),bd hds.choose_spec.2.2 hG6 (cell_kept hb ab hcc.2)⟩)
      (first
       |(go_at_call 200;refine HNM.out.mono ?_;rintro e w15 ⟨rfl,hb⟩)
       |(go_at_call 92;refine(dO d room f2 ft4 ⟨nm.toArray⟩ w15 ((HM14.out.next (ae _ w14).drew).next hb).lay.im (by omega)).mono ?_;rintro e w16 ⟨rfl,hds⟩))
     obtain⟨T5,ft5,hM16,_,_⟩:=((HM14.out.next (ae _ w14).drew).next hb).jr hds;have HM16:=ad hM16;clear hds hb hM16;go_wp2
     go_ret2
     obtain⟨rfl,rfl,rfl,rfl⟩:=HN2.out;exact⟨rfl,HM16.out.step⟩
   ·have hcb:((e1:Int) != 0)=true:=by rw[bne_iff_ne];omega
    have HN2:=ad (show fs'=f1/\s'=s/\k=0/\c=e1 by
     have:=HN1.out;rw[if_pos he]at this;simp only[Prod.mk.injEq]at this;exact⟨this.1.1.symm,this.1.2.symm,this.2.1.symm,this.2.2.symm⟩)
    clear HN1;go_wp2
    go_ret2
    obtain⟨rfl,rfl,rfl,rfl⟩:=HN2.out;exact⟨rfl,HM9.out.step⟩
end
end Go.Proofs.YtmgmknmaepjnoaaGreatDoor
