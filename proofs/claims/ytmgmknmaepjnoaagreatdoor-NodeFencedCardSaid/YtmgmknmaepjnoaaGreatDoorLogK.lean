/-
  The walk of a log's Truncate (layer 11).
-/
import Derived.Test.YtmgmknmaepjnoaaGreatDoorLogW3
namespace Go.Proofs.YtmgmknmaepjnoaaGreatDoor
open Go.RowKit Go.Shelf Proofs.Tryz
section
variable {a w w':World} {lg d:Nat} {room:Int} {s s':Lg.S} {fs fs':List Dk.ai} {T X ft T2 ft2:Nat->Prop} {pv ev lv:Value} {ps qs:List bu}
theorem td {w:World} {base n sz c:Nat} {e:TypeId} {va:Option Addr} {xs:List Value} (h:w.ownsRow base e sz (.slice va n c) n xs):n<=c:=by
 rcases h.2 with⟨h,h0⟩|⟨g,cap,cur,h,_,_,h2,_⟩
 ·omega
 ·cases h;exact h2
theorem Lg.Gw {room last:Int} {s:Lg.S} {fs:List Dk.ai} (h:s.parts.length=0):Lg.mR room last s fs=((fs,⟨s.next,s.parts,s.es.take (min s.es.length last.toNat)⟩),0):=by
 unfold Lg.mR;rw[aP h];rfl
theorem Lg.Gv {room last:Int} {s:Lg.S} {fs:List Dk.ai} {x y:Int} {n:Nat} (hn:s.parts.length=n+1) (h:s.parts[n]?=some (x,y)):Lg.mR room last s fs=if (af.fD room x last fs).2≠0 then (((af.fD room x last fs).1,s),(af.fD room x last fs).2)
 else (((af.fD room x last fs).1,⟨s.next,s.parts,s.es.take (min s.es.length last.toNat)⟩),0):=by
 unfold Lg.mR;rw[List.getLast?_eq_getElem?,hn,Nat.add_sub_cancel,h]
theorem du.CM {T X T2 ft2:Nat->Prop} {a w wx wy:World} {lg d:Nat} {room:Int} {s:Lg.S} {fs:List Dk.ai} {pv ev v':Value} {ps qs:List bu} (h:du a lg d room T X w s fs T2 ft2 pv ev ps wx) (hb:Below wx.heap.size wx wy) (ho:wy.ownsRow wx.heap.size 95 7 v' qs.length (aM qs)) (hq:∀p∈qs,p∈ps) :
 ∃T3 ft3,du a lg d room T X w ⟨s.next,s.parts,ag qs⟩ fs T3 ft3 pv v' qs (wy.setCell ⟨lg,3,none⟩ v'):=by
 have hL:=h.lay;have hlt:=hL.ux;have hlw:wy.heap[lg]?=some (.cells #[.pointer (some ⟨d,0,none⟩),.int .i64 s.next,pv,ev] 241 (0,0)):=au hb ab hL.log;have t2:ax (fun j=>j=lg) wy (wy.setCell ⟨lg,3,none⟩ v'):=ax.gB (az wy lg 3 v') (fun b e=>by cases e;rfl);have hT:ax (fun j=>T2 j/\¬ft2 j) wx (wy.setCell ⟨lg,3,none⟩ v'):=(ax.aI hb).trans (t2.wide (fun j e=>by subst e;exact hL.tl)) (fun j hj=>.inl hj);obtain⟨T3,q1,q2,q3,q4⟩:=hL.put (s':=⟨s.next,s.parts,ag qs⟩) (pv':=pv) (ev':=v') (ps':=qs) (w':=wy.setCell ⟨lg,3,none⟩ v') hT (av (i:=3) hlw v')
  (dD (bX hL.parts hb) (fun b e e2=>(hL.tp b e).2.2 e2) t2)
  (bV (dD ho (fun b e e2=>by have:=(ho.lt b e).1;omega) t2) hL.base.below.size) rfl (fun p hp=>hL.gu p (hq p hp)) (fun b e=>.inl (hL.tp b e)) (fun b e=>.inr (ho.lt b e).1)
  (fun b e e2=>by have h1:=(ho.lt b e2).1;have h2:=(hL.parts.lt b e).2;omega)
 exact⟨T3,_,h.of q1 q2 q3 q4⟩
theorem kI (ps:List bu) (n:Nat):ag (ps.take n)=(ag ps).take n:=by simp[ag,List.map_take]
theorem uS {w:World} {va:Option Addr} {c m:Nat} {q:List bu} (h:dk w (.slice va q.length c) q) (hm:m<=q.length):dk w (.slice va m c) (q.take m):=by
 rcases h.1.2 with⟨h0,_⟩|⟨b,o,c',e,_⟩
 ·have hq:q=[]:=aP h0;have hm0:m=0:=by omega
  subst hq hm0;exact⟨⟨rfl,.inl ⟨rfl,va,c,rfl⟩⟩,fun p hp=>by simp at hp⟩
 ·cases e;exact nG h hm c
theorem Cu {w:World} {base n sz m c:Nat} {e:TypeId} {va:Option Addr} {xs:List Value} (h:w.ownsRow base e sz (.slice va n c) n xs) (hm:m<=n):m=0->Value.slice va m c=.slice none 0 0\/∃b o c',Value.slice va m c=.slice (some ⟨b,o,none⟩) 0 c':=fun h0=>by
 subst h0;rcases h.2 with⟨h,_⟩|⟨g,cap,cur,h,_⟩
 ·cases h;exact .inl rfl
 ·cases h;exact .inr ⟨g,0,c,rfl⟩
theorem rA {w:World} {q:List bu} (h:∀p∈q,dp w p.2 p.1.b.events):∀u∈aM q,u.oneCell'=true:=od q fun p hp=>by
 obtain⟨va,vc,e⟩:=aJ (h p hp);exact⟨_,_,_,e⟩
theorem du.Hk {T X T2 ft2:Nat->Prop} {a w wx wy:World} {lg d:Nat} {room:Int} {s:Lg.S} {fs:List Dk.ai} {pv ev v':Value} {ps:List bu} {ms:List (Int×Int)} (h:du a lg d room T X w s fs T2 ft2 pv ev ps wx) (hb:Below wx.heap.size wx wy) (ho:wy.ownsRow wx.heap.size 264 2 v' ms.length (aY ms)) :
 ∃T3 ft3,du a lg d room T X w ⟨s.next,ms,s.es⟩ fs T3 ft3 v' ev ps (wy.setCell ⟨lg,2,none⟩ v'):=by
 have hL:=h.lay;have hlt:=hL.ux;have hlw:wy.heap[lg]?=some (.cells #[.pointer (some ⟨d,0,none⟩),.int .i64 s.next,pv,ev] 241 (0,0)):=au hb ab hL.log;have t2:ax (fun j=>j=lg) wy (wy.setCell ⟨lg,2,none⟩ v'):=ax.gB (az wy lg 2 v') (fun b e=>by cases e;rfl);have hT:ax (fun j=>T2 j/\¬ft2 j) wx (wy.setCell ⟨lg,2,none⟩ v'):=(ax.aI hb).trans (t2.wide (fun j e=>by subst e;exact hL.tl)) (fun j hj=>.inl hj);obtain⟨T3,q1,q2,q3,q4⟩:=hL.put (s':=⟨s.next,ms,s.es⟩) (pv':=v') (ev':=ev) (ps':=ps) (w':=wy.setCell ⟨lg,2,none⟩ v') hT (av (i:=2) hlw v')
  (bV (dD ho (fun b e e2=>by have:=(ho.lt b e).1;omega) t2) hL.base.below.size)
  (dD (bX hL.cr hb) (fun b e e2=>(hL.te b e).2.2 e2) t2) hL.plain hL.gu (fun b e=>.inr (ho.lt b e).1) (fun b e=>.inl (hL.te b e))
  (fun b e e2=>by have h1:=(ho.lt b e).1;have h2:=(hL.cr.lt b e2).2;omega)
 exact⟨T3,_,h.of q1 q2 q3 q4⟩
theorem pU (ms:List (Int×Int)):(aY ms).length=ms.length*2:=by
 induction ms with
 |nil=>rfl
 |cons m ms ih=>rw[show aY (m::ms)=.int .i64 m.1::.int .i64 m.2::aY ms from rfl];simp only[List.length_cons,ih];omega
theorem oE {w:World} {b o n c K:Nat} {ms:List (Int×Int)} (h:Cells w (.slice (some ⟨b,o,none⟩) n c) 2 n (aY ms)) (hK:K<=ms.length) (c':Nat):Cells w (.slice (some ⟨b,o,none⟩) K c') 2 K (aY (ms.take K)):=by
 refine⟨by rw[pU,List.length_take];omega,.inr ⟨b,o,c',rfl,fun j u hj=>?_⟩⟩;have hl:=h.1;rcases h.2 with⟨h0,_⟩|⟨b1,o1,c1,e,h2⟩
 ·subst h0;rw[pU]at hl;have hm:ms=[]:=aP (by omega);subst hm;simp[aY]at hj
 ·cases e;refine h2 j u ?_;have e2:aY ms=aY (ms.take K)++aY (ms.drop K):=by rw[<-jZ,List.take_append_drop]
  rw[e2,List.getElem?_append_left (List.getElem?_eq_some_iff.1 hj).1];exact hj
theorem Lg.xq:∀(l:List Int) (n:Int) (fs:List Dk.ai),Lg.jJ (l++[n]) fs=(Dk.delete (af.nameOf n) (Lg.jJ l fs)).1
 |[],n,fs=>by rw[List.nil_append,Lg.jJ,Lg.jJ,Lg.jJ,Dk.uV]
 |m::l,n,fs=>by rw[List.cons_append,Lg.jJ,Lg.jJ,Lg.xq l n]
theorem Lg.Ij {last:Int} {ms:List (Int×Int)} {K:Nat} (h:Lg.cW last ms=K) (hK:K<ms.length):last<(ms[K]'hK).2:=by
 apply Classical.byContradiction;intro hn;have e:ms=ms.take K++ms[K]::ms.drop (K+1):=by rw[<-List.drop_eq_getElem_cons hK,List.take_append_drop]
 have hall:∀p∈ms.take K,decide (p.2<=last)=true:=by
  intro p hp;have h2:=List.takeWhile_prefix (fun p:Int×Int=>decide (p.2<=last)) (l:=ms);have h3:ms.takeWhile (fun p=>decide (p.2<=last))=ms.take K:=by
   have:=List.prefix_iff_eq_take.1 h2;rw[this,show(ms.takeWhile fun p=>decide (p.2<=last)).length=K from h]
  rw[<-h3]at hp;exact List.all_eq_true.1 List.all_takeWhile p hp
 have h4:Lg.cW last ms=K+(1+(((ms.drop (K+1)).takeWhile fun p=>decide (p.2<=last)).length)):=by
  unfold Lg.cW;rw[e,List.takeWhile_append_of_pos hall,List.takeWhile_cons,if_pos (by simpa using hn),List.length_append,List.length_cons,List.length_take,<-e];omega
 omega
set_option maxHeartbeats 16000000 in
set_option maxRecDepth 100000 in
theorem zX {c:Nat} {last:Int} (h:Lay a lg d room s fs T X ft pv ev ps w) (hroom:room<=4194304) (hB:Lg.Bounded s) (hl1 : -9223372036854775808<=last) (hl2:last<=9223372036854775807) (hr:Lg.lI room last s fs=((fs',s'),c)) :
 Calls prog 178 #[.pointer (some ⟨lg,0,none⟩),.int .i64 last] w fun e w'=>e=.returned (.int .i64 (c:Int))/\dB a lg d room s' fs' T X w w':=by
 have b0:Below w.heap.size w (w.alloc (.cells #[.int .i64 last] 3)):=(ae _ _).alloc ab _;obtain⟨W,hW⟩:∃W,W=w.alloc (.cells #[.int .i64 last] 3):=⟨_,rfl⟩;have hbx:W.cell? ⟨w.heap.size,0,none⟩=some (.int .i64 last):=by rw[hW,aw (heap_alloc_new w _)];rfl
 have hsz:w.heap.size<W.heap.size:=by rw[hW];simp
 have hTx:¬T w.heap.size:=fun hx=>by have:=h.lt _ (h.cz _ hx);omega
 rw[<-hW]at b0;obtain⟨pa,pc,rfl⟩:=aJ (aj h.parts);obtain⟨ea,ec,rfl⟩:=aJ (aj h.cr);have hL:=h.next b0;have HM:=ad (du.start hL);have HLA:=ad (fun n=>xe (hL.next (below_drewN (ae _ W) n)));have HB:=ad hB;have HB0:=ad b0;have HLay:=ad hL;have HW:=ad hW;have HR:=ad hr;have hes:s.es.length<=500000:=hB.2.1;clear h hL hB b0 hW hr;go_enter func178,ntmps178;by_cases hneg:last<0
 ·have HF:=ad (show fs'=fs/\s'=s/\c=1 by
   have:=HR.out;rw[Lg.lI,if_pos hneg]at this;simp only[Prod.mk.injEq]at this;exact⟨this.1.1.symm,this.1.2.symm,this.2.symm⟩)
  clear HR;go_wp2;rw[<-HW.out];go_wp2;go_ret;obtain⟨rfl,rfl,rfl⟩:=HF.out;exact⟨rfl,dB.under HB0.out HM.out.step⟩
 ·by_cases hge:(s.es.length:Int)<=last
  ·have HF:=ad (show fs'=fs/\s'=s/\c=0 by
    have:=HR.out;rw[Lg.lI,if_neg hneg,if_pos hge]at this;simp only[Prod.mk.injEq]at this;exact⟨this.1.1.symm,this.1.2.symm,this.2.symm⟩)
   clear HR;go_wp2;rw[<-HW.out];go_quiet (first|(go_at_call 87;exact Calls.quiet_of_same (HLA.out _)));go_wp2;go_ret;obtain⟨rfl,rfl,rfl⟩:=HF.out;exact⟨rfl,dB.under HB0.out (HM.out.next (below_drewN (ae _ W) _)).step⟩
  ·go_wp2;rw[<-HW.out];go_quiet (first|(go_at_call 87;exact Calls.quiet_of_same (HLA.out _)));have hLq:=HLay.out.next (below_drewN (ae _ W) nq);have hbq:=cell_kept (below_drewN (ae _ W) nq) ab hbx;have HMq:=ad (HM.out.next (below_drewN (ae _ W) nq));obtain⟨c0,c1,c2,c3⟩:=hLq.cells;have HIX:=ad (yk (.slice pa s.parts.length pc) s.parts w.heap.size last (W.drewN nq) (aj hLq.parts) (by have:=HB.out.1;omega) hbq);have HRT:=ad (show(if Lg.cW last s.parts<s.parts.length then
    if (al.save room s.next ((s.parts.take (Lg.cW last s.parts)).map (·.1)) fs).2≠0 then (((al.save room s.next ((s.parts.take (Lg.cW last s.parts)).map (·.1)) fs).1,s),(al.save room s.next ((s.parts.take (Lg.cW last s.parts)).map (·.1)) fs).2)
    else Lg.mR room last (s.upto (Lg.cW last s.parts)) (Lg.jJ ((s.parts.drop (Lg.cW last s.parts)).map (·.1)) (al.save room s.next ((s.parts.take (Lg.cW last s.parts)).map (·.1)) fs).1)
    else Lg.mR room last s fs)=((fs',s'),c)by
    have:=HR.out;rw[Lg.lI,if_neg (by omega),if_neg (by omega)]at this;exact this)
   clear HR hLq hbq c0 c1 c3;go_wp2_with fail;refine HIX.out.mono ?_;rintro e w1 ⟨r,rfl,hrr,b1⟩;have HM1:=ad (HMq.out.next b1);have hR0 : -1<=r/\r<=1000:=by have:=HB.out.1;omega
   have HRR:=ad hrr;clear HIX b1 HMq hrr c2;go_upto_if 27 with fail;go_cut [] (fun wx=>∃s2 f2 T2 ft2 p2 e2 q2,Hid (Lg.mR room last s2 f2=((fs',s'),c))/\s2.parts.length<=1000/\s2.es.length<=500000/\Hid (du a lg d room T X W s2 f2 T2 ft2 p2 e2 q2 wx))
   case first =>
    by_cases hk:Lg.cW last s.parts<s.parts.length
    ·obtain⟨K,hK⟩:∃K,Lg.cW last s.parts=K:=⟨_,rfl⟩;obtain rfl:r=(K:Int):=by
      rcases HRR.out with h|h
      ·rw[h.2,hK]
      ·omega
     rw[hK]at hk HRT;obtain⟨⟨f2,e2⟩,hS⟩:∃P,al.save room s.next ((s.parts.take K).map (·.1)) fs=P:=⟨_,rfl⟩;have HRT:=ad (HRT.out.symm.trans (if_pos hk));rw[hS]at HRT;simp only at HRT;obtain⟨pb,po,rfl⟩:∃b o,pa=some ⟨b,o,none⟩:=by
      rcases (aj HM1.out.lay.parts).2 with⟨h0,_⟩|⟨b1,o1,c1,e,_⟩
      ·omega
      ·cases e;exact⟨_,_,rfl⟩
     have hcap:=td HM1.out.lay.parts;have htl:(s.parts.take K).length=K:=by rw[List.length_take];omega
     have hct:=oE (aj HM1.out.lay.parts) (show K<=s.parts.length by omega) pc;have hp1000:=HB.out.1;have HND:=ad (wU s.next (.slice (some ⟨pb,po,none⟩) K pc) (s.parts.take K) w1.drew (by rw[htl];exact hct.next (ae _ w1).drew) (by omega));obtain⟨eI,hI⟩:∃z:Int,((e2:Nat):Int)=z:=⟨_,rfl⟩;have HSV:=ad (fun (V:Value) (w13:World) (hb:Below w1.drew.heap.size w1.drew w13) (hV:Cells w13 V 1 ((s.parts.take K).map (·.1)).length (aE ((s.parts.take K).map (·.1)))) =>
      (show Calls prog 146 #[.pointer (some ⟨d,0,none⟩),.agg #[.int .i64 s.next,V]] w13 fun e w'=>e=.returned (.int .i64 eI)/\DStep d room f2 ft w13 w' by
       have:=sE a d room s.next V ((s.parts.take K).map (·.1)) fs ft w13 ((HM1.out.next (ae _ w1).drew).next hb).lay.mr ((HM1.out.next (ae _ w1).drew).next hb).lay.im hV (by rw[List.length_map];omega);rw[hS]at this;simp only[hI]at this;exact this))
     obtain⟨d0,d1,d2,d3⟩:=HM1.out.lay.cells;have hcc:=aB d0 (aB d1 d2);have hG2:¬ft lg:=HM1.out.lay.tl.2;have hKp:K<=pc:=by omega
     have hKp2:¬pc=K:=by omega
     have hKn:K<=s.parts.length:=by omega
     have HKK:=ad hK;have HEI:=ad hI;clear hct htl hS d0 d1 d2 d3 hK HRR hI;go_wp2
     go_region_held3 (fun Z=>Z.cell? ⟨lg,0,none⟩=some (.pointer (some ⟨d,0,none⟩))/\Z.cell? ⟨lg,1,none⟩=some (.int .i64 s.next)/\Z.cell? ⟨lg,2,none⟩=some (.slice (some ⟨pb,po,none⟩) s.parts.length pc))
      (first|exact hcc|exact⟨cell_kept hb ab hcc.1,cell_kept hb ab hcc.2.1,cell_kept hb ab hcc.2.2⟩|exact⟨bd hds.choose_spec.2.2 hG2 (cell_kept hb ab hcc.1),bd hds.choose_spec.2.2 hG2 (cell_kept hb ab hcc.2.1),bd hds.choose_spec.2.2 hG2 (cell_kept hb ab hcc.2.2)⟩)
      (first
       |(go_at_call 147;refine HND.out.mono ?_;rintro e w2 ⟨V,rfl,hV,hb⟩)
       |(go_at_call 146;refine(HSV.out V w2 hb (aj hV.out)).mono ?_;rintro e w3 ⟨rfl,hds⟩))
     obtain⟨T3,ft3,hM3,m3,n3⟩:=((HM1.out.next (ae _ w1).drew).next hb).jr hds;have HM3:=ad hM3;clear hds hV hb HND HSV hcc hM3 m3 n3;by_cases he2:e2=0
     ·obtain rfl:eI=0:=by rw[<-HEI.out,he2];rfl
      have HRT:=ad (HRT.out.trans (if_neg (by simp[he2])));clear hG2;go_wp2
      go_loopw [55] (fun lv wr=>∃(i:Nat) (T4 ft4:Nat->Prop),lv=.int .i64 i/\i<=s.parts.length-K/\Hid (du a lg d room T X W s (Lg.jJ (((s.parts.drop K).take i).map (·.1)) f2) T4 ft4 (.slice (some ⟨pb,po,none⟩) s.parts.length pc) (.slice ea ps.length ec) ps wr)) (fun lv _=>s.parts.length-K-(intOf lv).toNat)
      case atStart=>exact⟨0,T3,ft3,rfl,by omega,by simpa[Lg.jJ]using HM3⟩
      case round =>
       obtain⟨i,T4,ft4,rfl,hi,HM4⟩:=hrel;by_cases hp:i<s.parts.length-K
       ·obtain⟨⟨x,y⟩,hxy⟩:∃x,s.parts[K+i]'(by omega)=x:=⟨_,rfl⟩;obtain⟨b,o,c',hv,z0,z1⟩:=partAt (aj HM4.out.lay.parts) (K+i) (by omega) hxy;cases hv;rw[show po+(K+i)*2=po+K*2+i*2 by omega]at z0 z1;have HD:=ad (show Lg.jJ (((s.parts.drop K).take (i+1)).map (·.1)) f2=(Dk.delete (af.nameOf x) (Lg.jJ (((s.parts.drop K).take i).map (·.1)) f2)).1 by
         rw[List.take_add_one,List.getElem?_drop,aR (by omega),hxy,Option.toList_some,List.map_append,List.map_cons,List.map_nil,Lg.xq])
        obtain⟨F4,hF4⟩:∃F4,Lg.jJ (((s.parts.drop K).take i).map (·.1)) f2=F4:=⟨_,rfl⟩;rw[hF4]at HD HM4;have bp:Below wr.heap.size wr (wr.alloc (.cells #[.int .i64 x,.int .i64 y] 264)):=(ae _ _).alloc ab _;obtain⟨W5,hW5⟩:∃W5,W5=wr.alloc (.cells #[.int .i64 x,.int .i64 y] 264):=⟨_,rfl⟩;rw[<-hW5]at bp;have hP5:jP wr.heap.size x y W5:=by rw[hW5];exact heap_alloc_new wr _
        have HM5:=ad (HM4.out.next bp);obtain⟨d0,d1,d2,d3⟩:=HM5.out.lay.cells;obtain⟨p0,p1⟩:=hP5.cells;have HNM:=ad (fj x W5.drew (HM5.out.next (ae _ W5).drew).lay.env);have hnl:=af.gL x;obtain⟨nm,hnm⟩:∃nm,af.nameOf x=nm:=⟨_,rfl⟩;rw[hnm]at HNM HD hnl;have hns:(⟨nm.toArray⟩:ByteArray).size<=14:=by rw[Lib.size_eq];exact hnl
        have hcc:=aB d0 p0;have hG5:¬ft4 lg:=HM5.out.lay.tl.2;have hG6:¬ft4 wr.heap.size:=HM4.out.LQ ab;have HW5:=ad hW5;have hie:¬i=s.parts.length-K:=by omega
        have hlt:(i:Int)<((s.parts.length-K:Nat):Int):=by omega
        clear hxy hF4 bp hW5 hP5 d0 d1 d2 d3 p0 p1 hnm hnl;go_wp2;rw[<-HW5.out]
        go_region_held3 (fun Z=>Z.cell? ⟨lg,0,none⟩=some (.pointer (some ⟨d,0,none⟩))/\Z.cell? ⟨wr.heap.size,0,none⟩=some (.int .i64 x))
         (first|exact hcc|exact⟨cell_kept hb ab hcc.1,cell_kept hb ab hcc.2⟩|exact⟨bd hds.choose_spec.2.2 hG5 (cell_kept hb ab hcc.1),bd hds.choose_spec.2.2 hG6 (cell_kept hb ab hcc.2)⟩)
         (first
          |(go_at_call 200;refine HNM.out.mono ?_;rintro e w15 ⟨rfl,hb⟩)
          |(go_at_call 92;refine(dO d room F4 ft4 ⟨nm.toArray⟩ w15 ((HM5.out.next (ae _ W5).drew).next hb).lay.im (by omega)).mono ?_;rintro e w16 ⟨rfl,hds⟩))
        obtain⟨T6,ft6,hM6,_,_⟩:=((HM5.out.next (ae _ W5).drew).next hb).jr hds;have HM6:=ad hM6;clear hds hb hM6 HNM;go_wp2;exact⟨⟨i+1,T6,ft6,by go_num,by omega,ad (by rw[HD.out];exact HM6.out)⟩,by simp[intOf];omega⟩
       ·obtain rfl:i=s.parts.length-K:=by omega
        rw[List.take_of_length_le (by rw[List.length_drop];omega)]at HM4;obtain⟨⟨x,y⟩,hxy⟩:∃x,s.parts[K]'(by omega)=x:=⟨_,rfl⟩;obtain⟨b,o,c',hv,z0,z1⟩:=partAt (aj HM4.out.lay.parts) K (by omega) hxy;cases hv;have hy1:=Lg.Ij HKK.out (show K<s.parts.length by omega);rw[hxy]at hy1;simp only at hy1;have hy2:=HB.out.2.2.2.2 (x,y) (by rw[<-hxy];exact List.getElem_mem _);simp only at hy2;obtain⟨m,hm⟩:∃m,min ps.length (y-1).toNat=m:=⟨_,rfl⟩;have hw1:IntKind.i64.wrap (y-1)=y-1:=by rw[IntKind.wrap_i64];omega
        have hmi:min (ps.length:Int) (y-1)=(m:Int):=by omega
        have hml:m<=ps.length:=by omega
        have hcape:=td HM4.out.lay.cr;have hmc:m<=ec:=by omega
        have hql:=HM4.out.lay.len;have HUP:=ad (show(⟨s.next,s.parts.take K,ag (ps.take m)⟩:Lg.S)=s.upto K by
         have hfo:Lg.vJ s.parts K=y:=by unfold Lg.vJ;rw[aR (by omega),hxy]
         unfold Lg.S.upto;rw[kI,HM4.out.lay.plain,hfo,<-hql,hm])
        obtain⟨F4,hF4⟩:∃F4,Lg.jJ ((s.parts.drop K).map (·.1)) f2=F4:=⟨_,rfl⟩;rw[hF4]at HM4 HRT;have hLd:=(HM4.out.next (ae _ wr).drew).lay;have hTk:=uS hLd.pB hml;have hlt:(ps.take m).length=m:=by rw[List.length_take];omega
        have hC:=hTk.1;rw[hlt]at hC;have HCL:=ad (mm (.slice ea m ec) m (aM (ps.take m)) wr.drew hC (rA (fun p hp=>(hTk.2 p hp).1)) (by omega) (Cu hLd.cr hml));have HLT:=ad hlt;have HLOG:=ad hLd.log;obtain⟨d0,d1,d2,d3⟩:=HM4.out.lay.cells;have hgn:(0:Int)<((s.parts.length-K:Nat):Int):=by omega
        have hgn2:0<s.parts.length-K:=by omega
        clear hLd hTk hC hlt hql hm d0 d1 d2 hF4 hxy z0 hy1 hy2 hi hp;go_upto_region 16 with fail;go_cut [] (fun wx=>∃T6 ft6 v6,Hid (du a lg d room T X W ⟨s.next,s.parts,ag (ps.take m)⟩ F4 T6 ft6 (.slice (some ⟨pb,po,none⟩) s.parts.length pc) v6 (ps.take m) wx))
        case first =>
         go_region_law (first
          | (go_simp; go_at_call 139; refine HCL.out.mono ?_; rintro e w5 ⟨v5, rfl, hV, hb⟩
             obtain ⟨va5, vc5, rfl⟩ := aJ (aj hV.out);have hl5 := au hb ab HLOG.out;have c5 : w5.cell? ⟨lg, 3, none⟩ = some (.slice ea ps.length ec) := aq hl5 rfl;have f5 := ay hl5 3;have HP := ad (du.CM (qs := ps.take m) (HM4.out.next (ae _ wr).drew) hb (by rw [HLT.out]; exact hV.out) (fun p hp => List.mem_of_mem_take hp));clear hV hb hl5))
         all_goals go_wp2
         all_goals go_meet
         all_goals (obtain⟨T6,ft6,hM6⟩:=HP.out;exact⟨T6,ft6,_,ad hM6⟩)
        case rest =>
         obtain⟨T6,ft6,v6,HM6⟩:=hcut
         rename World=>W6
         have hct:=oE (aj HM6.out.lay.parts) (show K<=s.parts.length by omega) pc;have HCP:=ad (pH (.slice (some ⟨pb,po,none⟩) K pc) K (aY (s.parts.take K)) W6 hct (lU _) (by omega) (fun h0=>.inr ⟨pb,po,pc,by rw[h0]⟩));obtain⟨d0,d1,d2,d3⟩:=HM6.out.lay.cells;clear hct HCL;go_wp2_with fail;refine HCP.out.mono ?_;rintro e w7 ⟨v7,rfl,hV,hb⟩;obtain⟨va7,vc7,rfl⟩:=aJ (aj hV.out);have hl7:=au hb ab HM6.out.lay.log;have c7:w7.cell? ⟨lg,2,none⟩=some (.slice (some ⟨pb,po,none⟩) s.parts.length pc):=aq hl7 rfl;have f7:=ay hl7 2;have HP:=ad (du.Hk (ms:=s.parts.take K) HM6.out hb (by rw[List.length_take,Nat.min_eq_left (by omega)];exact hV.out));clear hV hb hl7 HCP d0 d1 d2 d3;go_wp2;go_meet
         case rel =>
          obtain⟨T7,ft7,hM7⟩:=HP.out;have hU:=HUP.out;rw[hU]at hM7;refine⟨s.upto K,F4,T7,ft7,_,v6,ps.take m,ad HRT.out.symm,?_,?_,ad hM7⟩
          ·simp only[Lg.S.upto,List.length_take];omega
          ·simp only[Lg.S.upto,List.length_take];omega
     ·have HF:=ad (show fs'=f2/\s'=s/\c=e2 by
       have:=HRT.out;rw[if_pos he2]at this;simp only[Prod.mk.injEq]at this;exact⟨this.1.1,this.1.2,this.2⟩)
      have hcb:(eI != 0)=true:=by rw[bne_iff_ne,<-HEI.out];omega
      clear HRT;go_wp2;go_ret;obtain⟨rfl,rfl,rfl⟩:=HF.out;exact⟨by rw[HEI.out];rfl,dB.under HB0.out HM3.out.step⟩
    ·have HC:=ad (HRT.out.symm.trans (if_neg hk));obtain rfl:r = -1:=by
      rcases HRR.out with h|h
      ·omega
      ·exact h.2
     clear HRT HRR hk;go_wp2;go_meet
     case rel=>exact⟨s,fs,T,ft,_,_,ps,ad HC.out.symm,HB.out.1,hes,HM1⟩
   case rest =>
    obtain⟨s2,f2,T2,ft2,p2,e2,q2,HC,hp1000,he500,HM2⟩:=hcut;obtain⟨p2a,p2c,rfl⟩:=aJ (aj HM2.out.lay.parts);obtain⟨e2a,e2c,rfl⟩:=aJ (aj HM2.out.lay.cr);have hbx2:=bd HM2.out.cJ hTx hbx;obtain⟨d0,d1,d2,d3⟩:=HM2.out.lay.cells;go_upto_if 104 with fail;go_cut [] (fun wx=>∃f3 T3 ft3,Hid (((f3,(⟨s2.next,s2.parts,s2.es.take (min s2.es.length last.toNat)⟩:Lg.S)),0)=((fs',s'),c))/\Hid (du a lg d room T X W s2 f3 T3 ft3 (.slice p2a s2.parts.length p2c) (.slice e2a q2.length e2c) q2 wx))
    case first =>
     by_cases h0:s2.parts.length=0
     ·have HF:=ad ((Lg.Gw h0).symm.trans HC.out);have hz:¬0<s2.parts.length:=by omega
      clear HC d0 d1 d2 d3 hbx2;go_wp2;go_meet
      case rel=>exact⟨f2,T2,ft2,HF,HM2⟩
     ·obtain⟨n,hn⟩:∃n,s2.parts.length=n+1:=⟨s2.parts.length-1,by omega⟩;obtain⟨⟨x,y⟩,hxy⟩:∃x,s2.parts[n]'(by omega)=x:=⟨_,rfl⟩;obtain⟨b,o,c',hv,z0,z1⟩:=partAt (aj HM2.out.lay.parts) n (by omega) hxy;cases hv;obtain⟨⟨f3,c3⟩,hCU⟩:∃P,af.fD room x last f2=P:=⟨_,rfl⟩;have HC:=ad ((Lg.Gv hn (show s2.parts[n]?=some (x,y)by rw[aR (by omega),hxy])).symm.trans HC.out);rw[hCU]at HC;simp only at HC;have hLd:=(HM2.out.next (ae _ _).drew).lay;have HCU:=tX a d room x last f2 ft2 wc.drew hLd.mr hLd.im hroom;rw[hCU]at HCU;have HCU:=ad HCU;have hz:0<s2.parts.length:=by omega
      have hw1:IntKind.i64.wrap ((s2.parts.length:Int)-1)=(n:Int):=by rw[IntKind.wrap_i64];omega
      have hw5:((n:Int)).toNat=n:=by omega
      have hlt:(n:Int)<(s2.parts.length:Int):=by omega
      have hlt2:n<s2.parts.length:=by omega
      have hcc:=aB d0 (aB d2 (aB z0 hbx2));have hG1:¬ft2 lg:=HM2.out.lay.tl.2;have hG2:¬ft2 b:=(HM2.out.lay.tp b rfl).2.1;have hG3:¬ft2 w.heap.size:=fun hf=>by
       rcases HM2.out.new _ (HM2.out.lay.sub _ hf)with h|h
       ·exact hTx h
       ·omega
      clear hLd hCU hn hxy z1 d0 d1 d2 d3 z0 hbx2;go_wp2
      go_region_held3 (fun Z=>Z.cell? ⟨lg,0,none⟩=some (.pointer (some ⟨d,0,none⟩))/\Z.cell? ⟨lg,2,none⟩=some (.slice (some ⟨b,o,none⟩) s2.parts.length p2c)/\Z.cell? ⟨b,o+n*2,none⟩=some (.int .i64 x)/\Z.cell? ⟨w.heap.size,0,none⟩=some (.int .i64 last))
       (first|exact hcc|exact⟨bd hds.choose_spec.2.2 hG1 hcc.1,bd hds.choose_spec.2.2 hG1 hcc.2.1,bd hds.choose_spec.2.2 hG2 hcc.2.2.1,bd hds.choose_spec.2.2 hG3 hcc.2.2.2⟩)
       (first|(go_at_call 194;refine HCU.out.mono ?_;rintro e w4 ⟨rfl,hds⟩))
      obtain⟨T4,ft4,hM4,m4,n4⟩:=(HM2.out.next (ae _ _).drew).jr hds;have HM4:=ad hM4;clear hds hM4 m4 n4 HCU hcc;by_cases hc3:c3=0
      ·subst hc3;have HF:=ad ((if_neg (by simp)).symm.trans HC.out);clear HC;go_wp2;go_meet
       case rel=>exact⟨f3,T4,ft4,HF,HM4⟩
      ·have HF:=ad (show fs'=f3/\s'=s2/\c=c3 by
        have:=HC.out;rw[if_pos hc3]at this;simp only[Prod.mk.injEq]at this;exact⟨this.1.1.symm,this.1.2.symm,this.2.symm⟩)
       have hcb:((c3:Int) != 0)=true:=by rw[bne_iff_ne];omega
       clear HC;go_wp2;go_ret;obtain⟨rfl,rfl,rfl⟩:=HF.out;exact⟨rfl,dB.under HB0.out HM4.out.step⟩
    case rest =>
     obtain⟨f3,T3,ft3,HF,HM3⟩:=hcut;have hbx3:=bd HM3.out.cJ hTx hbx;obtain⟨d0,d1,d2,d3⟩:=HM3.out.lay.cells;obtain⟨m,hm⟩:∃m,min q2.length last.toNat=m:=⟨_,rfl⟩;have hmi:min (q2.length:Int) last=(m:Int):=by omega
     have hml:m<=q2.length:=by omega
     have hcap:=td HM3.out.lay.cr;have hmc:m<=e2c:=by omega
     have hql:=HM3.out.lay.len;have hLd:=(HM3.out.next (ae _ wc).drew).lay;have hTk:=uS hLd.pB hml;have hlt:(q2.take m).length=m:=by rw[List.length_take];omega
     have hC:=hTk.1;rw[hlt]at hC;have HCL:=ad (mm (.slice e2a m e2c) m (aM (q2.take m)) wc.drew hC (rA (fun p hp=>(hTk.2 p hp).1)) (by omega) (Cu hLd.cr hml));have HST:=ad (show(⟨s2.next,s2.parts,ag (q2.take m)⟩:Lg.S)=⟨s2.next,s2.parts,s2.es.take (min s2.es.length last.toNat)⟩by
      rw[kI,HM3.out.lay.plain,<-hql,hm])
     have HFF:=ad (show fs'=f3/\s'=⟨s2.next,s2.parts,ag (q2.take m)⟩/\c=0 by
      have:=HF.out;simp only[Prod.mk.injEq]at this;exact⟨this.1.1.symm,this.1.2.symm.trans HST.out.symm,this.2.symm⟩)
     have HLT:=ad hlt;have HLOG:=ad hLd.log;clear hLd hTk hC hlt hql hm d0 d1 d2;go_wp2
     go_region_law (first
      | (go_simp; go_at_call 139; refine HCL.out.mono ?_; rintro e w5 ⟨v5, rfl, hV, hb⟩
         obtain ⟨va5, vc5, rfl⟩ := aJ (aj hV.out);have hl5 := au hb ab HLOG.out;have c5 : w5.cell? ⟨lg, 3, none⟩ = some (.slice e2a q2.length e2c) := aq hl5 rfl;have f5 := ay hl5 3;have HP := ad (du.CM (qs := q2.take m) (HM3.out.next (ae _ wc).drew) hb (by rw [HLT.out]; exact hV.out) (fun p hp => List.mem_of_mem_take hp));clear hV hb hl5))
     all_goals go_wp2
     all_goals go_ret
     all_goals (obtain⟨T5,ft5,hM5⟩:=HP.out;obtain⟨rfl,rfl,rfl⟩:=HFF.out;exact⟨rfl,dB.under HB0.out hM5.step⟩)
end
end Go.Proofs.YtmgmknmaepjnoaaGreatDoor
