/-
  The walk of log.Open (layer 11), on a disk whose segments go on, and that has nothing to be cleaned.
-/
import Derived.Test.YtmgmknmaepjnoaaGreatDoorLogK
import Derived.Test.YtmgmknmaepjnoaaGreatDoorTab1
namespace Go.Proofs.YtmgmknmaepjnoaaGreatDoor
open Go.RowKit Go.Shelf Proofs.Tryz
section
theorem Lg.Reads.Eb {room:Int}:∀{l:List Int} {s s':Lg.S} {fs fs':List Dk.ai},Lg.Reads room l s fs s' fs'->s.es.length<=s'.es.length/\s'.parts.length=s.parts.length+l.length
 |[],s,s',fs,fs',h=>by obtain⟨rfl,_⟩:=h;exact⟨ab,rfl⟩
 |n::l,s,s',fs,fs',h=>by
  obtain⟨s1,f1,h1,h2⟩:=h;obtain⟨_,_,h3,_⟩:=Lg.nA h1;obtain⟨q1,q2⟩:=Lg.Reads.Eb h2;rw[h3]at q1 q2;simp only[Lg.S.more,List.length_append,List.length_singleton]at q1 q2;exact⟨by omega,by rw[q2,List.length_cons];omega⟩
theorem Lay.fresh {a w w':World} {d lg:Nat} {room next:Int} {fs:List Dk.ai} {ft X:Nat->Prop} (hA:fF a w ft) (h:bw w d room fs ft) (hX:∀j,X j->j<w.heap.size) (hf:∀j,ft j->X j) (hb:Below w.heap.size w w') (hg:w.heap.size<=lg)
 (hlog:w'.heap[lg]?=some (.cells #[.pointer (some ⟨d,0,none⟩),.int .i64 next,.slice none 0 0,.slice none 0 0] 241 (0,0))) :
 Lay a lg d room ⟨next,[],[]⟩ fs (fun j=>ft j\/j=lg) (fun j=>X j\/j=lg) ft (.slice none 0 0) (.slice none 0 0) [] w':=by
 have hlt:=(aA.1 hlog).1;have hs:=hb.size;refine⟨h.next hb,⟨hA.env,Below.up hA.below ab hb,fun j hj=>?_⟩,fun j hj=>?_,fun j hj=>.inl hj,fun j hj=>hj.imp (hf j) id,hlog,World.ownsRow_nil _ _ _ _,World.ownsRow_nil _ _ _ _,rfl,fun p hp=>(by cases hp),⟨.inr rfl,fun h=>?_⟩,fun b hb'=>(by cases hb'),fun b hb'=>(by cases hb'),fun b hb'=>(by cases hb')⟩
 ·rcases hj with hj|hj
  ·exact hA.out j hj
  ·rw[hj];exact Nat.le_trans hA.below.size hg
 ·rcases hj with hj|hj
  ·have:=hX j hj;omega
  ·omega
 ·have:=hX _ (hf _ h);omega
variable {a w w':World} {lg d:Nat} {room:Int} {s s':Lg.S} {fs fs':List Dk.ai} {T X ft T2 ft2:Nat->Prop} {pv ev lv:Value} {ps qs:List bu}
set_option maxHeartbeats 16000000 in
set_option maxRecDepth 100000 in
theorem BJ {next:Int} {ar:List Int} (hA:fF a w ft) (h:bw w d room fs ft) (hX:∀j,X j->j<w.heap.size) (hf:∀j,ft j->X j) (hroom:room<=4194304) (hl:al.load fs=((next,ar),0)) (hn:ar.length<=100)
 (hr:Lg.Reads room ar ⟨next,[],[]⟩ fs s' fs') (hes:s'.es.length<=500000) (hg:∀x∈fs',Lg.yv s'.ar x.name=false/\x.name.length<=1000) :
 Calls prog 96 #[.pointer (some ⟨d,0,none⟩)] w fun e w'=>∃lg T',e=.returned (.tuple #[.pointer (some ⟨lg,0,none⟩),.int .i64 0])/\iX a lg d room s' fs' T' (fun j=>X j\/T' j) w'/\(∀j,T' j->ft j\/w.heap.size<=j)/\ax ft w w'/\w.heap.size<=lg:=by
 have HML:=ad (BD d room next ar fs ft w h hroom hl);have HA:=ad (aB hA (aB h (aB hX hf)));have HR:=ad hr;have HG:=ad hg;have hgr:=hr.Eb.2;have HGR:=ad hgr;clear hA h hX hf hl hr hg hgr;go_enter func96,ntmps96;go_wp2_with fail;refine HML.out.mono ?_;rintro e w1 ⟨v,rfl,hV,b1⟩;obtain⟨va,vc,rfl⟩:=aJ (aj hV.out);obtain⟨W2,hW2⟩:∃W2,W2=w1.alloc (.cells #[.int .i64 next,.slice va ar.length vc] 253):=⟨_,rfl⟩;have bm:Below w1.heap.size w1 W2:=by rw[hW2];exact(ae _ _).alloc ab _
 have hm2:cp w1.heap.size next (.slice va ar.length vc) W2:=by rw[hW2];exact heap_alloc_new w1 _
 obtain⟨W3,hW3⟩:∃W3,W3=W2.alloc (.cells #[.pointer (some ⟨d,0,none⟩),.int .i64 next,.slice none 0 0,.slice none 0 0] 241):=⟨_,rfl⟩;have bl:Below W2.heap.size W2 W3:=by rw[hW3];exact(ae _ _).alloc ab _
 have hlog:W3.heap[W2.heap.size]?=some (.cells #[.pointer (some ⟨d,0,none⟩),.int .i64 next,.slice none 0 0,.slice none 0 0] 241 (0,0)):=by rw[hW3];exact heap_alloc_new W2 _
 have b2:Below w.heap.size w W2:=Below.up b1 ab bm;have b3:Below w.heap.size w W3:=Below.up b2 ab bl;have HM:=ad (du.start (Lay.fresh HA.out.1 HA.out.2.1 HA.out.2.2.1 HA.out.2.2.2 b3 b2.size hlog));have hm3:=hm2.next bl;have HV3:=ad (Cells.next (Cells.next (aj hV.out) bm) bl);have hmw:w.heap.size<=w1.heap.size:=b1.size;have hmlt:w1.heap.size<W2.heap.size:=(aA.1 hm2).1;have HM3:=ad hm3;have HB3:=ad b3;have HW2:=ad hW2;have HW3:=ad hW3;have HW2s:=ad (show W2.heap.size=w1.heap.size+1 by rw[hW2];simp);obtain⟨c0,c1,f0,f1⟩:=hm2.cells;have c1':=hm3.cells.2.1;have HLT:=ad (show ∀b,(Value.slice va ar.length vc).ownBlock=some b->w.heap.size<=b/\b<w1.heap.size from fun b hb=>⟨(hV.out.lt b hb).1,(hV.out.lt b hb).2⟩);clear HML hV b1 bm bl hlog b2 b3 hm2 hm3 hW2 hW3;go_wp2_with fail;rw[<-HW2.out,<-HW3.out,<-HW2s.out]
 go_loopw [31] (fun lv wr=>∃(i:Nat) (s1:Lg.S) (f1:List Dk.ai) (T4 ft4:Nat->Prop) (p4 e4:Value) (q4:List bu),lv=.int .i64 i/\i<=ar.length/\s1.parts.length=i/\Hid (Lg.Reads room (ar.drop i) s1 f1 s' fs')/\Hid (du a W2.heap.size d room (fun j=>ft j\/j=W2.heap.size) (fun j=>X j\/j=W2.heap.size) W3 s1 f1 T4 ft4 p4 e4 q4 wr)) (fun lv _=>ar.length-(intOf lv).toNat)
 case atStart=>exact⟨0,_,fs,_,ft,_,_,[],rfl,by omega,rfl,HR,HM⟩
 case round =>
  obtain⟨i,s1,f1,T4,ft4,p4,e4,q4,rfl,hi,hpi,HRD,HM4⟩:=hrel;have hG:¬(ft w1.heap.size\/w1.heap.size=W2.heap.size):=fun hx=>by
   rcases hx with hx|hx
   ·have:=HA.out.2.2.1 _ (HA.out.2.2.2 _ hx);omega
   ·omega
  by_cases hp:i<ar.length
  ·obtain⟨x,hx⟩:∃x,ar[i]=x:=⟨_,rfl⟩;have hVr:=pI HV3.out (fun b hb hx=>by
    have hlt:=HLT.out b hb;rcases hx with hx|hx
    ·have:=HA.out.2.2.1 _ (HA.out.2.2.2 _ hx);omega
    ·omega) HM4.out.cJ
   obtain⟨b,o,c,hv,k0⟩:=D8 hVr i hp;cases hv;rw[hx]at k0;have hrd:=HRD.out;rw[List.drop_eq_getElem_cons hp,hx]at hrd;obtain⟨s2,f2,hrf,hrd2⟩:=hrd;have hgrow:=hrd2.Eb.1;have hs1:s1.es.length<=s2.es.length:=by
    obtain⟨_,_,h3,_⟩:=Lg.nA hrf;rw[h3];simp only[Lg.S.more,List.length_append];omega
   have hs2p:s2.parts.length=i+1:=by
    obtain⟨_,_,h3,_⟩:=Lg.nA hrf;rw[h3];simp only[Lg.S.more,List.length_append,List.length_singleton];omega
   have HRE:=ad (BI HM4.out.lay hroom (by omega) (by rw[HM4.out.lay.len];omega) hrf);have HRD2:=ad hrd2;have HPI:=ad hs2p;clear hrd2 hrf hgrow hs1 hs2p hx hVr HRD hpi;go_wp2_with fail;refine HRE.out.mono ?_;rintro e w5 ⟨rfl,T5,⟨ft5,p5,e5,q5,hL5⟩,m5,n5,t5⟩;have HM5:=ad (HM4.out.of hL5 m5 n5 t5);clear hL5 m5 n5 t5 HRE HM4;go_wp2;exact⟨⟨i+1,s2,f2,T5,ft5,p5,e5,q5,by go_num,by omega,HPI.out,HRD2,HM5⟩,by simp[intOf];omega⟩
  ·obtain rfl:i=ar.length:=by omega
   have hrd:=HRD.out;rw[List.drop_length]at hrd;obtain⟨rfl,rfl⟩:=hrd;obtain⟨p4a,p4c,rfl⟩:=aJ (aj HM4.out.lay.parts);obtain⟨d0,d1,d2,d3⟩:=HM4.out.lay.cells;rw[hpi]at d2;have cm:=bd HM4.out.cJ hG c1';have HPI:=ad hpi;clear hpi HRD;go_wp2_with fail;go_quiet (fail);have bq:Below wr.heap.size wr (wr.drewN nq):=below_drewN (ae _ wr) nq;have HMq:=ad (HM4.out.next bq);obtain⟨bm,D,g,hrep⟩:=HMq.out.lay.im;have HLS:=ad (Aw (u:=Dk.total fs') (wr.drewN nq) hrep);have d2:=cell_kept bq ab d2;have HSZ:=ad (show fs'.length<=40 from hrep.2.2.2.1);clear hrep bq;go_wp2_with fail;refine HLS.out.mono ?_;rintro e w6 ⟨sa,sc,rfl,hS,b6⟩;have HM6:=ad (HMq.out.next b6);have d2:=cell_kept b6 ab d2;have HS:=ad (show Cells w6 (.slice sa (fs'.map (·.name)).length sc) 1 (fs'.map (·.name)).length (strCells (fs'.map (·.name)))by
    rw[List.length_map];exact aj hS.out)
   have HNL:=ad (show fs'.length=(fs'.map (·.name)).length by rw[List.length_map]);clear hS b6 HLS;go_wp2_with fail
   go_loopw [73] (fun lv wr=>∃i:Nat,lv=.int .i64 i/\i<=fs'.length/\Below w6.heap.size w6 wr) (fun lv _=>fs'.length-(intOf lv).toNat)
   case atStart=>exact⟨0,rfl,by omega,ae _ _⟩
   case round =>
    obtain⟨i,rfl,hi,hbw⟩:=hrel;have d2r:=cell_kept hbw ab d2;have HMr:=ad (HM6.out.next hbw);by_cases hp:i<fs'.length
    ·obtain⟨b,o,c,hv,k0⟩:=tR HS.out i (by rw[<-HNL.out];exact hp);cases hv;have k0:=cell_kept hbw ab k0;rw[List.getElem_map]at k0;obtain⟨x,hx⟩:∃x,fs'[i]=x:=⟨_,rfl⟩;rw[hx]at k0;obtain⟨nm,hnm⟩:∃nm:ByteArray,nm=⟨x.name.toArray⟩:=⟨_,rfl⟩;rw[<-hnm]at k0;obtain⟨hgn,hln⟩:=HG.out x (by rw[<-hx];exact List.getElem_mem _);have hnl:nm.data.toList=x.name:=by rw[hnm]
     rw[<-hnl]at hgn hln;have hns:nm.size<=1000:=by rw[Lib.size_eq];exact hln
     have hne:nm.data.toList≠[116,101,109,112]:=fun e=>by
      rw[e]at hgn;simp[Lg.yv,af.bQ]at hgn
     have hnt:(nm.toList==(⟨#[116,101,109,112]⟩:ByteArray).toList)=false:=by
      rw[Lib.toList_data,Lib.toList_data,beq_eq_false_iff_ne];exact hne
     have hnt2:(nm.toList==[116,101,109,112])=false:=by
      rw[Lib.toList_data,beq_eq_false_iff_ne];exact hne
     have hgo:(decide (0<af.numberOf nm.data.toList)&&!s'.ar.contains (af.numberOf nm.data.toList))=false:=by
      unfold Lg.yv at hgn;rw[Bool.or_eq_false_iff]at hgn;exact hgn.2
     have HNB:=ad (xS nm wr HMr.out.lay.env (by omega));obtain⟨N,hN⟩:∃N,af.numberOf nm.data.toList=N:=⟨_,rfl⟩;rw[hN]at HNB hgo;have HGO:=ad hgo;clear hx hnm hnl hgn hln hgo hN hne;go_wp2_with fail;refine HNB.out.mono ?_;rintro e w7 ⟨rfl,b7⟩;obtain⟨W8,hW8⟩:∃W8,W8=w7.alloc (.cells #[.int .i64 N] 3):=⟨_,rfl⟩;have b8:Below w7.heap.size w7 W8:=by rw[hW8];exact(ae _ _).alloc ab _
     have hbx:W8.cell? ⟨w7.heap.size,0,none⟩=some (.int .i64 N):=by rw[hW8,aw (heap_alloc_new w7 _)];rfl
     have b68:=(Below.up hbw ab b7).trans (b8.mono (by have:=hbw.size;have h2:=b7.size;omega));have d2w:=cell_kept ((ae _ w7).alloc ab (.cells #[.int .i64 N] 3)) ab (cell_kept b7 ab d2r);have hp1:i+1<=fs'.length:=hp;have hi40:i<40:=Nat.lt_of_lt_of_le hp HSZ.out;have hms:fs'.length-(i+1)<fs'.length-i:=by omega
     have HW8:=ad hW8;have HB68:=ad b68;have HM8:=ad (HM6.out.next b68);clear HNB b7 b8 hW8 b68 hbw;by_cases hN0:0<N
     ·have HCT:=uY (.slice p4a s'.parts.length p4c) s'.parts w7.heap.size N W8 (aj HM8.out.lay.parts) (by rw[HPI.out];omega) hbx;have hany:(s'.parts.any fun p=>p.1==N)=true:=by
       have:=HGO.out;rw[decide_eq_true hN0,Bool.true_and,Bool.not_eq_false']at this;rw[List.any_eq_true];have h2:N∈s'.ar:=by simpa using this
       obtain⟨p,hp1,hp2⟩:=List.mem_map.1 h2;exact⟨p,hp1,by rw[hp2];simp⟩
      rw[hany,HPI.out]at HCT;have HCT:=ad HCT;clear hany;go_wp2_with fail;rw[<-HW8.out];refine HCT.out.mono ?_;rintro e w9 ⟨rfl,b9⟩;have hbz:=Below.up HB68.out ab b9;clear b9 HCT;go_wp2;exact⟨⟨i+1,by go_num,hp1,hbz⟩,by simp[intOf];omega⟩
     ·clear HGO;go_wp2;rw[<-HW8.out];go_wp2;exact⟨⟨i+1,by go_num,hp1,HB68.out⟩,by simp[intOf];omega⟩
    ·obtain rfl:i=fs'.length:=by omega
     clear hp;go_wp2
     go_ret2
     refine⟨W2.heap.size,T4,rfl,?_,?_,?_,Nat.le_trans hmw (by omega)⟩
     ·exact iX.wide ⟨_,_,_,_,HMr.out.lay⟩ (fun j hj=>by
       rcases hj with hj|hj
       ·exact .inl (.inl hj)
       ·exact .inr hj) (fun j hj=>.inr hj)
     ·intro j hj;rcases HMr.out.new j hj with h|h
      ·rcases h with h|h
       ·exact .inl h
       ·right;omega
      ·have:=HB3.out.size;right;omega
     ·have ht:=HMr.out.cJ;refine(ax.aI HB3.out).trans ht (fun j hj=>?_);rcases hj with h|h
      ·exact .inl h
      ·right;omega
end
section
variable {a w w':World} {lg d:Nat} {room:Int} {s:Lg.S} {fs:List Dk.ai} {T X ft:Nat->Prop} {pv ev:Value} {ps:List bu}
theorem nZ (p:bu):fy p=.agg #[.int .i64 p.1.pos,.int .i64 p.1.epoch,.string ⟨p.1.b.stream.toArray⟩,.int .i64 p.1.b.expect,.int .i64 p.1.b.br,.int .i64 p.1.b.seq,p.2]:=rfl
set_option maxHeartbeats 2000000 in
theorem Hx (h:Lay a lg d room s fs T X ft pv ev ps w) (hn:ps.length<=1000000) (i:Nat) (hi:i<ps.length):Calls prog 211 #[.pointer (some ⟨lg,0,none⟩),.int .i64 ((i:Int)+1)] w fun e w'=>e=.returned (.tuple #[fy ps[i],.bool true])/\Below w.heap.size w w':=by
 obtain⟨b,o,c,p,ep,S,ex,se,sq,sa,sl,sc,es,hv,q0,q1,q2,q3,q4,q5,q6,_,_,_,_,hpe,hp2⟩:=jI h.pB i hi;subst hv;obtain⟨k0,k1,k2,k3⟩:=h.cells;have HV:=ad (show fy ps[i]=.agg #[.int .i64 p,.int .i64 ep,.string S,.int .i64 ex,.int .i64 se,.int .i64 sq,.slice sa sl sc]by
  rw[nZ,hpe.out,hp2.out])
 have ba:Below w.heap.size w (w.alloc (.cells #[.int .i64 0,.int .i64 0,.string ⟨#[]⟩,.int .i64 0,.int .i64 0,.int .i64 0,.slice none 0 0] 95)):=(ae _ _).alloc ab _;have k3:=cell_kept ba ab k3;have q0:=cell_kept ba ab q0;have q1:=cell_kept ba ab q1;have q2:=cell_kept ba ab q2;have q3:=cell_kept ba ab q3;have q4:=cell_kept ba ab q4;have q5:=cell_kept ba ab q5;have q6:=cell_kept ba ab q6;have hw1:wrap64 ((i:Int)+1-1)=(i:Int):=by rw[IntWalk.wrap64_in] <;> omega
 have hlt:(i:Int)<(ps.length:Int):=by omega
 have hle:¬((i:Int)+1<1):=by omega
 have hgt:¬((ps.length:Int)<(i:Int)+1):=by omega
 have HP:=ad (show(w.alloc (.cells #[.int .i64 p,.int .i64 ep,.string S,.int .i64 ex,.int .i64 se,.int .i64 sq,.slice sa sl sc] 95)).heap[w.heap.size]?=some (.cells #[.int .i64 p,.int .i64 ep,.string S,.int .i64 ex,.int .i64 se,.int .i64 sq,.slice sa sl sc] 95 (0,0))from heap_alloc_new w _);have HB:=ad (show Below w.heap.size w (w.alloc (.cells #[.int .i64 p,.int .i64 ep,.string S,.int .i64 ex,.int .i64 se,.int .i64 sq,.slice sa sl sc] 95))from(ae _ _).alloc ab _);clear h ba hpe hp2 k0 k1 k2;go_enter func211,ntmps211;go_wp2
 (try simp only[Exit.inBlock,Exit.then])
 refine bodyPost_ret (aO rfl _ _ w.heap.size _ _ _ _ rfl HP.out underlying95 rfl ij) rfl ?_;exact⟨by rw[HV.out];rfl,HB.out⟩
set_option maxHeartbeats 2000000 in
theorem FZ (h:Lay a lg d room s fs T X ft pv ev ps w) (q:Int) (hq:q<1\/(ps.length:Int)<q):Calls prog 211 #[.pointer (some ⟨lg,0,none⟩),.int .i64 q] w fun e w'=>e=.returned (.tuple #[.agg #[.int .i64 0,.int .i64 0,.string ⟨#[]⟩,.int .i64 0,.int .i64 0,.int .i64 0,.slice none 0 0],.bool false])/\Below w.heap.size w w':=by
 obtain⟨va,vc,rfl⟩:=aJ (aj h.cr);obtain⟨k0,k1,k2,k3⟩:=h.cells;have ba:Below w.heap.size w (w.alloc (.cells #[.int .i64 0,.int .i64 0,.string ⟨#[]⟩,.int .i64 0,.int .i64 0,.int .i64 0,.slice none 0 0] 95)):=(ae _ _).alloc ab _;have k3:=cell_kept ba ab k3;have HP:=ad (show(w.alloc (.cells #[.int .i64 0,.int .i64 0,.string ⟨#[]⟩,.int .i64 0,.int .i64 0,.int .i64 0,.slice none 0 0] 95)).heap[w.heap.size]?=some (.cells #[.int .i64 0,.int .i64 0,.string ⟨#[]⟩,.int .i64 0,.int .i64 0,.int .i64 0,.slice none 0 0] 95 (0,0))from heap_alloc_new w _);have HB:=ad ba;clear h ba k0 k1 k2;by_cases h1:q<1
 ·clear hq;go_enter func211,ntmps211;go_wp2
  (try simp only[Exit.inBlock,Exit.then])
  refine bodyPost_ret (aO rfl _ _ w.heap.size _ _ _ _ rfl HP.out underlying95 rfl ij) rfl ?_;exact⟨rfl,HB.out⟩
 ·have h2:(ps.length:Int)<q:=by omega
  clear hq;go_enter func211,ntmps211;go_wp2
  (try simp only[Exit.inBlock,Exit.then])
  refine bodyPost_ret (aO rfl _ _ w.heap.size _ _ _ _ rfl HP.out underlying95 rfl ij) rfl ?_;exact⟨rfl,HB.out⟩
def Lg.gK (f:Int) (n:Nat):Int:=min (max f 1) ((n:Int)+1)
def Lg.iA (f m:Int) (n:Nat):Int:=min (max m 0) ((n:Int)+1-Lg.gK f n)
theorem Lg.Bk (f m:Int) (n:Nat):1<=Lg.gK f n/\Lg.gK f n<=n+1/\0<=Lg.iA f m n/\Lg.iA f m n<=n+1-Lg.gK f n:=by unfold Lg.iA Lg.gK;omega
theorem Lg.Bj (i n L:Nat) (h:i+n<=L) (hL:L<=1000000):wrap64 ((L:Int)+1)=(L:Int)+1/\wrap64 ((L:Int)+1-((i:Int)+1))=(L:Int)+1-((i:Int)+1)/\wrap64 (i:Int)=(i:Int)/\wrap64 ((i:Int)+(n:Int))=(i:Int)+(n:Int) :=
 ⟨IntWalk.wrap64_in _ (by omega),IntWalk.wrap64_in _ (by omega),IntWalk.wrap64_in _ (by omega),IntWalk.wrap64_in _ (by omega)⟩
theorem Lg.Fz {α:Type} (l:List α) {i n:Nat} (h:i+n<=l.length):((l.drop i).take n).length=n:=by rw[List.length_take,List.length_drop];omega
theorem Lg.zk (i n L c:Nat) (h:i+n<=L) (hc:L<=c):(i:Int)<=(i:Int)+(n:Int)/\(i:Int)+(n:Int)<=(c:Int)/\i+n<=c/\((i:Int)+(n:Int)).toNat=i+n:=⟨by omega,by omega,by omega,by omega⟩
theorem Gr {w:World} {v:Value} {ps:List bu} (h:dk w v ps) {b o c i m:Nat} (hv:v=.slice (some ⟨b,o,none⟩) ps.length c) (hi:i+m<=ps.length) (o' c':Nat) (ho:o'=o+i*7\/i=ps.length) :
 dk w (.slice (some ⟨b,o',none⟩) m c') ((ps.drop i).take m):=by
 subst hv;have h2:=xo (k:=i) h (by omega) o' (c-i) ho;have hl:(ps.drop i).length=ps.length-i:=List.length_drop;rw[<-hl]at h2;exact nG h2 (by omega) c'
set_option maxHeartbeats 2000000 in
set_option maxRecDepth 100000 in
theorem qY (f m:Int) (h:Lay a lg d room s fs T X ft pv ev ps w) (hn:ps.length<=1000000) :
 Calls prog 89 #[.pointer (some ⟨lg,0,none⟩),.int .i64 f,.int .i64 m] w fun e w'=>∃v,e=.returned v /\
  Hid (w'.ownsRow w.heap.size 95 7 v ((ps.drop (Lg.gK f ps.length-1).toNat).take (Lg.iA f m ps.length).toNat).length (aM ((ps.drop (Lg.gK f ps.length-1).toNat).take (Lg.iA f m ps.length).toNat)))/\Below w.heap.size w w':=by
 obtain⟨va,vc,rfl⟩:=aJ (aj h.cr);obtain⟨k0,k1,k2,k3⟩:=h.cells;obtain⟨r1,r2,r3,r4⟩:=Lg.Bk f m ps.length;have hcap:ps.length<=vc:=by
  rcases h.cr.2 with⟨e,h0⟩|⟨g,cap,cur,e,_,_,h2,_⟩
  ·omega
  ·cases e;exact h2
 obtain⟨i,hi⟩:∃i:Nat,Lg.gK f ps.length=(i:Int)+1:=⟨(Lg.gK f ps.length-1).toNat,by omega⟩;obtain⟨n,hn'⟩:∃n:Nat,Lg.iA f m ps.length=(n:Int):=⟨(Lg.iA f m ps.length).toNat,by omega⟩;rw[hi]at r1 r2 r4;rw[hn']at r3 r4;have HAM:=ad (show min (max f 1) ((ps.length:Int)+1)=(i:Int)+1/\min (max m 0) ((ps.length:Int)+1-((i:Int)+1))=(n:Int)from⟨hi,by rw[<-hi,<-hn'];rfl⟩);rw[hi,hn',show((i:Int)+1-1).toNat=i by omega,Int.toNat_natCast];have hin:i+n<=ps.length:=by omega
 obtain⟨hw1,hw2,hw3,hw4⟩:=Lg.Bj i n ps.length hin hn;have htl:((ps.drop i).take n).length=n:=Lg.Fz ps hin;obtain⟨hb1,hb2,hb3,hb4⟩:=Lg.zk i n ps.length vc hin hcap;have HLay:=ad h;clear hi hn' h r1 r2 r3 r4 k0 k1 k2 hcap;by_cases hn0:n=0
 ·subst hn0;have HC:=ad (mm (.slice va 0 0) 0 [] w ⟨rfl,.inl ⟨rfl,va,0,rfl⟩⟩ (fun u hu=>by cases hu) (by omega) (fun _=>by
   cases va with
   |none=>exact .inl rfl
   |some x =>
    rcases HLay.out.cr.2 with⟨e,_⟩|⟨g,cap,cur,e,_⟩
    ·cases e
    ·cases e;exact .inr ⟨g,0,0,rfl⟩))
  rw[List.take_zero];clear htl hin;have HB:=ad (aB hw3 (aB hw4 (aB hb1 (aB hb2 (aB hb3 hb4)))));clear hw3 hw4 hb1 hb2 hb3 hb4;obtain⟨hA',hM'⟩:=HAM.out;go_enter func89,ntmps89;go_upto_region 3 with fail;obtain⟨hw3,hw4,hb1,hb2,hb3,hb4⟩:=HB.out;clear hA' hM' hw1 hw2;go_wp2_with fail;refine HC.out.mono ?_;rintro e w1 ⟨v',rfl,hO,hb⟩;have HX:=ad (aB hO.out hb);clear hO hb HC;go_wp2;go_ret;exact⟨_,rfl,ad HX.out.1,HX.out.2⟩
 ·have hnp:0<n:=by omega
  obtain⟨b,o,rfl⟩:∃b o,va=some ⟨b,o,none⟩:=by
   rcases (aj HLay.out.cr).2 with⟨h0,_⟩|⟨b,o,c,e,_⟩
   ·omega
   ·cases e;exact⟨_,_,rfl⟩
  have hE:=Gr HLay.out.pB rfl hin (o+i*7) n (.inl rfl);have hC:=hE.1;rw[htl]at hC;have HC:=ad (mm (.slice (some ⟨b,o+i*7,none⟩) n n) n (aM ((ps.drop i).take n)) w hC (od _ (fun p hp=>by
   obtain⟨va,vc,e⟩:=aJ (hE.2 p hp).1;exact⟨_,_,_,e⟩)) (by omega) (fun h0=>absurd h0 (by omega)))
  have HTL:=ad htl;clear hE hC htl hin;have HB:=ad (aB hw3 (aB hw4 (aB hb1 (aB hb2 (aB hb3 hb4)))));clear hw3 hw4 hb1 hb2 hb3 hb4;obtain⟨hA',hM'⟩:=HAM.out;go_enter func89,ntmps89;go_upto_region 3 with fail;obtain⟨hw3,hw4,hb1,hb2,hb3,hb4⟩:=HB.out;clear hA' hM' hw1 hw2;go_wp2_with fail;refine HC.out.mono ?_;rintro e w1 ⟨v',rfl,hO,hb⟩;have HX:=ad (aB hO.out hb);clear hO hb HC;go_wp2;go_ret;exact⟨_,rfl,ad (by rw[HTL.out];exact HX.out.1),HX.out.2⟩
end
section
variable {R:(Nat->Prop)->World->Prop} {a w0 w w':World} {P lg d:Nat} {mv:Value} {room:Int} {s s':Lg.S} {fs fs':List Dk.ai}
end
def we (w:World) (sb x t:Nat) (app:Int):Prop:=w.heap[sb]?=some (.cells #[.pointer (some ⟨x,0,none⟩),.pointer (some ⟨t,0,none⟩),.int .i64 app] 120 (0,0))
structure lu (w:World) (sb x t:Nat) (st:Stat) (ft fx fq:Nat->Prop):Prop where
 box:we w sb x t st.app
 ix:kz w x st.f st.n fx
 tb:eS w t st.S st.m fq
 own:ft sb/\¬fx sb/\¬fq sb
 sx:∀j,fx j->ft j/\¬fq j
 st:∀j,fq j->ft j
 lt:∀j,ft j->j<w.heap.size
def jf (w:World) (sb:Nat) (st:Stat) (ft:Nat->Prop):Prop:=∃x t fx fq,lu w sb x t st ft fx fq
theorem jf.lt {w:World} {sb:Nat} {st:Stat} {ft:Nat->Prop} (h:jf w sb st ft):∀j,ft j->j<w.heap.size:=by
 obtain⟨x,t,fx,fq,h⟩:=h;exact h.lt
theorem lu.kept {w w':World} {sb x t:Nat} {st:Stat} {ft fx fq:Nat->Prop} (h:lu w sb x t st ft fx fq) (hk:∀j,j<w.heap.size->ft j->w'.heap[j]?=w.heap[j]?) (hs:w.heap.size<=w'.heap.size):lu w' sb x t st ft fx fq :=
 ⟨(hk sb (aA.1 h.box).1 h.own.1).trans h.box,h.ix.kept fun j hj hf=>hk j hj (h.sx j hf).1,h.tb.kept fun j hj hf=>hk j hj (h.st j hf),h.own,h.sx,h.st,fun j hj=>Nat.lt_of_lt_of_le (h.lt j hj) hs⟩
theorem jf.other {w w':World} {sb:Nat} {st:Stat} {ft f2:Nat->Prop} (h:jf w sb st ft) (ht:ax f2 w w') (hd:∀j,ft j->¬f2 j):jf w' sb st ft:=by
 obtain⟨x,t,fx,fq,h⟩:=h;exact⟨x,t,fx,fq,h.kept (fun j hj hf=>ht.block j hj (hd j hf)) ht.size⟩
theorem jf.next {w w':World} {sb:Nat} {st:Stat} {ft:Nat->Prop} (h:jf w sb st ft) (hb:Below w.heap.size w w'):jf w' sb st ft :=
 h.other (f2:=fun _=>False) (ax.aI hb) (fun _ _ h=>h)
theorem jf.app {w:World} {sb:Nat} {st:Stat} {ft:Nat->Prop} (h:jf w sb st ft):w.cell? ⟨sb,2,none⟩=some (.int .i64 st.app):=by
 obtain⟨x,t,fx,fq,h⟩:=h;rw[aw h.box];rfl
def l6 (w:World) (r d lg sb:Nat):Prop:=w.heap[r]?=some (.cells #[.pointer (some ⟨d,0,none⟩),.pointer (some ⟨lg,0,none⟩),.pointer (some ⟨sb,0,none⟩)] 179 (0,0))
theorem l6.cells {w:World} {r d lg sb:Nat} (h:l6 w r d lg sb):w.cell? ⟨r,0,none⟩=some (.pointer (some ⟨d,0,none⟩))/\w.cell? ⟨r,1,none⟩=some (.pointer (some ⟨lg,0,none⟩))/\w.cell? ⟨r,2,none⟩=some (.pointer (some ⟨sb,0,none⟩)):=by
 refine⟨?_,?_,?_⟩ <;> (rw[aw h];rfl)
theorem l6.cJ {w w':World} {r d lg sb:Nat} {f:Nat->Prop} (h:l6 w r d lg sb) (hf:¬f r) (ht:ax f w w'):l6 w' r d lg sb:=(ht.block r (aA.1 h).1 hf).trans h
theorem l6.next {w w':World} {r d lg sb:Nat} (h:l6 w r d lg sb) (hb:Below w.heap.size w w'):l6 w' r d lg sb:=h.cJ (f:=fun _=>False) (fun h=>h) (ax.aI hb)
structure iS (a:World) (r lg d sb:Nat) (room:Int) (s:Lg.S) (fs:List Dk.ai) (st:Stat) (TL TS:Nat->Prop) (J:List (Nat×Obj)) (X:Nat->Prop) (w:World):Prop where
 log:iX a lg d room s fs TL X w
 jH:jf w sb st TS
 box:l6 w r d lg sb
 dis:∀j,TL j->¬TS j
 cz:∀j,TS j->X j
 nr:¬X r
 out:∀j,X j->a.heap.size<=j
 ok:st.Ok
 ju:∀p∈J,w.heap[p.1]?=some p.2/\X p.1/\¬TL p.1/\¬TS p.1
def JB (J:List (Nat×Obj)) (j:Nat):Prop:=∃p∈J,p.1=j
def aC (a:World) (R:(Nat->Prop)->(Nat->Prop)->World->Prop):Prop :=
 ∀(T T' X X':Nat->Prop) (w w':World),R T X w->ax T w w'->(∀j,T j->X j)->(∀j,T' j->T j\/w.heap.size<=j)->(∀j,X' j->X j\/w.heap.size<=j)->(∀j,X j->X' j)->(∀j,X' j->j<w'.heap.size)->Below a.heap.size a w'->R T' X' w'
def RR (R:(Nat->Prop)->(Nat->Prop)->World->Prop) (J:List (Nat×Obj)) (a:World) (r lg d sb:Nat) (room:Int) (s:Lg.S) (fs:List Dk.ai) (st:Stat) (w:World):Prop :=
 ∃TL TS X,iS a r lg d sb room s fs st TL TS J X w/\R (fun j=>TL j\/TS j\/JB J j) X w
theorem iX.lk {a w w':World} {lg d:Nat} {room:Int} {s:Lg.S} {fs:List Dk.ai} {T1 T2 X X':Nat->Prop} (h:iX a lg d room s fs T2 X w) (ht:ax T1 w w') (hT:∀j,T1 j->X j) (hd:∀j,T2 j->¬T1 j) (hX:∀j,X' j->X j\/w.heap.size<=j) (hlt:∀j,X' j->j<w'.heap.size) (hs:∀j,X j->X' j) (hb:Below a.heap.size a w') :
 iX a lg d room s fs T2 X' w':=by
 obtain⟨ft,pv,ev,ps,h⟩:=h;have h':=h.other ht ⟨h.base.env,hb,h.base.out⟩ hd hT;exact⟨ft,pv,ev,ps,h'.im,h'.base,hlt,h'.sub,fun j hj=>hs j (h'.cz j hj),h'.log,h'.parts,h'.cr,h'.plain,fun p hp=>⟨(h'.gu p hp).1,(h'.gu p hp).2.1,(h.gu p hp).2.2.step (h.gu p hp).1 hX⟩,h'.tl,h'.tp,h'.te,h'.ne⟩
section
variable {R:(Nat->Prop)->(Nat->Prop)->World->Prop} {a w w':World} {r lg d sb:Nat} {room:Int} {s s':Lg.S} {fs fs':List Dk.ai} {st st':Stat} {TL TS X:Nat->Prop} {J:List (Nat×Obj)}
theorem iS.TX (h:iS a r lg d sb room s fs st TL TS J X w):∀j,(TL j\/TS j\/JB J j)->X j:=fun j hj=>by
 rcases hj with hj|hj|⟨p,hp,rfl⟩
 ·exact h.log.cz j hj
 ·exact h.cz j hj
 ·exact(h.ju p hp).2.1
theorem iS.go {TL' TS' X' T:Nat->Prop} {J':List (Nat×Obj)} (h:iS a r lg d sb room s fs st TL TS J X w) (hR:aC a R) (hw:R (fun j=>TL j\/TS j\/JB J j) X w) (hT:ax T w w') (hTT:∀j,T j->TL j\/TS j\/JB J j)
 (q1:iX a lg d room s' fs' TL' X' w') (q2:jf w' sb st' TS') (nL:∀j,TL' j->TL j\/w.heap.size<=j) (nS:∀j,TS' j->TS j\/w.heap.size<=j) (nLS:∀j,TL' j->¬TS' j) (sS:∀j,TS' j->X' j)
 (nX:∀j,X' j->X j\/w.heap.size<=j) (sX:∀j,X j->X' j) (hok:st'.Ok) (hJ:∀j,JB J' j->JB J j) (hJw:∀p∈J',w'.heap[p.1]?=some p.2):RR R J' a r lg d sb room s' fs' st' w':=by
 have hr:=(aA.1 h.box).1;have hbl:=h.log.below.size;refine⟨TL',TS',X',⟨q1,q2,h.box.cJ (fun e=>h.nr (h.TX r (hTT r e))) hT,nLS,sS,fun e=>?_,fun j hj=>?_,hok,fun p hp=>?_⟩,?_⟩
 ·rcases nX r e with e|e
  ·exact h.nr e
  ·omega
 ·rcases nX j hj with e|e
  ·exact h.out j e
  ·omega
 ·obtain⟨p0,hp0,e0⟩:=hJ p.1 ⟨p,hp,rfl⟩;obtain⟨g1,g2,g3,g4⟩:=h.ju p0 hp0;rw[e0]at g1 g2 g3 g4;have hlt:=(aA.1 g1).1;refine⟨hJw p hp,sX _ g2,fun e=>?_,fun e=>?_⟩
  ·rcases nL _ e with e|e
   ·exact g3 e
   ·omega
  ·rcases nS _ e with e|e
   ·exact g4 e
   ·omega
 ·exact hR _ _ X X' w w' hw (hT.wide hTT) h.TX (fun j hj=>by
   rcases hj with hj|hj|hj
   ·rcases nL j hj with e|e
    ·exact .inl (.inl e)
    ·exact .inr e
   ·rcases nS j hj with e|e
    ·exact .inl (.inr (.inl e))
    ·exact .inr e
   ·exact .inl (.inr (.inr (hJ j hj)))) nX sX q1.lt q1.below
theorem iS.KA {T:Nat->Prop} (h:iS a r lg d sb room s fs st TL TS J X w) (hT:ax T w w') (hd:∀j,T j->TL j\/TS j):∀p∈J,w'.heap[p.1]?=some p.2:=fun p hp=>by
 obtain⟨g1,g2,g3,g4⟩:=h.ju p hp;exact(hT.block p.1 (aA.1 g1).1 (fun e=>(hd _ e).elim g3 g4)).trans g1
theorem iS.zV (h:iS a r lg d sb room s fs st TL TS J X w) (hR:aC a R) (hw:R (fun j=>TL j\/TS j\/JB J j) X w) (hs:dB a lg d room s' fs' TL X w w'):RR R J a r lg d sb room s' fs' st w':=by
 obtain⟨T',q1,q2,q3,q4⟩:=hs;refine h.go hR hw q4 (fun j hj=>.inl hj) q1 (h.jH.other q4 (fun j h1 h2=>h.dis j h2 h1)) q3 (fun j hj=>.inl hj) (fun j h1 h2=>?_) (fun j hj=>.inl (h.cz j hj)) (fun j hj=>?_) (fun j hj=>.inl hj) h.ok (fun j hj=>hj) (h.KA q4 (fun j hj=>.inl hj))
 ·rcases q3 j h1 with e|e
  ·exact h.dis j e h2
  ·have:=h.jH.lt j h2;omega
 ·rcases hj with hj|hj
  ·exact .inl hj
  ·rcases q3 j hj with e|e
   ·exact .inl (h.log.cz j e)
   ·exact .inr e
theorem iS.Ke {TS':Nat->Prop} (h:iS a r lg d sb room s fs st TL TS J X w) (hR:aC a R) (hw:R (fun j=>TL j\/TS j\/JB J j) X w) (q1:jf w' sb st' TS') (q3:∀j,TS' j->TS j\/w.heap.size<=j) (q4:ax TS w w') (hok:st'.Ok):RR R J a r lg d sb room s fs st' w':=by
 have hX:∀j,(X j\/TS' j)->X j\/w.heap.size<=j:=fun j hj=>by
  rcases hj with hj|hj
  ·exact .inl hj
  ·rcases q3 j hj with e|e
   ·exact .inl (h.cz j e)
   ·exact .inr e
 have hb:Below a.heap.size a w':=h.log.below.trans (q4.below (fun j hj=>h.out j (h.cz j hj)) h.log.below.size);have hlt:∀j,(X j\/TS' j)->j<w'.heap.size:=fun j hj=>by
  rcases hj with hj|hj
  ·exact Nat.lt_of_lt_of_le (h.log.lt j hj) q4.size
  ·exact q1.lt j hj
 refine h.go hR hw q4 (fun j hj=>.inr (.inl hj)) (h.log.lk q4 h.cz h.dis hX hlt (fun j hj=>.inl hj) hb) q1 (fun j hj=>.inl hj) q3 (fun j h1 h2=>?_) (fun j hj=>.inr hj) hX (fun j hj=>.inl hj) hok (fun j hj=>hj) (h.KA q4 (fun j hj=>.inr hj));rcases q3 j h2 with e|e
 ·exact h.dis j h1 e
 ·have:=h.log.lt j (h.log.cz j h1);omega
theorem RR.next (h:RR R J a r lg d sb room s fs st w) (hR:aC a R) (hb:Below w.heap.size w w'):RR R J a r lg d sb room s fs st w':=by
 obtain⟨TL,TS,X,h,hw⟩:=h;exact h.go hR hw (T:=fun _=>False) (ax.aI hb) (fun _ hj=>hj.elim) (h.log.next hb) (h.jH.next hb) (fun j hj=>.inl hj) (fun j hj=>.inl hj) h.dis h.cz (fun j hj=>.inl hj) (fun j hj=>hj) h.ok (fun j hj=>hj) (h.KA (T:=fun _=>False) (ax.aI hb) (fun _ hj=>hj.elim))
theorem RR.IW {J':List (Nat×Obj)} (h:RR R J a r lg d sb room s fs st w) (hR:aC a R) (ht:ax (JB J) w w') (hJ:∀j,JB J' j->JB J j) (hJw:∀p∈J',w'.heap[p.1]?=some p.2):RR R J' a r lg d sb room s fs st w':=by
 obtain⟨TL,TS,X,h,hw⟩:=h;have hJX:∀j,JB J j->X j:=fun j hj=>h.TX j (.inr (.inr hj));have hb:Below a.heap.size a w':=h.log.below.trans (ht.below (fun j hj=>h.out j (hJX j hj)) h.log.below.size);exact h.go hR hw ht (fun j hj=>.inr (.inr hj)) (h.log.lk ht hJX (fun j h1 ⟨p,hp,e⟩=>(h.ju p hp).2.2.1 (e▸h1)) (fun j hj=>.inl hj) (fun j hj=>Nat.lt_of_lt_of_le (h.log.lt j hj) ht.size) (fun j hj=>hj) hb) (h.jH.other ht (fun j h1 ⟨p,hp,e⟩=>(h.ju p hp).2.2.2 (e▸h1))) (fun j hj=>.inl hj) (fun j hj=>.inl hj) h.dis h.cz (fun j hj=>.inl hj) (fun j hj=>hj) h.ok hJ hJw
theorem RR.enter {R':(Nat->Prop)->(Nat->Prop)->World->Prop} {J2:List (Nat×Obj)} (h:RR R J a r lg d sb room s fs st w) (hR:aC a R) (hb:Below w.heap.size w w') (hJ:∀p∈J2,w.heap.size<=p.1/\w'.heap[p.1]?=some p.2)
 (hRR:∀T X',(∀j,X' j->a.heap.size<=j/\(j<w.heap.size\/JB J2 j))->R T X' w'->R' T X' w'):RR R' (J++J2) a r lg d sb room s fs st w':=by
 obtain⟨TL,TS,X,h,hw⟩:=h;have hJlt:∀j,JB J2 j->w.heap.size<=j/\j<w'.heap.size:=fun j ⟨p,hp,e⟩=>by
  subst e;exact⟨(hJ p hp).1,(aA.1 (hJ p hp).2).1⟩
 have hX:∀j,(X j\/JB J2 j)->X j\/w.heap.size<=j:=fun j hj=>hj.imp id (fun e=>(hJlt j e).1);have hlt:∀j,(X j\/JB J2 j)->j<w'.heap.size:=fun j hj=>by
  rcases hj with hj|hj
  ·exact Nat.lt_of_lt_of_le (h.log.lt j hj) hb.size
  ·exact(hJlt j hj).2
 have hbb:Below a.heap.size a w':=Below.up h.log.below ab hb;have hr:=(aA.1 h.box).1;have hbl:=h.log.below.size;have hout:∀j,(X j\/JB J2 j)->a.heap.size<=j:=fun j hj=>by
  rcases hj with e|e
  ·exact h.out j e
  ·have:=hJlt j e;omega
 refine⟨TL,TS,fun j=>X j\/JB J2 j,⟨h.log.lk (T1:=fun _=>False) (ax.aI hb) (fun _ hj=>hj.elim) (fun _ _ hj=>hj) hX hlt (fun j hj=>.inl hj) hbb,h.jH.next hb,h.box.next hb,h.dis,fun j hj=>.inl (h.cz j hj),fun e=>?_,hout,h.ok,fun p hp=>?_⟩,
  hRR _ _ (fun j hj=>⟨hout j hj,hj.imp (fun e=>h.log.lt j e) id⟩) (hR _ _ X _ w w' hw (ax.aI hb) h.TX (fun j hj=>?_) hX (fun j hj=>.inl hj) hlt hbb)⟩
 ·rcases e with e|e
  ·exact h.nr e
  ·have:=hJlt r e;omega
 ·rcases aK.1 hp with hp|hp
  ·obtain⟨g1,g2,g3,g4⟩:=h.ju p hp;exact⟨(hb.block p.1 (aA.1 g1).1).trans g1,.inl g2,g3,g4⟩
  ·obtain⟨g1,g2⟩:=hJ p hp;exact⟨g2,.inr ⟨p,hp,rfl⟩,fun x=>by have:=h.log.lt _ (h.log.cz _ x);omega,fun x=>by have:=h.jH.lt _ x;omega⟩
 ·rcases hj with e|e|⟨p,hp,e⟩
  ·exact .inl (.inl e)
  ·exact .inl (.inr (.inl e))
  ·rcases aK.1 hp with hp|hp
   ·exact .inl (.inr (.inr ⟨p,hp,e⟩))
   ·exact .inr (e▸(hJ p hp).1)
theorem RR.oL {R':(Nat->Prop)->(Nat->Prop)->World->Prop} {J':List (Nat×Obj)} (h:RR R J a r lg d sb room s fs st w) (hR:aC a R) (ht:ax (JB J) w w') (hJ:∀p∈J',(JB J p.1\/w.heap.size<=p.1)/\w'.heap[p.1]?=some p.2)
 (hRR:∀T X',(∀j,X' j->a.heap.size<=j/\(j<w.heap.size\/JB J' j))->R T X' w'->R' T X' w'):RR R' J' a r lg d sb room s fs st w':=by
 obtain⟨TL,TS,X,h,hw⟩:=h;have hJX:∀j,JB J j->X j:=fun j hj=>h.TX j (.inr (.inr hj));have hJn:∀j,JB J' j->(JB J j\/w.heap.size<=j)/\j<w'.heap.size:=fun j ⟨p,hp,e⟩=>by
  subst e;exact⟨(hJ p hp).1,(aA.1 (hJ p hp).2).1⟩
 have hX:∀j,(X j\/JB J' j)->X j\/w.heap.size<=j:=fun j hj=>by
  rcases hj with hj|hj
  ·exact .inl hj
  ·rcases (hJn j hj).1 with e|e
   ·exact .inl (hJX j e)
   ·exact .inr e
 have hlt:∀j,(X j\/JB J' j)->j<w'.heap.size:=fun j hj=>by
  rcases hj with hj|hj
  ·exact Nat.lt_of_lt_of_le (h.log.lt j hj) ht.size
  ·exact(hJn j hj).2
 have hbl:=h.log.below.size;have hout:∀j,(X j\/JB J' j)->a.heap.size<=j:=fun j hj=>by
  rcases hX j hj with e|e
  ·exact h.out j e
  ·omega
 have hbb:Below a.heap.size a w':=h.log.below.trans (ht.below (fun j hj=>h.out j (hJX j hj)) h.log.below.size);have hr:=(aA.1 h.box).1;refine⟨TL,TS,fun j=>X j\/JB J' j,⟨h.log.lk ht hJX (fun j h1 ⟨p,hp,e⟩=>(h.ju p hp).2.2.1 (e▸h1)) hX hlt (fun j hj=>.inl hj) hbb,h.jH.other ht (fun j h1 ⟨p,hp,e⟩=>(h.ju p hp).2.2.2 (e▸h1)),h.box.cJ (fun e=>h.nr (hJX r e)) ht,h.dis,fun j hj=>.inl (h.cz j hj),fun e=>?_,hout,h.ok,fun p hp=>?_⟩,
  hRR _ _ (fun j hj=>⟨hout j hj,?_⟩) (hR _ _ X _ w w' hw (ht.wide fun j hj=>.inr (.inr hj)) h.TX (fun j hj=>?_) hX (fun j hj=>.inl hj) hlt hbb)⟩
 ·rcases hX r e with e|e
  ·exact h.nr e
  ·omega
 ·obtain⟨g1,g2⟩:=hJ p hp;refine⟨g2,.inr ⟨p,hp,rfl⟩,fun x=>?_,fun x=>?_⟩
  ·rcases g1 with⟨q,hq,e⟩|e
   ·exact(h.ju q hq).2.2.1 (by rw[e];exact x)
   ·have:=h.log.lt _ (h.log.cz _ x);omega
  ·rcases g1 with⟨q,hq,e⟩|e
   ·exact(h.ju q hq).2.2.2 (by rw[e];exact x)
   ·have:=h.jH.lt _ x;omega
 ·rcases hj with e|e
  ·exact .inl (h.log.lt j e)
  ·exact .inr e
 ·rcases hj with e|e|e
  ·exact .inl (.inl e)
  ·exact .inl (.inr (.inl e))
  ·rcases (hJn j e).1 with e|e
   ·exact .inl (.inr (.inr e))
   ·exact .inr e
theorem iS.next (h:iS a r lg d sb room s fs st TL TS J X w) (hb:Below w.heap.size w w'):iS a r lg d sb room s fs st TL TS J X w' :=
 ⟨h.log.next hb,h.jH.next hb,h.box.next hb,h.dis,h.cz,h.nr,h.out,h.ok,fun p hp=>⟨(hb.block p.1 (aA.1 (h.ju p hp).1).1).trans (h.ju p hp).1,(h.ju p hp).2⟩⟩
theorem RR.bj (h:RR R J a r lg d sb room s fs st w):∀p∈J,w.heap[p.1]?=some p.2:=by
 obtain⟨TL,TS,X,h,hw⟩:=h;exact fun p hp=>(h.ju p hp).1
theorem RR.env (h:RR R J a r lg d sb room s fs st w):Env w:=by obtain⟨TL,TS,X,h,_⟩:=h;exact h.log.env
theorem RR.below (h:RR R J a r lg d sb room s fs st w):Below a.heap.size a w:=by obtain⟨TL,TS,X,h,_⟩:=h;exact h.log.below
theorem RR.box (h:RR R J a r lg d sb room s fs st w):l6 w r d lg sb:=by obtain⟨TL,TS,X,h,_⟩:=h;exact h.box
theorem RR.jH (h:RR R J a r lg d sb room s fs st w):∃ft,jf w sb st ft:=by obtain⟨TL,TS,X,h,_⟩:=h;exact⟨TS,h.jH⟩
theorem RR.ok (h:RR R J a r lg d sb room s fs st w):st.Ok:=by obtain⟨TL,TS,X,h,_⟩:=h;exact h.ok
theorem RR.L0 (h:RR R J a r lg d sb room s fs st w):w.cell? ⟨sb,2,none⟩=some (.int .i64 st.app):=by obtain⟨ft,h⟩:=h.jH;exact h.app
theorem RR.mono {R':(Nat->Prop)->(Nat->Prop)->World->Prop} (h:RR R J a r lg d sb room s fs st w) (hm:∀T X,(∀j,X j->a.heap.size<=j/\j<w.heap.size)->R T X w->R' T X w):RR R' J a r lg d sb room s fs st w:=by
 obtain⟨TL,TS,X,h,hw⟩:=h;exact⟨TL,TS,X,h,hm _ X (fun j hj=>⟨h.out j hj,h.log.lt j hj⟩) hw⟩
end
def cn (R:(Nat->Prop)->(Nat->Prop)->World->Prop) (lv:Value) (qs:List bu):(Nat->Prop)->(Nat->Prop)->World->Prop:=fun T X w=>R T X w/\eP X w lv qs
theorem fi {a:World} {R:(Nat->Prop)->(Nat->Prop)->World->Prop} (hR:aC a R) (lv:Value) (qs:List bu):aC a (cn R lv qs) :=
 fun T T' X X' w w' h ht h1 h2 h3 h4 h5 h6=>⟨hR T T' X X' w w' h.1 ht h1 h2 h3 h4 h5 h6,h.2.step (ht.wide h1) h3⟩
def bG (w:World) (b:Nat) (p ep:Int) (S:ByteArray) (ex se sq:Int) (v:Value):Prop:=w.heap[b]?=some (.cells #[.int .i64 p,.int .i64 ep,.string S,.int .i64 ex,.int .i64 se,.int .i64 sq,v] 95 (0,0))
def rK (w:World) (b:Nat) (S:ByteArray) (ex se sq:Int) (v:Value):Prop:=w.heap[b]?=some (.cells #[.string S,.int .i64 ex,.int .i64 se,.int .i64 sq,v] 38 (0,0))
theorem rK.cells {w:World} {b:Nat} {S:ByteArray} {ex se sq:Int} {v:Value} (h:rK w b S ex se sq v):w.cell? ⟨b,0,none⟩=some (.string S)/\w.cell? ⟨b,1,none⟩=some (.int .i64 ex)/\w.cell? ⟨b,2,none⟩=some (.int .i64 se)/\w.cell? ⟨b,3,none⟩=some (.int .i64 sq)/\w.cell? ⟨b,4,none⟩=some v:=by
 refine⟨?_,?_,?_,?_,?_⟩ <;> (rw[aw h];rfl)
theorem bG.cells {w:World} {b:Nat} {p ep:Int} {S:ByteArray} {ex se sq:Int} {v:Value} (h:bG w b p ep S ex se sq v):w.cell? ⟨b,0,none⟩=some (.int .i64 p)/\w.cell? ⟨b,1,none⟩=some (.int .i64 ep)/\w.cell? ⟨b,2,none⟩=some (.string S)/\w.cell? ⟨b,3,none⟩=some (.int .i64 ex)/\w.cell? ⟨b,4,none⟩=some (.int .i64 se)/\w.cell? ⟨b,5,none⟩=some (.int .i64 sq)/\w.cell? ⟨b,6,none⟩=some v:=by
 refine⟨?_,?_,?_,?_,?_,?_,?_⟩ <;> (rw[aw h];rfl)
theorem bG.frozen {w:World} {b:Nat} {p ep:Int} {S:ByteArray} {ex se sq:Int} {v:Value} (h:bG w b p ep S ex se sq v):∀i,w.frozen? ⟨b,i,none⟩=false:=fun i=>ay h i
theorem bG.next {w w':World} {b:Nat} {p ep:Int} {S:ByteArray} {ex se sq:Int} {v:Value} (h:bG w b p ep S ex se sq v) (hb:Below w.heap.size w w'):bG w' b p ep S ex se sq v:=(hb.block b (aA.1 h).1).trans h
theorem rK.next {w w':World} {b:Nat} {S:ByteArray} {ex se sq:Int} {v:Value} (h:rK w b S ex se sq v) (hb:Below w.heap.size w w'):rK w' b S ex se sq v:=(hb.block b (aA.1 h).1).trans h
def J7:Value:=.agg #[.int .i64 0,.int .i64 0,.string ⟨#[]⟩,.int .i64 0,.int .i64 0,.int .i64 0,.slice none 0 0]
theorem gM:(prog.info? 95).map (·.size)=some 7:=by kernel_rfl
set_option maxHeartbeats 2000000 in
theorem gD {b:Nat} {u0 u1 u2 u3 u4 u5 u6:Value} {w:World} (h:w.heap[b]?=some (.cells #[u0,u1,u2,u3,u4,u5,u6] 95 (0,0))) (v0 v1 v2 v3 v4 v5 v6:Value) :
 (((((((w.setCell ⟨b,0,none⟩ v0).setCell ⟨b,1,none⟩ v1).setCell ⟨b,2,none⟩ v2).setCell ⟨b,3,none⟩ v3).setCell ⟨b,4,none⟩ v4).setCell ⟨b,5,none⟩ v5).setCell ⟨b,6,none⟩ v6).heap[b]?=some (.cells #[v0,v1,v2,v3,v4,v5,v6] 95 (0,0)):=by
 have h0:(w.setCell ⟨b,0,none⟩ v0).heap[b]?=some (.cells #[v0,u1,u2,u3,u4,u5,u6] 95 (0,0)):=av (i:=0) h _;have h1:=av (i:=1) h0 v1;have h1:_=some (Obj.cells #[v0,v1,u2,u3,u4,u5,u6] 95 (0,0)):=h1;have h2:=av (i:=2) h1 v2;have h2:_=some (Obj.cells #[v0,v1,v2,u3,u4,u5,u6] 95 (0,0)):=h2;have h3:=av (i:=3) h2 v3;have h3:_=some (Obj.cells #[v0,v1,v2,v3,u4,u5,u6] 95 (0,0)):=h3;have h4:=av (i:=4) h3 v4;have h4:_=some (Obj.cells #[v0,v1,v2,v3,v4,u5,u6] 95 (0,0)):=h4;have h5:=av (i:=5) h4 v5;have h5:_=some (Obj.cells #[v0,v1,v2,v3,v4,v5,u6] 95 (0,0)):=h5;exact av (i:=6) h5 v6
theorem di {b:Nat} {B:Nat} {w W:World} (h:Below B w W) (hb:B<=b) (hs:B<=w.heap.size) (i:Nat) (v:Value):Below B w (W.setCell ⟨b,i,none⟩ v) :=
 dN h (by have:=h.size;omega) hb (az W b i v)
set_option maxHeartbeats 2000000 in
theorem pq (w:World) (b:Nat) (v0 v1 v2 v3 v4 v5 v6:Value):w.grownBy (((((((w.setCell ⟨b,0,none⟩ v0).setCell ⟨b,1,none⟩ v1).setCell ⟨b,2,none⟩ v2).setCell ⟨b,3,none⟩ v3).setCell ⟨b,4,none⟩ v4).setCell ⟨b,5,none⟩ v5).setCell ⟨b,6,none⟩ v6) (some b) :=
 aF (aF (aF (aF (aF (aF (az w b 0 v0) (az _ b 1 v1)) (az _ b 2 v2)) (az _ b 3 v3)) (az _ b 4 v4)) (az _ b 5 v5)) (az _ b 6 v6)
theorem kQ {b B:Nat} {w W:World} (h:Below B w W) (hb:B<=b) (hs:B<=w.heap.size) (v0 v1 v2 v3 v4 v5 v6:Value) :
 Below B w (((((((W.setCell ⟨b,0,none⟩ v0).setCell ⟨b,1,none⟩ v1).setCell ⟨b,2,none⟩ v2).setCell ⟨b,3,none⟩ v3).setCell ⟨b,4,none⟩ v4).setCell ⟨b,5,none⟩ v5).setCell ⟨b,6,none⟩ v6) :=
 di (di (di (di (di (di (di h hb hs 0 v0) hb hs 1 v1) hb hs 2 v2) hb hs 3 v3) hb hs 4 v4) hb hs 5 v5) hb hs 6 v6
def iJ (p ep:Int) (S:ByteArray) (ex se sq:Int) (v:Value):Obj:=.cells #[.int .i64 p,.int .i64 ep,.string S,.int .i64 ex,.int .i64 se,.int .i64 sq,v] 95 (0,0)
end Go.Proofs.YtmgmknmaepjnoaaGreatDoor
