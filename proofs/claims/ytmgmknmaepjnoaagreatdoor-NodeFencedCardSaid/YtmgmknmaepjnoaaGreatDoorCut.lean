/-
  Parts of a row of entries. The walk of disk.Rename. The walk of segment.Cut.
-/
import Derived.Test.YtmgmknmaepjnoaaGreatDoorSegs
namespace Go.Proofs.YtmgmknmaepjnoaaGreatDoor
open Go.RowKit Go.Shelf Proofs.Tryz
theorem lf (a b:List (Evt.Entry×Value)):aM (a++b)=aM a++aM b:=by simp[aM]
theorem nG {w:World} {b o c k:Nat} {ps:List (Evt.Entry×Value)} (h:dk w (.slice (some ⟨b,o,none⟩) ps.length c) ps) (hk:k<=ps.length) (c':Nat):dk w (.slice (some ⟨b,o,none⟩) k c') (ps.take k):=by
 have hl:(ps.take k).length=k:=by rw[List.length_take];omega
 refine⟨⟨by rw[lF],?_⟩,fun p hp=>h.2 p (List.mem_of_mem_take hp)⟩;rw[hl];by_cases h0:k=0
 ·subst h0;exact .inl ⟨rfl,_,_,rfl⟩
 ·refine .inr ⟨b,o,c',rfl,fun j u hj=>?_⟩;rcases h.1.2 with⟨hz,_⟩|⟨b2,o2,c2,hv,hx⟩
  ·omega
  ·cases hv;refine hx j u ?_;have e:aM ps=aM (ps.take k)++aM (ps.drop k):=by rw[<-lf,List.take_append_drop]
   rw[e,List.getElem?_append_left (List.getElem?_eq_some_iff.1 hj).1];exact hj
theorem xo {w:World} {b o c k:Nat} {ps:List (Evt.Entry×Value)} (h:dk w (.slice (some ⟨b,o,none⟩) ps.length c) ps) (hk:k<=ps.length) (o' c':Nat) (ho:o'=o+k*7\/k=ps.length):dk w (.slice (some ⟨b,o',none⟩) (ps.length-k) c') (ps.drop k):=by
 have hl:(ps.drop k).length=ps.length-k:=List.length_drop;refine⟨⟨by rw[lF],?_⟩,fun p hp=>h.2 p (List.mem_of_mem_drop hp)⟩;rw[hl];by_cases h0:ps.length-k=0
 ·rw[h0];exact .inl ⟨rfl,_,_,rfl⟩
 ·obtain rfl:o'=o+k*7:=by
   rcases ho with h|h
   ·exact h
   ·omega
  refine .inr ⟨b,o+k*7,c',rfl,fun j u hj=>?_⟩;rcases h.1.2 with⟨hz,_⟩|⟨b2,o2,c2,hv,hx⟩
  ·omega
  ·cases hv;have e:aM ps=aM (ps.take k)++aM (ps.drop k):=by rw[<-lf,List.take_append_drop]
   have ht:(aM (ps.take k)).length=k*7:=by rw[lF,List.length_take];congr 1;omega
   have:=hx (k*7+j) u (by rw[e,List.getElem?_append_right (by omega),ht,Nat.add_sub_cancel_left];exact hj)
   rwa [<-Nat.add_assoc]at this
theorem nU (ps:List (Evt.Entry×Value)) (k:Nat):ag (ps.take k)=(ag ps).take k:=by simp[ag,List.map_take]
theorem CT.move {w w' wm:World} {d bm:Nat} {room:Int} {fs:List Dk.ai} {ft:Nat->Prop} {D:DataW Unit} {g:List UInt8->Nat} (h:CT w d room fs ft bm D g) (a b:List UInt8) {x:Dk.ai} (hl:Dk.look fs a=some x) (hb:Dk.look fs b=none) (hab:b≠a) {n m:Nat}
 (hmid:wm.ownsMap prog 9 fu bm m (D.del (.string a)))
 (hown:w'.ownsMap prog 9 fu bm n ((D.del (.string a)).put (.string b) (.lit (.int .i64 (g a:Nat)))))
 (hk:∀j,j<w.heap.size->j≠bm->w'.heap[j]?=w.heap[j]?):bw w' d room (Dk.put ⟨b,x.bytes,x.synced⟩ (Dk.del a fs)) ft:=by
 obtain⟨h1,h2,h3,h4,h5,h6,h7,h8,h9,h10,h11⟩:=h;have hlen:=Dk.rY a fs;rw[hl]at hlen;simp only[Option.isSome_some,if_true]at hlen;have hdb:Dk.look (Dk.del a fs) b=none:=by rw[Dk.cP a hab];exact hb
 have hsd:=Dk.sorted_del a fs h5;have hplen:=Dk.gE ⟨b,x.bytes,x.synced⟩ (Dk.del a fs) hsd;rw[hdb]at hplen;simp only[Option.isSome_none,Bool.false_eq_true,if_false]at hplen;have hdt:=Dk.lP a fs;rw[hl]at hdt;simp only at hdt;have hpt:=Dk.kj ⟨b,x.bytes,x.synced⟩ (Dk.del a fs) hsd;rw[hdb]at hpt;simp only at hpt;have htot:Dk.total (Dk.put ⟨b,x.bytes,x.synced⟩ (Dk.del a fs))=Dk.total fs:=by omega
 have htidy:=h2.tidy dP;have hsz:=Maps.size_del (k:=.string a) htidy;rw[(h10 _ x hl).1,h3]at hsz;simp only[if_true]at hsz;have hmt:=hmid.tidy dP;have hmm:=hmid.isMap;have hkl:WideAt.IsKeyLit (.string b):=trivial;have hbn:Maps.has (D.del (.string a)) (.string b)=false:=by rw[Maps.has_del_other (by simpa using hab)];exact h9 b hb
 have hsp:Maps.size ((D.del (.string a)).put (.string b) (.lit (.int .i64 (g a:Nat))))=fs.length:=by
  rw[Maps.size_put hmt,hbn];simp only[Bool.false_eq_true,if_false];omega
 have hown':w'.ownsMap prog 9 fu bm (Dk.put ⟨b,x.bytes,x.synced⟩ (Dk.del a fs)).length ((D.del (.string a)).put (.string b) (.lit (.int .i64 (g a:Nat)))):=by
  obtain⟨es,clock,hb,F,hs,hD⟩:=hown;refine⟨es,clock,hb,F,?_,hD⟩;have:Maps.size ((D.del (.string a)).put (.string b) (.lit (.int .i64 (g a:Nat))))=es.size:=by rw[hD,Maps.size_eq];exact length_read es
  omega
 have hne:d≠bm:=by
  rintro e;obtain⟨es,clock,hb,_⟩:=h2;rw[<-e,h1]at hb;cases hb
 have glt:∀k x,Dk.look fs k=some x->eh (g k) x.bytes x.synced w':=fun k x hx=>by
  have c:=(h10 k x hx).2.2.1;refine(hk _ (aA.1 c).1 ?_).trans c;rintro e2;obtain⟨es,clock,hb,_⟩:=h2;rw[eh,e2,hb]at c;cases c
 refine⟨bm,_,fun k=>if k=b then g a else g k,?_,hown',by omega,by omega,Dk.sorted_put _ _ hsd,⟨h6.1,h6.2.1,by omega⟩,h7,h8,?_,?_,?_⟩
 ·rw[htot];exact(hk d (aA.1 h1).1 hne).trans h1
 ·intro k hk';by_cases e:k=b
  ·subst e;have:=Dk.a8 ⟨k,x.bytes,x.synced⟩ (Dk.del a fs);rw[hk']at this;cases this
  ·rw[Dk.aG ⟨b,x.bytes,x.synced⟩ e]at hk';rw[Maps.has_put_other (by simpa using e)];by_cases e2:k=a
   ·subst e2;exact Maps.has_del_same
   ·rw[Dk.cP a e2]at hk';rw[Maps.has_del_other (by simpa using e2)];exact h9 k hk'
 ·intro k z hz;by_cases e:k=b
  ·subst e;have:=Dk.a8 ⟨k,x.bytes,x.synced⟩ (Dk.del a fs);simp only at this;rw[this]at hz;cases hz;simp only[if_true];exact⟨Maps.has_put_same hmm hkl _,fun z=>Maps.atKey_put_same hmm hkl _ z,glt a x hl,(h10 a x hl).2.2.2.1,(h10 a x hl).2.2.2.2⟩
  ·rw[Dk.aG ⟨b,x.bytes,x.synced⟩ e]at hz;have e2:k≠a:=by rintro rfl;rw[Dk.eT _ fs h5]at hz;cases hz
   rw[Dk.cP a e2]at hz;obtain⟨p,q,c,f,r⟩:=h10 k z hz;simp only[if_neg e];refine⟨by rw[Maps.has_put_other (by simpa using e),Maps.has_del_other (by simpa using e2)];exact p,fun z=>by rw[Maps.atKey_put_other (by simpa using e),Maps.atKey_del_other (by simpa using e2)];exact q z,glt k z hz,f,r⟩
 ·have q:∀k z,Dk.look (Dk.put ⟨b,x.bytes,x.synced⟩ (Dk.del a fs)) k=some z->k=b\/(k≠b/\k≠a/\∃u,Dk.look fs k=some u):=fun k z hz=>by
   by_cases e:k=b
   ·exact .inl e
   ·rw[Dk.aG ⟨b,x.bytes,x.synced⟩ e]at hz;have e2:k≠a:=by rintro rfl;rw[Dk.eT _ fs h5]at hz;cases hz
    rw[Dk.cP a e2]at hz;exact .inr ⟨e,e2,z,hz⟩
  intro k k' z z' hz hz' hg;simp only at hg;rcases q k z hz with e|⟨e,e2,u,hu⟩ <;> rcases q k' z' hz' with e'|⟨e',e2',u',hu'⟩
  ·rw[e,e']
  ·rw[if_pos e,if_neg e']at hg;exact absurd (h11 _ _ _ _ hl hu' hg).symm e2'
  ·rw[if_neg e,if_pos e']at hg;exact absurd (h11 _ _ _ _ hu hl hg) e2
  ·rw[if_neg e,if_neg e']at hg;exact h11 _ _ _ _ hu hu' hg
set_option maxHeartbeats 2000000 in
set_option maxRecDepth 100000 in
theorem iC (d:Nat) (room:Int) (fs:List Dk.ai) (ft:Nat->Prop) (na nb:ByteArray) (w:World) (hE:Env w) (h:bw w d room fs ft) (hn:na.size<=1000000000) (hn2:nb.size<=1000000000) :
 Calls prog 95 #[.pointer (some ⟨d,0,none⟩),.string na,.string nb] w fun e w'=>e=.returned (.int .i64 ((Dk.rename na.data.toList nb.data.toList fs).2:Nat))/\DStep d room (Dk.rename na.data.toList nb.data.toList fs).1 ft w w':=by
 have hID:=ad h;obtain⟨bm,D,g,h⟩:=h;have HR:=ad (show CT w d room fs ft bm D g from h);obtain⟨h1,h2,h3,h4,h5,h6,h7,h8,h9,h10,h11⟩:=h;obtain⟨v,ps,hrun,hR⟩:=mN h2 na (by omega);have d2:w.cell? ⟨d,2,none⟩=some (.map (some bm)):=aq h1 rfl;have hlv:=tr hR h9 (fun k x hx=>(h10 k x hx).2.1);have H10:=ad h10;clear hR h1 h2 h3 h4 h5 h6 h9 h10 h11;rcases hlv with⟨hl,rfl⟩|⟨x,hl,rfl⟩
 ·have HQ:=ad (show Dk.rename na.data.toList nb.data.toList fs=(fs,6)by rw[Dk.rename,hl]);clear hl;go_enter func95,ntmps95;go_wp2;go_ret;rw[HQ.out];exact⟨rfl,DStep.refl hID.out⟩
 ·have HL:=ad hl;obtain⟨gb,hgb⟩:∃gb,g na.data.toList=gb:=⟨_,rfl⟩;rw[hgb]at hrun;have HGB:=ad hgb;have HNM:=ad (mL nb w hE (by omega));clear hgb hl;go_enter func95,ntmps95;go_wp2_with fail;refine HNM.out.mono ?_;rintro e w1 ⟨rfl,b1⟩;have HB1:=ad b1;have HQ:=ad (show Dk.rename na.data.toList nb.data.toList fs=if Txt.name nb.data.toList=false then (fs,1) else if na.data.toList=nb.data.toList then (fs,0) else (Dk.put ⟨nb.data.toList,x.bytes,x.synced⟩ (Dk.del na.data.toList (Dk.del nb.data.toList fs)),0)by rw[Dk.rename,HL.out]);clear HNM hrun d2 b1;cases hnm:Txt.name nb.data.toList with
  |false =>
   have HQ:=ad (HQ.out.trans (if_pos hnm));clear hnm;go_wp2;go_ret;rw[HQ.out];exact⟨rfl,DStep.aI hID.out HB1.out⟩
  |true =>
   have HQ:=ad (HQ.out.trans (if_neg (by rw[hnm];simp)));clear hnm;by_cases hab:na.data.toList=nb.data.toList
   ·have HQ:=ad (HQ.out.trans (if_pos hab));have hab':na=nb:=by
     apply ByteArray.ext;exact Array.toList_inj.1 hab
    subst hab';clear hab;go_wp2;go_ret;rw[HQ.out];exact⟨rfl,DStep.aI hID.out HB1.out⟩
   ·have HQ:=ad (HQ.out.trans (if_neg hab));have hne:(na.toList==nb.toList)=false:=by rw[Lib.toList_data,Lib.toList_data,beq_eq_false_iff_ne];exact hab
    have HAB:=ad hab;have HDL:=ad (oD d room fs ft bm D g nb w1 (by
     obtain⟨k1,k2,k3,k4,k5,k6,k7,k8,k9,k10,k11⟩:=HR.out;exact⟨au HB1.out ab k1,ownsMap_at k2 (HB1.out.block bm k2.lt),k3,k4,k5,k6,k7,k8,k9,fun k x hx=>by
      obtain⟨a,b,c,e,f⟩:=k10 k x hx;exact⟨a,b,au HB1.out ab c,e,f⟩,k11⟩) hn2)
    clear hab HR;go_wp2_with fail;refine HDL.out.mono ?_;rintro e w2 ⟨rfl,⟨D',hrep⟩,ht2⟩;have hfs:(Dk.delete nb.data.toList fs).1=Dk.del nb.data.toList fs:=by
     unfold Dk.delete;cases hlb:Dk.look fs nb.data.toList with
     |none=>exact(Dk.pG _ _ hlb).symm
     |some y=>rfl
    rw[hfs]at hrep;have HREP:=ad hrep;obtain⟨k1,k2,k3,k4,k5,k6,k7,k8,k9,k10,k11⟩:=hrep;have e2:w2.cell? ⟨d,2,none⟩=some (.map (some bm)):=aq k1 rfl;have HT2:=ad ht2;obtain⟨L,hL⟩:∃L,(Dk.del nb.data.toList fs).length=L:=⟨_,rfl⟩;rw[hL]at k2 k3 k4;have HE2:=ad e2;clear HDL ht2 k1 k3 k5 k6 k9 k10 k11 hfs;go_wp2_with (at_delete;refine wpList_delete_own _ rfl _ _ 127 9 rfl 249 dP underlying127 fu bm L D' rfl k2 (.string na) (.string na.data.toList) rfl (WideMaps.keyOf_string_mk underlying9 (by unfold maxLen;omega)) ?_);intro w3 hown3 ht3;have g3:=ht3.grown;have hbd:bm≠d:=by
     rintro e;obtain⟨es,clock,hb,_⟩:=k2;have:=HREP.out.1;rw[<-e,hb]at this;cases this
    have hk1:=(g3.block d (by have:=HREP.out.1;exact(aA.1 this).1) (by simpa using hbd.symm)).trans HREP.out.1;have e3:w3.cell? ⟨d,2,none⟩=some (.map (some bm)):=aq hk1 rfl;have HG3:=ad g3;have HO3:=ad hown3;clear e2 k2 ht3 g3 hk1;go_wp2_with (at_mapUpdate;refine wpList_mapUpdate_own _ rfl _ _ _ 127 rfl 9 249 dP underlying127 fu bm L _ rfl hown3 (by unfold maxLen;omega) _ _ (.string nb.data.toList) rfl rfl (WideMaps.keyOf_string_mk underlying9 (by unfold maxLen;omega)) (.lit (.int .i64 (gb:Nat))) [] rfl ?_);intro w4 hown4 hg4;have hlx:Dk.look (Dk.del nb.data.toList fs) na.data.toList=some x:=by rw[Dk.cP _ HAB.out];exact HL.out
    have hlb:Dk.look (Dk.del nb.data.toList fs) nb.data.toList=none:=Dk.eT _ fs (by
     obtain⟨_,_,_,_,_,_,_,h5,_⟩:=hID.out;exact h5)
    have HF:=ad (HREP.out.move (w':=w4) na.data.toList nb.data.toList hlx hlb (fun e=>HAB.out e.symm) HO3.out (by rw[HGB.out];exact hown4)
     (fun j hj h1=>by rw[hg4.block j (by have:=HG3.out.size;omega) (by simpa using h1),HG3.out.block j hj (by simpa using h1)]))
    have HT:=ad ((((ax.aI HB1.out:ax ft w w1).trans HT2.out (fun j hj=>.inl hj)).trans (ax.cq (ft:=ft) HG3.out h8) (fun j hj=>.inl hj)).trans (ax.cq (ft:=ft) hg4 h8) (fun j hj=>.inl hj));clear hown4 hg4 hown3 HO3 HG3 HREP HT2;go_wp2;go_ret;rw[HQ.out];exact⟨rfl,ft,HF.out,fun j hj=>.inl hj,HT.out⟩
theorem Ik {last:Int} {ps:List bu} {i:Nat} (hp:i<ps.length) {e:Evt.Entry} (he:ps[i].1=e) (h:e.pos<=last) (hk:af.ie last (ag ps)=i+af.ie last (ag (ps.drop i))) :
 af.ie last (ag ps)=(i+1)+af.ie last (ag (ps.drop (i+1))):=by
 rw[hk,List.drop_eq_getElem_cons hp];simp only[ag,List.map_cons,he,af.ie];rw[List.takeWhile_cons,if_pos (by simpa using h),List.length_cons];omega
theorem D7 {last:Int} {ps:List bu} {i:Nat} (hp:i<ps.length) {e:Evt.Entry} (he:ps[i].1=e) (h:¬e.pos<=last) (hk:af.ie last (ag ps)=i+af.ie last (ag (ps.drop i))) :
 af.ie last (ag ps)=i:=by
 rw[hk,List.drop_eq_getElem_cons hp];simp only[ag,List.map_cons,he,af.ie];rw[List.takeWhile_cons,if_neg (by simpa using h)];rfl
theorem Ga {last:Int} {ps:List bu} (hk:af.ie last (ag ps)=ps.length+af.ie last (ag (ps.drop ps.length))):af.ie last (ag ps)=ps.length:=by
 rw[hk,List.drop_length];rfl
set_option maxHeartbeats 8000000 in
set_option maxRecDepth 100000 in
theorem tX (a:World) (d:Nat) (room n last:Int) (fs:List Dk.ai) (ft:Nat->Prop) (w:World) (hA:fF a w ft) (h:bw w d room fs ft) (hroom:room<=4194304) :
 Calls prog 194 #[.pointer (some ⟨d,0,none⟩),.int .i64 n,.int .i64 last] w fun e w'=>e=.returned (.int .i64 ((af.fD room n last fs).2:Nat))/\DStep d room (af.fD room n last fs).1 ft w w':=by
 have hrr:=kg h hroom (af.nameOf n);have hle:=pj n fs hrr;have hnl:=af.gL n;have HL:=ad (nK a d room n fs ft w hA h hroom);have HA:=ad hA;have HD:=ad h;clear hA h hrr;go_enter func194,ntmps194;go_wp2_with fail;refine HL.out.mono ?_;rintro e w1 ⟨first,v,ps,cH,c,rfl,hLD,hNE,b1⟩;rw[hLD.out]at hle;simp only at hle;have hpl:ps.length<=480000:=by have:=hle.2.2;simpa[ag]using this
 by_cases hc0:c=0
 ·subst hc0;have HCD:=ad (show af.fD room n last fs=af.Et room n ⟨first,ag ps,cH⟩ (af.ie last (ag ps)) fs by rw[af.fD,hLD.out,if_pos rfl]);obtain⟨va,vc,rfl,hcap⟩:∃va vc,v=.slice va ps.length vc/\((va=none/\vc=0/\ps.length=0)\/∃g,va=some ⟨g,0,none⟩/\ps.length<=vc):=by
   rcases hNE.out.1.2 with⟨rfl,h0⟩|⟨g,cap,cur,rfl,_,_,h1,_⟩
   ·exact⟨none,0,by rw[h0],.inl ⟨rfl,rfl,h0⟩⟩
   ·exact⟨_,_,rfl,.inr ⟨g,rfl,h1⟩⟩
  have sb:SB w1.heap.size first (.slice va ps.length vc) cH (w1.alloc (.cells #[.int .i64 first,.slice va ps.length vc,.bool cH] 312)):=heap_alloc_new w1 _
  obtain⟨W,hW⟩:∃W,W=w1.alloc (.cells #[.int .i64 first,.slice va ps.length vc,.bool cH] 312):=⟨_,rfl⟩;have hb2:Below w.heap.size w W:=by rw[hW];exact b1.alloc b1.size _
  have hEn:dk W (.slice va ps.length vc) ps:=by rw[hW];exact hNE.out.cr.next ((ae _ w1).alloc ab _)
  rw[<-hW]at sb;have HW:=ad hW;have HB2:=ad hb2;have HEn:=ad hEn;obtain⟨m0,m1,m2⟩:=sb.cells;clear HL hb2 hEn sb hLD hNE b1 hW;go_wp2;rw[<-HW.out]
  go_loopw [9] (fun lv wr=>∃i:Nat,lv=.int .i64 i/\i<=ps.length/\wr=W/\af.ie last (ag ps)=i+af.ie last (ag (ps.drop i))) (fun lv _=>ps.length-(intOf lv).toNat)
  case atStart=>exact⟨0,rfl,by omega,rfl,by simp⟩
  case round =>
   obtain⟨i,rfl,hi,rfl,hk⟩:=hrel;have HK:=ad hk;clear hk;have HNW:=ad (fun (hne:¬(i=(ag ps).length/\cH=false)) (hki:af.ie last (ag ps)=i)=>(show af.fD room n last fs =
    if (af.dY room af.bQ ⟨(af.cD first++af.aQ ((ag ps).take i)).toArray⟩ (Dk.delete af.bQ fs).1).2=0 then Dk.rename af.bQ (af.nameOf n) (af.dY room af.bQ ⟨(af.cD first++af.aQ ((ag ps).take i)).toArray⟩ (Dk.delete af.bQ fs).1).1 else
    af.dY room af.bQ ⟨(af.cD first++af.aQ ((ag ps).take i)).toArray⟩ (Dk.delete af.bQ fs).1 by rw[HCD.out,hki,af.Et,if_neg hne]))
   have hpe0:(ag ps).length=ps.length:=by simp[ag]
   have key:(∃(b' o' c':Nat) (p ep:Int) (S:ByteArray) (ex se sq:Int) (es:List Evt.Event),i<ps.length/\va=some ⟨b',o',none⟩/\wr.cell? ⟨b',o'+i*7,none⟩=some (.int .i64 p)/\Hid (ps[i]?.map (·.1)=some ⟨p,ep,⟨S.data.toList,ex,se,sq,es⟩⟩))\/i=ps.length:=by
    rcases Nat.lt_or_ge i ps.length with hp|hp
    ·obtain⟨b',o',c',p,ep,S,ex,se,sq,sa,sl,sc,es,hv,k0,_,_,_,_,_,_,_,_,_,_,hpe,_⟩:=jI HEn.out i hp;cases hv;exact .inl ⟨b',o',vc,p,ep,S,ex,se,sq,es,hp,rfl,k0,by rw[aR hp];simp only[Option.map_some];rw[hpe.out];trivial⟩
    ·exact .inr (by omega)
   rcases key with⟨b',o',c',p,ep,S,ex,se,sq,es,hp,rfl,k0,hpe⟩|hend
   ·have hpe1:ps[i].1=⟨p,ep,⟨S.data.toList,ex,se,sq,es⟩⟩:=by
     have:=hpe.out;rw[aR hp]at this;simpa using this
    have hcap':ps.length<=vc:=by
     rcases hcap with⟨h,_⟩|⟨g,_,h⟩
     ·cases h
     ·exact h
    have hivc:i<=vc:=by omega
    by_cases hpl':p<=last
    ·have HN:=ad (Ik hp hpe1 hpl' HK.out);clear HK hpe hpe1 HNW hcap;go_wp2;exact⟨⟨i+1,by go_num,by omega,trivial,HN.out⟩,by simp[intOf];omega⟩
    ·have HNC:=ad (HNW.out (by intro h;omega) (D7 hp hpe1 hpl' HK.out));have HSL:=ad (nG HEn.out (show i<=ps.length by omega) vc);have hib:((i:Int)==(ps.length:Int))=false:=by rw[beq_eq_false_iff_ne];omega
     clear HK hpe hpe1 HNW HCD hcap;have HBY:=ad (gJ first (.slice (some ⟨b',o',none⟩) i vc) (ps.take i) wr.drew ((HA.out.next HB2.out).fW.next (ae _ _).drew) (HSL.out.next (ae _ _).drew) (by rw[List.length_take];omega));have hc0:=aB m0 m1;clear HSL HEn;go_wp2
     go_region_held3 (fun X=>X.cell? ⟨w1.heap.size,0,none⟩=some (.int .i64 first)/\X.cell? ⟨w1.heap.size,1,none⟩=some (.slice (some ⟨b',o',none⟩) ps.length vc))
      (first|exact hc0|exact⟨cell_kept hb ab hc0.1,cell_kept hb ab hc0.2⟩)
      (first|(go_at_call 210;refine HBY.out.mono ?_;rintro e w' ⟨Fh,Fr,rfl,hF,hR,hb⟩))
     have hb3:=Below.up HB2.out.drew ab hb;obtain⟨NB,hNB,hNB2,hNB3⟩:=bf (Fh.data.toList++Fr.data.toList);have hfs:Fh.size<=15:=by rw[Lib.size_eq,hF.out];exact af.gz first
     have hrs:Fr.size<=3021*ps.length:=by
      have:=af.iR (ag (ps.take i));rw[Lib.size_eq,hR.out];simp only[ag,List.length_map,List.length_take]at this ⊢;omega
     have hadd:∀X,(Op.stringOp .add Fh Fr).run prog X=.ok (.string NB) X:=fun X=>cK X Fh Fr NB (by omega) hNB2.symm;have hns:NB.size<=2000000000:=by
      rw[hNB3,List.length_append,<-Lib.size_eq,<-Lib.size_eq];omega
     have HNB:=ad (show NB=⟨(af.cD first++af.aQ ((ag ps).take i)).toArray⟩by rw[<-hNB,hF.out,hR.out,nU]);have HDL:=ad (dO d room fs ft ⟨#[116,101,109,112]⟩ w' (HD.out.next hb3) (by decide));rw[<-HNB.out]at HNC;have HB3:=ad hb3;clear hNB hNB2 hNB3 hF hR HBY hb hc0 m0 m1 m2 hfs hrs hb3;go_wp2_with fail;refine HDL.out.mono ?_;rintro e w4 ⟨rfl,ft4,hd4,hf4,ht4⟩;have HA4:=ad ((HA.out.next HB3.out).cJ ht4 hf4);have HWR:=ad (kD a d room _ ft4 ⟨#[116,101,109,112]⟩ NB w4 HA4.out hd4 (by decide) (by omega));have HT4:=ad (aB ht4 hf4);clear HDL hd4 hf4 ht4;go_wp2_with fail;refine HWR.out.mono ?_;rintro e w5 ⟨rfl,ft5,hd5,hf5,ht5⟩;obtain⟨FR,hFR⟩:∃FR,af.dY room af.bQ NB (Dk.delete af.bQ fs).1=FR:=⟨_,rfl⟩;rw[hFR]at HNC;rw[show af.dY room (⟨#[116,101,109,112]⟩:ByteArray).data.toList NB (Dk.delete (⟨#[116,101,109,112]⟩:ByteArray).data.toList fs).1=FR from hFR]at hd5 ⊢;have HA5:=ad (HA4.out.cJ ht5 hf5);have HD5:=ad hd5;have HT5:=ad (aB ht5 hf5);obtain⟨F5,c5⟩:=FR;simp only at HD5 ⊢;by_cases h5:c5=0
     ·have HNC:=ad (show af.fD room n last fs=Dk.rename af.bQ (af.nameOf n) F5 by rw[HNC.out];simp[h5]);subst h5;have HNM:=ad (fj n w5 HA5.out.fW);obtain⟨nm,hnm⟩:∃nm,af.nameOf n=nm:=⟨_,rfl⟩;rw[hnm]at HNM HNC hnl;clear hFR hd5 hf5 ht5 HWR hnm;go_wp2_with fail;refine HNM.out.mono ?_;rintro e w6 ⟨rfl,b6⟩;have hns6:(⟨nm.toArray⟩:ByteArray).size<=14:=by rw[Lib.size_eq];exact hnl
      have HRN:=ad (iC d room F5 ft5 ⟨#[116,101,109,112]⟩ ⟨nm.toArray⟩ w6 (HA5.out.next b6).fW (HD5.out.next b6) (by decide) (by omega));have HB6:=ad b6;clear HNM b6;go_wp2_with fail;refine HRN.out.mono ?_;rintro e w7 ⟨rfl,hds⟩;have HDS:=ad (DStep.under HB3.out (DStep.trans HT4.out.1 HT4.out.2 (DStep.trans HT5.out.1 HT5.out.2 (DStep.under HB6.out hds))));clear hds HRN;go_wp2;go_ret;exact⟨by rw[HNC.out];rfl,by rw[HNC.out];exact HDS.out⟩
     ·have HNZ:=ad (show af.fD room n last fs=(F5,c5)by rw[HNC.out];simp[h5]);have hcb:((c5:Int) != 0)=true:=by rw[bne_iff_ne];omega
      have HDS:=ad (DStep.under HB3.out (DStep.trans HT4.out.1 HT4.out.2 (show DStep d room F5 ft4 w4 w5 from⟨ft5,hd5,hf5,ht5⟩)));clear hFR hd5 hf5 ht5 HWR h5 HNC;go_wp2;go_ret;exact⟨by rw[HNZ.out];rfl,by rw[HNZ.out];exact HDS.out⟩
   ·subst hend;have HKI:=ad (Ga HK.out);cases cH with
    |false =>
     have HNC:=ad (show af.fD room n last fs=(fs,0)by rw[HCD.out,HKI.out,af.Et,if_pos ⟨hpe0.symm,rfl⟩]);clear HK HNW HCD HKI hcap;go_wp2;go_ret;exact⟨by rw[HNC.out];rfl,by rw[HNC.out];exact DStep.aI HD.out HB2.out⟩
    |true =>
     have HNC:=ad (HNW.out (by rintro ⟨_,h⟩;cases h) HKI.out);clear HK HNW HCD HKI;rcases hcap with⟨rfl,rfl,h0⟩|⟨g,rfl,hcap'⟩
     ·have HSL:=ad (show dk wr (.slice none 0 0) (ps.take ps.length)by rw[aP h0];exact As wr);have hpz:ps.length=0:=h0;have HBY:=ad (gJ first (.slice none 0 0) (ps.take ps.length) wr.drew ((HA.out.next HB2.out).fW.next (ae _ _).drew) (HSL.out.next (ae _ _).drew) (by rw[List.length_take];omega));have hc0:=aB m0 m1;clear HSL HEn;go_wp2
      go_region_held3 (fun X=>X.cell? ⟨w1.heap.size,0,none⟩=some (.int .i64 first)/\X.cell? ⟨w1.heap.size,1,none⟩=some (.slice none ps.length 0))
       (first|exact hc0|exact⟨cell_kept hb ab hc0.1,cell_kept hb ab hc0.2⟩)
       (first|(go_at_call 210;refine HBY.out.mono ?_;rintro e w' ⟨Fh,Fr,rfl,hF,hR,hb⟩))
      have hb3:=Below.up HB2.out.drew ab hb;obtain⟨NB,hNB,hNB2,hNB3⟩:=bf (Fh.data.toList++Fr.data.toList);have hfs:Fh.size<=15:=by rw[Lib.size_eq,hF.out];exact af.gz first
      have hrs:Fr.size<=3021*ps.length:=by
       have:=af.iR (ag (ps.take ps.length));rw[Lib.size_eq,hR.out];simp only[ag,List.length_map,List.length_take]at this ⊢;omega
      have hadd:∀X,(Op.stringOp .add Fh Fr).run prog X=.ok (.string NB) X:=fun X=>cK X Fh Fr NB (by omega) hNB2.symm;have hns:NB.size<=2000000000:=by
       rw[hNB3,List.length_append,<-Lib.size_eq,<-Lib.size_eq];omega
      have HNB:=ad (show NB=⟨(af.cD first++af.aQ ((ag ps).take ps.length)).toArray⟩by rw[<-hNB,hF.out,hR.out,nU]);have HDL:=ad (dO d room fs ft ⟨#[116,101,109,112]⟩ w' (HD.out.next hb3) (by decide));rw[<-HNB.out]at HNC;have HB3:=ad hb3;clear hNB hNB2 hNB3 hF hR HBY hb hc0 m0 m1 m2 hfs hrs hb3;go_wp2_with fail;refine HDL.out.mono ?_;rintro e w4 ⟨rfl,ft4,hd4,hf4,ht4⟩;have HA4:=ad ((HA.out.next HB3.out).cJ ht4 hf4);have HWR:=ad (kD a d room _ ft4 ⟨#[116,101,109,112]⟩ NB w4 HA4.out hd4 (by decide) (by omega));have HT4:=ad (aB ht4 hf4);clear HDL hd4 hf4 ht4;go_wp2_with fail;refine HWR.out.mono ?_;rintro e w5 ⟨rfl,ft5,hd5,hf5,ht5⟩;obtain⟨FR,hFR⟩:∃FR,af.dY room af.bQ NB (Dk.delete af.bQ fs).1=FR:=⟨_,rfl⟩;rw[hFR]at HNC;rw[show af.dY room (⟨#[116,101,109,112]⟩:ByteArray).data.toList NB (Dk.delete (⟨#[116,101,109,112]⟩:ByteArray).data.toList fs).1=FR from hFR]at hd5 ⊢;have HA5:=ad (HA4.out.cJ ht5 hf5);have HD5:=ad hd5;have HT5:=ad (aB ht5 hf5);obtain⟨F5,c5⟩:=FR;simp only at HD5 ⊢;by_cases h5:c5=0
      ·have HNC:=ad (show af.fD room n last fs=Dk.rename af.bQ (af.nameOf n) F5 by rw[HNC.out];simp[h5]);subst h5;have HNM:=ad (fj n w5 HA5.out.fW);obtain⟨nm,hnm⟩:∃nm,af.nameOf n=nm:=⟨_,rfl⟩;rw[hnm]at HNM HNC hnl;clear hFR hd5 hf5 ht5 HWR hnm;go_wp2_with fail;refine HNM.out.mono ?_;rintro e w6 ⟨rfl,b6⟩;have hns6:(⟨nm.toArray⟩:ByteArray).size<=14:=by rw[Lib.size_eq];exact hnl
       have HRN:=ad (iC d room F5 ft5 ⟨#[116,101,109,112]⟩ ⟨nm.toArray⟩ w6 (HA5.out.next b6).fW (HD5.out.next b6) (by decide) (by omega));have HB6:=ad b6;clear HNM b6;go_wp2_with fail;refine HRN.out.mono ?_;rintro e w7 ⟨rfl,hds⟩;have HDS:=ad (DStep.under HB3.out (DStep.trans HT4.out.1 HT4.out.2 (DStep.trans HT5.out.1 HT5.out.2 (DStep.under HB6.out hds))));clear hds HRN;go_wp2;go_ret;exact⟨by rw[HNC.out];rfl,by rw[HNC.out];exact HDS.out⟩
      ·have HNZ:=ad (show af.fD room n last fs=(F5,c5)by rw[HNC.out];simp[h5]);have hcb:((c5:Int) != 0)=true:=by rw[bne_iff_ne];omega
       have HDS:=ad (DStep.under HB3.out (DStep.trans HT4.out.1 HT4.out.2 (show DStep d room F5 ft4 w4 w5 from⟨ft5,hd5,hf5,ht5⟩)));clear hFR hd5 hf5 ht5 HWR h5 HNC;go_wp2;go_ret;exact⟨by rw[HNZ.out];rfl,by rw[HNZ.out];exact HDS.out⟩
     ·have HSL:=ad (show dk wr (.slice (some ⟨g,0,none⟩) ps.length vc) (ps.take ps.length)by rw[List.take_length];exact HEn.out);have HBY:=ad (gJ first (.slice (some ⟨g,0,none⟩) ps.length vc) (ps.take ps.length) wr.drew ((HA.out.next HB2.out).fW.next (ae _ _).drew) (HSL.out.next (ae _ _).drew) (by rw[List.length_take];omega));have hc0:=aB m0 m1;clear HSL HEn;go_wp2
      go_region_held3 (fun X=>X.cell? ⟨w1.heap.size,0,none⟩=some (.int .i64 first)/\X.cell? ⟨w1.heap.size,1,none⟩=some (.slice (some ⟨g,0,none⟩) ps.length vc))
       (first|exact hc0|exact⟨cell_kept hb ab hc0.1,cell_kept hb ab hc0.2⟩)
       (first|(go_at_call 210;refine HBY.out.mono ?_;rintro e w' ⟨Fh,Fr,rfl,hF,hR,hb⟩))
      have hb3:=Below.up HB2.out.drew ab hb;obtain⟨NB,hNB,hNB2,hNB3⟩:=bf (Fh.data.toList++Fr.data.toList);have hfs:Fh.size<=15:=by rw[Lib.size_eq,hF.out];exact af.gz first
      have hrs:Fr.size<=3021*ps.length:=by
       have:=af.iR (ag (ps.take ps.length));rw[Lib.size_eq,hR.out];simp only[ag,List.length_map,List.length_take]at this ⊢;omega
      have hadd:∀X,(Op.stringOp .add Fh Fr).run prog X=.ok (.string NB) X:=fun X=>cK X Fh Fr NB (by omega) hNB2.symm;have hns:NB.size<=2000000000:=by
       rw[hNB3,List.length_append,<-Lib.size_eq,<-Lib.size_eq];omega
      have HNB:=ad (show NB=⟨(af.cD first++af.aQ ((ag ps).take ps.length)).toArray⟩by rw[<-hNB,hF.out,hR.out,nU]);have HDL:=ad (dO d room fs ft ⟨#[116,101,109,112]⟩ w' (HD.out.next hb3) (by decide));rw[<-HNB.out]at HNC;have HB3:=ad hb3;clear hNB hNB2 hNB3 hF hR HBY hb hc0 m0 m1 m2 hfs hrs hb3;go_wp2_with fail;refine HDL.out.mono ?_;rintro e w4 ⟨rfl,ft4,hd4,hf4,ht4⟩;have HA4:=ad ((HA.out.next HB3.out).cJ ht4 hf4);have HWR:=ad (kD a d room _ ft4 ⟨#[116,101,109,112]⟩ NB w4 HA4.out hd4 (by decide) (by omega));have HT4:=ad (aB ht4 hf4);clear HDL hd4 hf4 ht4;go_wp2_with fail;refine HWR.out.mono ?_;rintro e w5 ⟨rfl,ft5,hd5,hf5,ht5⟩;obtain⟨FR,hFR⟩:∃FR,af.dY room af.bQ NB (Dk.delete af.bQ fs).1=FR:=⟨_,rfl⟩;rw[hFR]at HNC;rw[show af.dY room (⟨#[116,101,109,112]⟩:ByteArray).data.toList NB (Dk.delete (⟨#[116,101,109,112]⟩:ByteArray).data.toList fs).1=FR from hFR]at hd5 ⊢;have HA5:=ad (HA4.out.cJ ht5 hf5);have HD5:=ad hd5;have HT5:=ad (aB ht5 hf5);obtain⟨F5,c5⟩:=FR;simp only at HD5 ⊢;by_cases h5:c5=0
      ·have HNC:=ad (show af.fD room n last fs=Dk.rename af.bQ (af.nameOf n) F5 by rw[HNC.out];simp[h5]);subst h5;have HNM:=ad (fj n w5 HA5.out.fW);obtain⟨nm,hnm⟩:∃nm,af.nameOf n=nm:=⟨_,rfl⟩;rw[hnm]at HNM HNC hnl;clear hFR hd5 hf5 ht5 HWR hnm;go_wp2_with fail;refine HNM.out.mono ?_;rintro e w6 ⟨rfl,b6⟩;have hns6:(⟨nm.toArray⟩:ByteArray).size<=14:=by rw[Lib.size_eq];exact hnl
       have HRN:=ad (iC d room F5 ft5 ⟨#[116,101,109,112]⟩ ⟨nm.toArray⟩ w6 (HA5.out.next b6).fW (HD5.out.next b6) (by decide) (by omega));have HB6:=ad b6;clear HNM b6;go_wp2_with fail;refine HRN.out.mono ?_;rintro e w7 ⟨rfl,hds⟩;have HDS:=ad (DStep.under HB3.out (DStep.trans HT4.out.1 HT4.out.2 (DStep.trans HT5.out.1 HT5.out.2 (DStep.under HB6.out hds))));clear hds HRN;go_wp2;go_ret;exact⟨by rw[HNC.out];rfl,by rw[HNC.out];exact HDS.out⟩
      ·have HNZ:=ad (show af.fD room n last fs=(F5,c5)by rw[HNC.out];simp[h5]);have hcb:((c5:Int) != 0)=true:=by rw[bne_iff_ne];omega
       have HDS:=ad (DStep.under HB3.out (DStep.trans HT4.out.1 HT4.out.2 (show DStep d room F5 ft4 w4 w5 from⟨ft5,hd5,hf5,ht5⟩)));clear hFR hd5 hf5 ht5 HWR h5 HNC;go_wp2;go_ret;exact⟨by rw[HNZ.out];rfl,by rw[HNZ.out];exact HDS.out⟩
 ·have HCD:=ad (show af.fD room n last fs=(fs,c)by rw[af.fD,hLD.out,if_neg hc0]);have hcb:((c:Int) != 0)=true:=by rw[bne_iff_ne];omega
  obtain⟨va,vl,vc,rfl⟩:=cS hNE.out.1;have hb2:=b1.alloc b1.size (.cells #[.int .i64 first,.slice va vl vc,.bool cH] 312);have HB2:=ad hb2;clear hb2 hNE hLD b1 hc0 HL;go_wp2;go_ret;exact⟨by rw[HCD.out];rfl,by rw[HCD.out];exact DStep.aI HD.out HB2.out⟩
end Go.Proofs.YtmgmknmaepjnoaaGreatDoor
