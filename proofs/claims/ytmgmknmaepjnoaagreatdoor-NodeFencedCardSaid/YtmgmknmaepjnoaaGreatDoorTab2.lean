/-
  dedup's Put, where the request is fresh.
-/
import Derived.Test.YtmgmknmaepjnoaaGreatDoorLogN
namespace Go.Proofs.YtmgmknmaepjnoaaGreatDoor
open Go.RowKit Go.Shelf Proofs.Tryz
theorem FC {S:dU} {k q:Int} (o:cI) (hS:S k=none) (hq:1<=q):jY (fun j=>if j=k then some (0,fun _=>none) else S j) k q o=jY S k q o:=by
 funext j;unfold jY;by_cases e:j=k
 ·rw[if_pos e,if_pos e];have h1:pX (fun j=>if j=k then some (0,fun _=>none) else S j) k q=pX S k q:=by
   unfold pX;rw[hS];simp only[if_true];exact Int.max_eq_right (by omega)
  have h2:o5 (fun j=>if j=k then some (0,fun _=>none) else S j) k=o5 S k:=by
   unfold o5;rw[hS];simp only[if_true]
  rw[h1,h2]
 ·rw[if_neg e,if_neg e];simp only[if_neg e]
structure EL (w:World) (t:Nat) (S:dU) (n:Nat) (ft:Nat->Prop) (k:Int) (sb bo bm:Nat) (D D2:DataW Value) (gs go:Int->Nat) (hi:Int) (O:Int->Option cI):Prop where
 h1:w.heap[t]?=some (.cells #[.map (some bm)] 274 (0,0))
 h2:w.ownsMap prog 3 bJ bm n D
 h3:ft t
 h4:ft bm
 h5:∀k,S k=none->∀z,D.atKey (.int .i64 k) z=z
 h6:∀k hi O,S k=some (hi,O)->D.atKey (.int .i64 k) (.held (.pointer none))=.held (.pointer (some ⟨gs k,0,none⟩))/\gP w (gs k) hi O n (go k) ft/\go k≠bm
 h7:∀k k' x x',S k=some x->S k'=some x'->(gs k=gs k'\/go k=go k')->k=k'
 hk:S k=some (hi,O)
 es:gs k=sb
 eo:go k=bo
 s1:w.heap[sb]?=some (.cells #[.int .i64 hi,.map (some bo)] 277 (0,0))
 s2:w.ownsMap prog 3 bJ bo n D2
 s3:ft sb
 s4:ft bo
 s5:∀q,(O q=none->∀z,D2.atKey (.int .i64 q) z=z)/\(∀o,O q=some o->∃b,D2.atKey (.int .i64 q) (.held (.pointer none))=.held (.pointer (some ⟨b,0,none⟩))/\cX w b o/\ft b)
theorem eS.opened {w:World} {t n:Nat} {S:dU} {ft:Nat->Prop} {k hi:Int} {O:Int->Option cI} (h:eS w t S n ft) (hk:S k=some (hi,O)):∃sb bo bm D D2 gs go,EL w t S n ft k sb bo bm D D2 gs go hi O:=by
 obtain⟨bm,D,gs,go,h1,h2,h3,h4,h5,h6,h7⟩:=h;obtain⟨e1,⟨D2,s1,s2,s3,s4,s5⟩,e3⟩:=h6 k hi O hk;exact⟨gs k,go k,bm,D,D2,gs,go,⟨h1,h2,h3,h4,h5,h6,h7,hk,rfl,rfl,s1,s2,s3,s4,s5⟩⟩
theorem Hm (w:World) (o:cI):cX (w.alloc (.cells #[.int .i64 o.code,.int .i64 o.pos,.int .i64 o.first,.int .i64 o.version] 89)) w.heap.size o:=heap_alloc_new w _
theorem eS.Jq {w w':World} {t n bm:Nat} {S:dU} {ft:Nat->Prop} {D:DataW Value} {gs go:Int->Nat} {k:Int}
 (h1:w.heap[t]?=some (.cells #[.map (some bm)] 274 (0,0))) (h2:w.ownsMap prog 3 bJ bm n D) (h3:ft t) (h4:ft bm)
 (h5:∀k,S k=none->∀z,D.atKey (.int .i64 k) z=z)
 (h6:∀k hi O,S k=some (hi,O)->D.atKey (.int .i64 k) (.held (.pointer none))=.held (.pointer (some ⟨gs k,0,none⟩))/\gP w (gs k) hi O n (go k) ft/\go k≠bm)
 (h7:∀k k' x x',S k=some x->S k'=some x'->(gs k=gs k'\/go k=go k')->k=k') (hS:S k=none)
 (hM:w'.ownsMap prog 3 bJ bm (n+1) (D.put (.int .i64 k) (.held (.pointer (some ⟨w.heap.size+1,0,none⟩)))))
 (hg:((w.alloc (.map #[] 0)).alloc (.cells #[.int .i64 0,.map (some w.heap.size)] 277)).grownBy w' (some bm)) :
 eS w' t (fun j=>if j=k then some (0,fun _=>none) else S j) (n+1) (fun j=>ft j\/(w.heap.size<=j/\j<w.heap.size+2))/\ax ft w w':=by
 have hlt:=h2.lt;have b1:=(ae _ w).alloc ab (.map #[] 0);have b2:=b1.alloc (by simp) (.cells #[.int .i64 0,.map (some w.heap.size)] 277);have hs:=heap_alloc_new (w.alloc (.map #[] 0)) (.cells #[.int .i64 0,.map (some w.heap.size)] 277);rw[World.size_alloc]at hs;have hz:((w.alloc (.map #[] 0)).alloc (.cells #[.int .i64 0,.map (some w.heap.size)] 277)).heap.size=w.heap.size+2:=by simp[World.size_alloc]
 have hm:=(World.ownsMap_made w prog 3 bJ).alloc (.cells #[.int .i64 0,.map (some w.heap.size)] 277);have hT:ax ft w w':=(ax.aI b2).trans (ax.cq hg h4) (fun j hj=>.inl hj);refine⟨eS.qj (w':=w') (sb:=w.heap.size+1) (bo:=w.heap.size) h1 h2 h3 h4 h5 h6 h7 hM (fun j hj _=>Maps.atKey_put_other (by simpa using hj) _ _) (Maps.atKey_put_same h2.isMap (by trivial) _ _) ?_ (Nat.le_succ n) (fun j hj=>.inl hj) (fun j hj hf e1 e2 e3=>?_) (.inl ⟨hS,by omega,ab⟩),hT⟩
 ·refine⟨.map [],(hg.block _ (by omega) (by simp;omega)).trans hs,(cG hm (hg.block _ (by omega) (by simp;omega))).mono (Nat.zero_le _),.inr ⟨by omega,by omega⟩,.inr ⟨by omega,by omega⟩,fun q=>⟨fun _ _=>rfl,fun o h=>by cases h⟩⟩
 ·exact(hg.block j (by omega) (by simpa using e1)).trans (b2.block j hj)
theorem EL.closed {w w':World} {t n sb bo bm ob:Nat} {S:dU} {ft:Nat->Prop} {k q hi M:Int} {O:Int->Option cI} {D D2 D3:DataW Value} {gs go:Int->Nat} {o:cI}
 (h:EL w t S n ft k sb bo bm D D2 gs go hi O) (hM:M=max hi q) (hob:cX w ob o)
 (hc:w'.heap[sb]?=some (.cells #[.int .i64 M,.map (some bo)] 277 (0,0))) (hm:w'.ownsMap prog 3 bJ bo (n+1) D3)
 (hD:∀j z,D3.atKey (.int .i64 j) z=if j<=M-8 then z else if j=q then .held (.pointer (some ⟨ob,0,none⟩)) else D2.atKey (.int .i64 j) z)
 (hk:∀j,j<w.heap.size->j≠sb->j≠bo->w'.heap[j]?=w.heap[j]?) :
 eS w' t (jY S k q o) (n+1) (fun j=>ft j\/j=ob):=by
 subst hM;have lt:∀{j:Nat} {o:Obj},w.heap[j]?=some o->j<w.heap.size:=fun h=>(aA.1 h).1;have hbm:bm≠sb/\bm≠bo:=by
  refine⟨fun e=>?_,fun e=>?_⟩
  ·exact gi (x:=[.int .i64 hi,.map (some bo)]) h.s1 h.h2 e.symm
  ·exact(h.h6 k hi O h.hk).2.2 (by rw[h.eo,e])
 have hout:∀b x,cX w b x->w'.heap[b]?=w.heap[b]?:=fun b x hb=>hk b (lt hb) (fun e=>by
  have:=h.s1;rw[<-e,hb]at this;simp only[Option.some.injEq,Obj.cells.injEq]at this;exact absurd this.2.1 (by decide)) (gi (x:=[.int .i64 x.code,.int .i64 x.pos,.int .i64 x.first,.int .i64 x.version]) hb h.s2)
 have e1:pX S k q=max hi q:=by unfold pX;rw[h.hk]
 have e2:o5 S k=O:=by unfold o5;rw[h.hk]
 have key:=eS.qj (w':=w') (k:=k) (hi:=max hi q) (O:=vk O (max hi q) q o) (ft':=fun j=>ft j\/j=ob) h.h1 h.h2 h.h3 h.h4 h.h5 h.h6 h.h7 ((cG h.h2 (hk bm h.h2.lt hbm.1 hbm.2)).mono (Nat.le_succ n)) (fun j _ _=>rfl)
  (by have:=(h.h6 k hi O h.hk).1;rw[h.es]at this;exact this)
  (gP.qj (w:=w) (ft:=ft) (ft':=fun j=>ft j\/j=ob) h.s5 hc hm (.inl h.s3) (.inl h.s4) hD ((hout ob o hob).trans hob) (.inr rfl) (fun j hj=>.inl hj) (fun b x hb _=>(hout b x hb).trans hb))
  (Nat.le_succ n) (fun j hj=>.inl hj) (fun j hj _ _ a b=>hk j hj a b) (.inr ⟨_,h.hk,h.es.symm,h.eo.symm⟩)
 have:(fun j=>if j=k then some (max hi q,vk O (max hi q) q o) else S j)=jY S k q o:=by
  funext j;unfold jY;rw[e1,e2]
 rw[this]at key;exact key
theorem tW {ss:List Int} {D:DataW Value} (h:ss.Perm (intKeys D)) (x:Int):x∈ss.mergeSort (fun x y=>decide (x<=y))↔x∈intKeys D :=
 ((List.mergeSort_perm ss _).trans h).mem_iff
theorem sN {ks:List Int} {w:World} {v:Value} (h:Cells w v 1 ks.length (ks.map encZ)) (i:Nat) (hi:i<ks.length) {x:Int} (hx:ks[i]=x) :
 ∃b o c,v=.slice (some ⟨b,o,none⟩) ks.length c/\w.cell? ⟨b,o+i,none⟩=some (.int .i64 x):=by
 rcases h.2 with⟨h0,_⟩|⟨b,o,c,h1,h2⟩
 ·omega
 ·exact⟨b,o,c,h1,h2 i _ (by rw[<-hx];simp[aR hi])⟩
theorem gP.mono {w:World} {sb n n' bo:Nat} {hi:Int} {O:Int->Option cI} {ft:Nat->Prop} (h:gP w sb hi O n bo ft) (hn:n<=n'):gP w sb hi O n' bo ft:=by
 obtain⟨D,h1,h2,h3⟩:=h;exact⟨D,h1,h2.mono hn,h3⟩
theorem eS.mono {w:World} {t n n':Nat} {S:dU} {ft:Nat->Prop} (h:eS w t S n ft) (hn:n<=n'):eS w t S n' ft:=by
 obtain⟨bm,D,gs,go,h1,h2,h3,h4,h5,h6,h7⟩:=h;exact⟨bm,D,gs,go,h1,h2.mono hn,h3,h4,h5,fun k hi O hk=>⟨(h6 k hi O hk).1,(h6 k hi O hk).2.1.mono hn,(h6 k hi O hk).2.2⟩,h7⟩
theorem sQ {w:World} {v:Value} {sz n:Nat} {xs:List Value} (h:Cells w v sz n xs):∃va vc,v=.slice va n vc:=by
 rcases cC h with⟨h0,a,c,rfl⟩|⟨b,o,c,rfl⟩
 ·exact⟨a,c,by rw[h0]⟩
 ·exact⟨_,_,rfl⟩
theorem BE {S:dU} {k q:Int} (h:(bR S k q).2=0):bR S k q=(⟨0,0,0,0⟩,0):=by
 unfold bR at h ⊢;split
 ·rename_i e;rw[if_pos e]at h;cases h
 ·rename_i e;rw[if_neg e]at h;cases hS:S k with
  |none=>rfl
  |some x =>
   obtain⟨hi,O⟩:=x;rw[hS]at h;simp only at h ⊢;split
   ·rename_i e2;rw[if_pos e2]at h;cases h
   ·rename_i e2;rw[if_neg e2]at h;cases hO:O q with
    |none=>rfl
    |some o=>rw[hO]at h;cases h
theorem oz {x:Int} (h1 : -9223372036854775808<=x) (h2:x<=9223372036854775807):(Lit.int .i64 x).wf=true:=by
 show(decide (IntKind.i64.min<=x)&&decide (x<=IntKind.i64.max))=true;have e1:IntKind.i64.min = -9223372036854775808:=by decide
 have e2:IntKind.i64.max=9223372036854775807:=by decide
 rw[e1,e2,Bool.and_eq_true,decide_eq_true_eq,decide_eq_true_eq];exact⟨h1,h2⟩
set_option maxHeartbeats 8000000 in
set_option maxRecDepth 100000 in
theorem vP (t:Nat) (S:dU) (n:Nat) (ft:Nat->Prop) (k q:Int) (o:cI) (w:World) (h:eS w t S n ft) (hk:1<=k/\k<=274877906944) (hq:1<=q/\q<=274877906944) (hS:xF S) (hf:(bR S k q).2=0) (hn:n<=1000000) :
 Calls prog 170 #[.pointer (some ⟨t,0,none⟩),.int .i64 k,.int .i64 q,lV o] w fun e w'=>∃ft',e=.returned (.int .i64 0)/\eS w' t (jY S k q o) (n+2) ft'/\(∀j,ft' j->ft j\/w.heap.size<=j)/\ax ft w w':=by
 rw[show lV o=.agg #[.int .i64 o.code,.int .i64 o.pos,.int .i64 o.first,.int .i64 o.version]from rfl];have hkw:(Lit.int .i64 k).wf=true:=oz (by omega) (by omega);have hqw:(Lit.int .i64 q).wf=true:=oz (by omega) (by omega);obtain⟨W0,hW0⟩:∃W0,w.alloc (.cells #[.int .i64 o.code,.int .i64 o.pos,.int .i64 o.first,.int .i64 o.version] 89)=W0:=⟨_,rfl⟩;have b0:Below w.heap.size w W0:=by rw[<-hW0];exact(ae _ w).alloc ab _
 have o0:cX W0 w.heap.size o:=by rw[<-hW0];exact Hm w o
 have hL:=lZ t S n ft k q W0 (h.next b0) hkw hqw (fun hi O e=>by have:=hS k hi O e;omega);rw[BE hf]at hL;have hL:Calls prog 104 #[.pointer (some ⟨t,0,none⟩),.int .i64 k,.int .i64 q] W0 (fun e w'=>e=.returned (.tuple #[.agg #[.int .i64 0,.int .i64 0,.int .i64 0,.int .i64 0],.int .i64 0])/\Below W0.heap.size W0 w'):=hL;have HL:=ad hL;have H0:=ad (aB h (aB b0 o0));have HW0:=ad hW0;clear hL h b0 o0 hW0 hf;have hmm:=@run_makeMap prog;go_enter func170,ntmps170;go_upto_region 3 with fail;rw[HW0.out];go_cut [10] (fun cv wx=>cv=.int .i64 0/\Hid (Below W0.heap.size W0 wx))
 case first =>
  go_wp2_with fail;refine HL.out.mono ?_;rintro e w1 ⟨rfl,b1⟩;have HB1:=ad b1;clear b1 HL;go_wp2;go_meet;exact⟨rfl,ad (HB1.out.alloc HB1.out.size _)⟩/- (by have:=HB1.out.size;simp;omega) (by have:=HB1.out.size;omega) (grown_trans (grown_trans (grown_trans (grown_set _ _ _ _) (grown_set _ _ _ _)) (grown_set _ _ _ _)) (grown_set _ _ _ _)))⟩-/
 case rest =>
  obtain⟨rfl,HBx⟩:=hcut;have hbx:Below w.heap.size w wc:=H0.out.2.1.trans (HBx.out.mono H0.out.2.1.size);have hox:cX wc w.heap.size o:=(HBx.out.block _ (aA.1 H0.out.2.2).1).trans H0.out.2.2;have hT:=H0.out.1.next hbx;have HBX:=ad hbx;have HOX:=ad hox;clear HL H0 HBx hbx hox HW0;cases hSk:S k with
  |some x =>
   obtain⟨hi,O⟩:=x;obtain⟨sb,bo,bm,D,D2,gs,go,hto⟩:=hT.opened hSk;have hhi:0<=hi/\hi<=274877906944:=by have:=hS k hi O hSk;omega
   have hat:=(hto.h6 k hi O hSk).1;rw[hto.es]at hat;have hrun:=lK hto.h2 hat hkw;clear hat;have d0:wc.cell? ⟨t,0,none⟩=some (.map (some bm)):=aq hto.h1 rfl;have HPS:=ad (show jY S k q o=jY S k q o from rfl);have HFT:=ad (show ∀j,ft j->ft j\/w.heap.size<=j from fun j hj=>.inl hj);have HTY:=ad (show ax ft w wc from ax.aI HBX.out);have ho:=HOX.out;obtain⟨n1,hn1⟩:∃n1,n1=n:=⟨_,rfl⟩;have hn1':n1+1<=n+2:=by omega
   obtain⟨ft1,hft1⟩:∃ft1,ft1=ft:=⟨_,rfl⟩;obtain⟨wy,hwy⟩:∃wy,wy=wc:=⟨_,rfl⟩;subst hn1 hft1 hwy;clear hT;have HO:=ad ho;have HTO:=ad hto;clear hto ho;obtain⟨M,hM⟩:∃M,max hi q=M:=⟨_,rfl⟩;have hMb:0<=M/\M<=274877906944:=by rw[<-hM];exact⟨Int.le_trans (by omega) (Int.le_max_right hi q),Int.max_le.2 ⟨hhi.2,hq.2⟩⟩
   have hs1:=HTO.out.s1;have d1:wy.cell? ⟨sb,1,none⟩=some (.map (some bo)):=aq hs1 rfl;have hown:=HTO.out.s2;have hsbo:sb≠bo:=gi (x:=[.int .i64 hi,.map (some bo)]) HTO.out.s1 HTO.out.s2;go_wp2_with (at_mapUpdate;refine wpList_mapUpdate_own _ rfl _ _ _ 275 rfl 3 278 i6 underlying275 bJ bo n1 D2 rfl hown (by unfold maxLen;omega) _ _ (.int .i64 q) rfl rfl (Maps.keyOf_int_mk underlying3 hqw) (.held (.pointer (some ⟨w.heap.size,0,none⟩))) [] rfl ?_);intro w2 hown2 hg2;have k1:=(hg2.block sb (aA.1 hs1).1 (by simpa using hsbo)).trans hs1;have c0:w2.cell? ⟨sb,0,none⟩=some (.int .i64 hi):=aq k1 rfl;have cf:=ay k1 0;obtain⟨w3,hw3⟩:∃w3,w2.setCell ⟨sb,0,none⟩ (.int .i64 M)=w3:=⟨_,rfl⟩;have k3:w3.heap[sb]?=some (.cells #[.int .i64 M,.map (some bo)] 277 (0,0)):=by rw[<-hw3];exact av (i:=0) k1 (.int .i64 M)
   have hg3:w2.grownBy w3 (some sb):=by rw[<-hw3];exact az _ _ _ _
   have hown3:w3.ownsMap prog 3 bJ bo (n1+1) (D2.put (.int .i64 q) (.held (.pointer (some ⟨w.heap.size,0,none⟩)))):=cG hown2 (hg3.block bo hown2.lt (by simpa using hsbo.symm));obtain⟨DP,hDP⟩:∃DP,DP=D2.put (.int .i64 q) (.held (.pointer (some ⟨w.heap.size,0,none⟩))):=⟨_,rfl⟩;rw[<-hDP]at hown3 hown2;have e1:(w2.setCell ⟨sb,0,none⟩ (.int .i64 M)).cell? ⟨sb,1,none⟩=some (.map (some bo)):=by rw[hw3,aw k3];rfl
   have HK:=ad (callsIn_wide.1 (Tryz.ow (some bo) w3));have HS:=ad (callsIn_wide.1 (Tryz.iG bo (n1+1) DP bJ w3 hown3 (by have:=hown3.size_le;unfold maxLen;omega) (by have:=hown3.size_le;omega)));have HW3:=ad hw3;have H3:=ad (aB k3 (aB hown3 (aB hg2 (aB hg3 hDP))));clear hown2 hg2 k1 hown hs1 k3 hg3 hown3 hDP hw3 d1;go_wp2_with fail;rw[HW3.out];refine HK.out.mono ?_;rintro e w4 ⟨rfl,rfl⟩;go_wp2_with fail;refine HS.out.mono ?_;rintro e w5 ⟨v,ss,rfl,hp,hrow,_,hb5⟩;obtain⟨ks,hks⟩:∃ks,ss.mergeSort (fun x y=>decide (x<=y))=ks:=⟨_,rfl⟩;have hkl:ss.length=ks.length:=by rw[<-hks,List.length_mergeSort]
   rw[hks,hkl]at hrow;have HKM:=ad (show ∀x,x∈ks↔x∈intKeys DP from fun x=>by rw[<-hks];exact tW hp x);have hksn:ks.length<=2000000:=by
    have h1:=H3.out.2.1.size_le;have h2:=hp.length_eq;have h3:(intKeys DP).length<=Maps.size DP:=by
     unfold intKeys Maps.size;split
     ·simp
     ·simp
    omega
   have HCL:=ad (aj hrow);obtain⟨va,vc,rfl⟩:=sQ HCL.out;have HR5:=ad hrow;have hb5':Below w3.heap.size w3 w5:=((ae _ w3).alloc ab (.cells #[.map (some bo)] 275)).trans (hb5.mono (by simp));have HB5:=ad hb5';have k5:=(hb5'.block sb (aA.1 H3.out.1).1).trans H3.out.1;have hown5:=cG H3.out.2.1 (hb5'.block bo H3.out.2.1.lt);have H5:=ad (aB k5 hown5);have hM8:wrap64 (M-8)=M-8:=IntWalk.wrap64_in _ (by omega);have HKL:=ad hks;clear HK HS hp hrow hb5 hb5' k5 hown5 hkl hks e1 c0 cf;go_wp2
   go_loopw [70] (fun lv wr=>∃(i:Nat) (Di:DataW Value),lv=.int .i64 i/\i<=ks.length/\Hid (wr.heap[sb]?=some (.cells #[.int .i64 M,.map (some bo)] 277 (0,0)))/\Hid (wr.ownsMap prog 3 bJ bo (n1+1) Di)/\Hid (jV DP Di (ks.take i) (M-8))/\Hid (w5.grownBy wr (some bo))) (fun lv _=>ks.length-(intOf lv).toNat)
   case atStart=>exact⟨0,DP,rfl,by omega,ad H5.out.1,ad H5.out.2,ad (by rw[List.take_zero];exact xr _ _),ad ⟨rfl,rfl,rfl,ab,fun _ _ _=>rfl⟩⟩
   case round =>
    obtain⟨i,Di,rfl,hi',A1,A2,A3,A4⟩:=hrel;by_cases hp:i<ks.length
    ·obtain⟨x,hx⟩:∃x,ks[i]=x:=⟨_,rfl⟩;have hrow:=HR5.out.kept A4.out (by
      by_cases e:(Value.slice va ks.length vc).ownBlock=some bo
      ·have:=(HR5.out.lt bo e).1;have:=H3.out.2.1.lt;simp at *;omega
      ·exact .inr e)
     obtain⟨rb,ro,rc,hv,kx⟩:=sN (aj hrow) i hp hx;cases hv;have f0:wr.cell? ⟨sb,0,none⟩=some (.int .i64 M):=aq A1.out rfl;have f1:wr.cell? ⟨sb,1,none⟩=some (.map (some bo)):=aq A1.out rfl;have HTK:=ad (show ks.take (i+1)=ks.take i++[x]by rw[List.take_succ_eq_append_getElem hp,hx]);have hxw:(Lit.int .i64 x).wf=true:=intKeys_wf H3.out.2.1 underlying3 x ((HKM.out x).1 (by rw[<-hx];exact List.getElem_mem _));clear hx hrow;by_cases hdel:x<=M-8
     ·have hownr:=A2.out;go_wp2_with (at_delete;refine wpList_delete_own _ rfl _ _ 275 3 rfl 278 i6 underlying275 bJ bo (n1+1) Di rfl hownr (.int .i64 x) (.int .i64 x) rfl (Maps.keyOf_int_mk underlying3 hxw) ?_);intro w7 hown7 ht7;have B1:=ad ((ht7.grown.block sb (aA.1 A1.out).1 (by simpa using hsbo)).trans A1.out);have B2:=ad hown7;have B3:=ad (show jV DP (Di.del (.int .i64 x)) (ks.take (i+1)) (M-8)by rw[HTK.out];exact xt A3.out hdel);have B4:=ad (aF A4.out ht7.grown);clear hown7 ht7 hownr f0 f1 kx;go_wp2;exact⟨⟨i+1,_,by go_num,by omega,B1,B2,B3,B4⟩,by simp[intOf];omega⟩
     ·have B3:=ad (show jV DP Di (ks.take (i+1)) (M-8)by rw[HTK.out];exact uW A3.out hdel);go_wp2;exact⟨⟨i+1,_,by go_num,by omega,A1,A2,B3,A4⟩,by simp[intOf];omega⟩
    ·obtain rfl:i=ks.length:=by omega
     have hkeep:∀j,j<wy.heap.size->j≠sb->j≠bo->wr.heap[j]?=wy.heap[j]?:=fun j hj h1 h2=>by
      have z1:=H3.out.2.2.1.size;have z2:=H3.out.2.2.2.1.size;have z3:=HB5.out.size;rw[A4.out.block j (by omega) (by simpa using h2),HB5.out.block j (by omega),H3.out.2.2.2.1.block j (by omega) (by simpa using h1),H3.out.2.2.1.block j hj (by simpa using h2)]
     have hfin:=HTO.out.closed (w':=wr) (o:=o) (q:=q) (M:=M) (ob:=w.heap.size) (D3:=Di) hM.symm HO.out A1.out A2.out (fun j z=>by
      have h9:=A3.out;rw[List.take_length]at h9;rw[xu h9 HKM.out j z];split
      ·rfl
      ·rw[H3.out.2.2.2.2];split
       ·rename_i e;subst e;exact Maps.atKey_put_same HTO.out.s2.isMap (by trivial) _ _
       ·rename_i e;exact Maps.atKey_put_other (by simpa using e) _ _) hkeep
     have htn:ax ft1 wy wr:=⟨(A4.out.os.trans HB5.out.os).trans (H3.out.2.2.2.1.os.trans H3.out.2.2.1.os),(A4.out.tape.trans HB5.out.tape).trans (H3.out.2.2.2.1.tape.trans H3.out.2.2.1.tape),(A4.out.output.trans HB5.out.output).trans (H3.out.2.2.2.1.output.trans H3.out.2.2.1.output),Nat.le_trans H3.out.2.2.1.size (Nat.le_trans H3.out.2.2.2.1.size (Nat.le_trans HB5.out.size A4.out.size)),fun j hj hn=>hkeep j hj (fun e=>hn (by rw[e];exact HTO.out.s3)) (fun e=>hn (by rw[e];exact HTO.out.s4))⟩;have HF:=ad hfin;have HTN:=ad htn;clear hfin htn hkeep;go_wp2;go_ret;exact⟨fun j=>ft1 j\/j=w.heap.size,rfl,by have:=HF.out;first|(rw[HPS.out]at this;exact this.mono (by omega))|exact this.mono (by omega),fun j hj=>by
      rcases hj with hj|hj
      ·exact HFT.out j hj
      ·exact .inr (by omega),HTY.out.trans HTN.out (fun j hj=>HFT.out j hj)⟩
  |none =>
   obtain⟨bm,D,gs,go,h1,h2,h3,h4,h5,h6,h7⟩:=hT;have hrun:=lK h2 (h5 k hSk _) hkw;have d0:wc.cell? ⟨t,0,none⟩=some (.map (some bm)):=aq h1 rfl;have bb:=((ae _ wc).alloc ab (.map #[] 0)).alloc (by simp) (.cells #[.int .i64 0,.map (some wc.heap.size)] 277);have d0':((wc.alloc (.map #[] 0)).alloc (.cells #[.int .i64 0,.map (some wc.heap.size)] 277)).cell? ⟨t,0,none⟩=some (.map (some bm)):=aq (au bb ab h1) rfl;have hownm:=cG h2 (bb.block bm h2.lt);have HP:=ad (aB h1 (aB h2 (aB h3 (aB h4 (aB h5 (aB h6 h7))))));clear h1 h2 h3 h4 h5 h6 h7 bb;go_wp2_with (at_mapUpdate;refine wpList_mapUpdate_own _ rfl _ _ _ 272 rfl 3 271 i6 underlying272 bJ bm n D rfl hownm (by unfold maxLen;omega) _ _ (.int .i64 k) rfl rfl (Maps.keyOf_int_mk underlying3 hkw) (.held (.pointer (some ⟨wc.heap.size+1,0,none⟩))) [] rfl ?_);intro wy hownz hgz;obtain⟨hT2,htz⟩:=eS.Jq HP.out.1 HP.out.2.1 HP.out.2.2.1 HP.out.2.2.2.1 HP.out.2.2.2.2.1 HP.out.2.2.2.2.2.1 HP.out.2.2.2.2.2.2 hSk hownz hgz;have ho:cX wy w.heap.size o:=by
    refine Eq.trans ?_ HOX.out;have hz:wc.heap[w.heap.size]?=_:=HOX.out;have hlt:=(aA.1 hz).1;rw[hgz.block _ (by simp;omega) (by simpa using gi (x:=[.int .i64 o.code,.int .i64 o.pos,.int .i64 o.first,.int .i64 o.version]) HOX.out HP.out.2.1)];exact(((ae _ wc).alloc ab (.map #[] 0)).alloc (by simp) (.cells #[.int .i64 0,.map (some wc.heap.size)] 277)).block _ hlt
   have HPS:=ad (FC (S:=S) (k:=k) (q:=q) o hSk hq.1);have HFT:=ad (show ∀j,(ft j\/(wc.heap.size<=j/\j<wc.heap.size+2))->ft j\/w.heap.size<=j from fun j hj=>by
    rcases hj with hj|hj
    ·exact .inl hj
    ·have:=HBX.out.size;exact .inr (by omega))
   have HTY:=ad (show ax ft w wy from(ax.aI HBX.out).trans htz (fun j hj=>.inl hj));obtain⟨n1,hn1⟩:∃n1,n+1=n1:=⟨_,rfl⟩;obtain⟨ft1,hft1⟩:∃ft1:Nat->Prop,(fun j=>ft j\/(wc.heap.size<=j/\j<wc.heap.size+2))=ft1:=⟨_,rfl⟩;obtain⟨S1,hS1⟩:∃S1:dU,(fun j=>if j=k then some (0,fun _=>none) else S j)=S1:=⟨_,rfl⟩;have hSk1:S1 k=some (0,fun _=>none):=by rw[<-hS1];simp
   have HFT:=ad (show ∀j,ft1 j->ft j\/w.heap.size<=j by rw[<-hft1];exact HFT.out);rw[hn1,hft1,hS1]at hT2;rw[hS1]at HPS;obtain⟨hi,hhi0⟩:∃hi:Int,0=hi:=⟨_,rfl⟩;obtain⟨O,hO⟩:∃O:Int->Option cI,(fun _=>none)=O:=⟨_,rfl⟩;rw[hhi0,hO]at hSk1;obtain⟨sb,bo,bm2,D',D2,gs',go',hto⟩:=hT2.opened hSk1;have hsbv:sb=wc.heap.size+1:=by
    have e1:=(hto.h6 k hi O hSk1).1;rw[hto.es]at e1;have e2:=hto.h1;have e3:bm2=bm:=by
     have e4:=(hgz.block t (by have:=(aA.1 HP.out.1).1;simp;omega) (by simpa using gi (x:=[.map (some bm)]) HP.out.1 HP.out.2.1)).trans ((Below.heap_alloc _ _ t (by have:=(aA.1 HP.out.1).1;simp;omega)).trans ((Below.heap_alloc _ _ t (aA.1 HP.out.1).1).trans HP.out.1));rw[e2]at e4;simpa using e4
    subst e3;have e5:D'=D.put (.int .i64 k) (.held (.pointer (some ⟨wc.heap.size+1,0,none⟩))):=by
     obtain⟨es1,c1,x1,_,_,x2⟩:=hto.h2;obtain⟨es2,c2,y1,_,_,y2⟩:=hownz;rw[x1]at y1;cases y1;rw[x2,y2]
    rw[e5,Maps.atKey_put_same HP.out.2.1.isMap (by trivial)]at e1;simp only[DataW.held.injEq,Value.pointer.injEq,Option.some.injEq,Addr.mk.injEq,and_true]at e1;exact e1.symm
   have hhi:0<=hi/\hi<=274877906944:=by omega
   have hn1':n1+1<=n+2:=by omega
   rw[<-hsbv];clear hT2 htz hownz hgz hrun d0 d0' hownm HP hft1 hS1 hhi0 hO hSk1 hsbv HOX HBX;have HO:=ad ho;have HTO:=ad hto;clear hto ho;obtain⟨M,hM⟩:∃M,max hi q=M:=⟨_,rfl⟩;have hMb:0<=M/\M<=274877906944:=by rw[<-hM];exact⟨Int.le_trans (by omega) (Int.le_max_right hi q),Int.max_le.2 ⟨hhi.2,hq.2⟩⟩
   have hs1:=HTO.out.s1;have d1:wy.cell? ⟨sb,1,none⟩=some (.map (some bo)):=aq hs1 rfl;have hown:=HTO.out.s2;have hsbo:sb≠bo:=gi (x:=[.int .i64 hi,.map (some bo)]) HTO.out.s1 HTO.out.s2;go_wp2_with (at_mapUpdate;refine wpList_mapUpdate_own _ rfl _ _ _ 275 rfl 3 278 i6 underlying275 bJ bo n1 D2 rfl hown (by unfold maxLen;omega) _ _ (.int .i64 q) rfl rfl (Maps.keyOf_int_mk underlying3 hqw) (.held (.pointer (some ⟨w.heap.size,0,none⟩))) [] rfl ?_);intro w2 hown2 hg2;have k1:=(hg2.block sb (aA.1 hs1).1 (by simpa using hsbo)).trans hs1;have c0:w2.cell? ⟨sb,0,none⟩=some (.int .i64 hi):=aq k1 rfl;have cf:=ay k1 0;obtain⟨w3,hw3⟩:∃w3,w2.setCell ⟨sb,0,none⟩ (.int .i64 M)=w3:=⟨_,rfl⟩;have k3:w3.heap[sb]?=some (.cells #[.int .i64 M,.map (some bo)] 277 (0,0)):=by rw[<-hw3];exact av (i:=0) k1 (.int .i64 M)
   have hg3:w2.grownBy w3 (some sb):=by rw[<-hw3];exact az _ _ _ _
   have hown3:w3.ownsMap prog 3 bJ bo (n1+1) (D2.put (.int .i64 q) (.held (.pointer (some ⟨w.heap.size,0,none⟩)))):=cG hown2 (hg3.block bo hown2.lt (by simpa using hsbo.symm));obtain⟨DP,hDP⟩:∃DP,DP=D2.put (.int .i64 q) (.held (.pointer (some ⟨w.heap.size,0,none⟩))):=⟨_,rfl⟩;rw[<-hDP]at hown3 hown2;have e1:(w2.setCell ⟨sb,0,none⟩ (.int .i64 M)).cell? ⟨sb,1,none⟩=some (.map (some bo)):=by rw[hw3,aw k3];rfl
   have HK:=ad (callsIn_wide.1 (Tryz.ow (some bo) w3));have HS:=ad (callsIn_wide.1 (Tryz.iG bo (n1+1) DP bJ w3 hown3 (by have:=hown3.size_le;unfold maxLen;omega) (by have:=hown3.size_le;omega)));have HW3:=ad hw3;have H3:=ad (aB k3 (aB hown3 (aB hg2 (aB hg3 hDP))));clear hown2 hg2 k1 hown hs1 k3 hg3 hown3 hDP hw3 d1;go_wp2_with fail;rw[HW3.out];refine HK.out.mono ?_;rintro e w4 ⟨rfl,rfl⟩;go_wp2_with fail;refine HS.out.mono ?_;rintro e w5 ⟨v,ss,rfl,hp,hrow,_,hb5⟩;obtain⟨ks,hks⟩:∃ks,ss.mergeSort (fun x y=>decide (x<=y))=ks:=⟨_,rfl⟩;have hkl:ss.length=ks.length:=by rw[<-hks,List.length_mergeSort]
   rw[hks,hkl]at hrow;have HKM:=ad (show ∀x,x∈ks↔x∈intKeys DP from fun x=>by rw[<-hks];exact tW hp x);have hksn:ks.length<=2000000:=by
    have h1:=H3.out.2.1.size_le;have h2:=hp.length_eq;have h3:(intKeys DP).length<=Maps.size DP:=by
     unfold intKeys Maps.size;split
     ·simp
     ·simp
    omega
   have HCL:=ad (aj hrow);obtain⟨va,vc,rfl⟩:=sQ HCL.out;have HR5:=ad hrow;have hb5':Below w3.heap.size w3 w5:=((ae _ w3).alloc ab (.cells #[.map (some bo)] 275)).trans (hb5.mono (by simp));have HB5:=ad hb5';have k5:=(hb5'.block sb (aA.1 H3.out.1).1).trans H3.out.1;have hown5:=cG H3.out.2.1 (hb5'.block bo H3.out.2.1.lt);have H5:=ad (aB k5 hown5);have hM8:wrap64 (M-8)=M-8:=IntWalk.wrap64_in _ (by omega);have HKL:=ad hks;clear HK HS hp hrow hb5 hb5' k5 hown5 hkl hks e1 c0 cf;go_wp2
   go_loopw [70] (fun lv wr=>∃(i:Nat) (Di:DataW Value),lv=.int .i64 i/\i<=ks.length/\Hid (wr.heap[sb]?=some (.cells #[.int .i64 M,.map (some bo)] 277 (0,0)))/\Hid (wr.ownsMap prog 3 bJ bo (n1+1) Di)/\Hid (jV DP Di (ks.take i) (M-8))/\Hid (w5.grownBy wr (some bo))) (fun lv _=>ks.length-(intOf lv).toNat)
   case atStart=>exact⟨0,DP,rfl,by omega,ad H5.out.1,ad H5.out.2,ad (by rw[List.take_zero];exact xr _ _),ad ⟨rfl,rfl,rfl,ab,fun _ _ _=>rfl⟩⟩
   case round =>
    obtain⟨i,Di,rfl,hi',A1,A2,A3,A4⟩:=hrel;by_cases hp:i<ks.length
    ·obtain⟨x,hx⟩:∃x,ks[i]=x:=⟨_,rfl⟩;have hrow:=HR5.out.kept A4.out (by
      by_cases e:(Value.slice va ks.length vc).ownBlock=some bo
      ·have:=(HR5.out.lt bo e).1;have:=H3.out.2.1.lt;simp at *;omega
      ·exact .inr e)
     obtain⟨rb,ro,rc,hv,kx⟩:=sN (aj hrow) i hp hx;cases hv;have f0:wr.cell? ⟨sb,0,none⟩=some (.int .i64 M):=aq A1.out rfl;have f1:wr.cell? ⟨sb,1,none⟩=some (.map (some bo)):=aq A1.out rfl;have HTK:=ad (show ks.take (i+1)=ks.take i++[x]by rw[List.take_succ_eq_append_getElem hp,hx]);have hxw:(Lit.int .i64 x).wf=true:=intKeys_wf H3.out.2.1 underlying3 x ((HKM.out x).1 (by rw[<-hx];exact List.getElem_mem _));clear hx hrow;by_cases hdel:x<=M-8
     ·have hownr:=A2.out;go_wp2_with (at_delete;refine wpList_delete_own _ rfl _ _ 275 3 rfl 278 i6 underlying275 bJ bo (n1+1) Di rfl hownr (.int .i64 x) (.int .i64 x) rfl (Maps.keyOf_int_mk underlying3 hxw) ?_);intro w7 hown7 ht7;have B1:=ad ((ht7.grown.block sb (aA.1 A1.out).1 (by simpa using hsbo)).trans A1.out);have B2:=ad hown7;have B3:=ad (show jV DP (Di.del (.int .i64 x)) (ks.take (i+1)) (M-8)by rw[HTK.out];exact xt A3.out hdel);have B4:=ad (aF A4.out ht7.grown);clear hown7 ht7 hownr f0 f1 kx;go_wp2;exact⟨⟨i+1,_,by go_num,by omega,B1,B2,B3,B4⟩,by simp[intOf];omega⟩
     ·have B3:=ad (show jV DP Di (ks.take (i+1)) (M-8)by rw[HTK.out];exact uW A3.out hdel);go_wp2;exact⟨⟨i+1,_,by go_num,by omega,A1,A2,B3,A4⟩,by simp[intOf];omega⟩
    ·obtain rfl:i=ks.length:=by omega
     have hkeep:∀j,j<wy.heap.size->j≠sb->j≠bo->wr.heap[j]?=wy.heap[j]?:=fun j hj h1 h2=>by
      have z1:=H3.out.2.2.1.size;have z2:=H3.out.2.2.2.1.size;have z3:=HB5.out.size;rw[A4.out.block j (by omega) (by simpa using h2),HB5.out.block j (by omega),H3.out.2.2.2.1.block j (by omega) (by simpa using h1),H3.out.2.2.1.block j hj (by simpa using h2)]
     have hfin:=HTO.out.closed (w':=wr) (o:=o) (q:=q) (M:=M) (ob:=w.heap.size) (D3:=Di) hM.symm HO.out A1.out A2.out (fun j z=>by
      have h9:=A3.out;rw[List.take_length]at h9;rw[xu h9 HKM.out j z];split
      ·rfl
      ·rw[H3.out.2.2.2.2];split
       ·rename_i e;subst e;exact Maps.atKey_put_same HTO.out.s2.isMap (by trivial) _ _
       ·rename_i e;exact Maps.atKey_put_other (by simpa using e) _ _) hkeep
     have htn:ax ft1 wy wr:=⟨(A4.out.os.trans HB5.out.os).trans (H3.out.2.2.2.1.os.trans H3.out.2.2.1.os),(A4.out.tape.trans HB5.out.tape).trans (H3.out.2.2.2.1.tape.trans H3.out.2.2.1.tape),(A4.out.output.trans HB5.out.output).trans (H3.out.2.2.2.1.output.trans H3.out.2.2.1.output),Nat.le_trans H3.out.2.2.1.size (Nat.le_trans H3.out.2.2.2.1.size (Nat.le_trans HB5.out.size A4.out.size)),fun j hj hn=>hkeep j hj (fun e=>hn (by rw[e];exact HTO.out.s3)) (fun e=>hn (by rw[e];exact HTO.out.s4))⟩;have HF:=ad hfin;have HTN:=ad htn;clear hfin htn hkeep;go_wp2;go_ret;exact⟨fun j=>ft1 j\/j=w.heap.size,rfl,by have:=HF.out;first|(rw[HPS.out]at this;exact this.mono (by omega))|exact this.mono (by omega),fun j hj=>by
      rcases hj with hj|hj
      ·exact HFT.out j hj
      ·exact .inr (by omega),HTY.out.trans HTN.out (fun j hj=>HFT.out j hj)⟩
theorem kz.narrow {w:World} {x n:Nat} {f:cg} {ft:Nat->Prop} (h:kz w x f n ft):kz w x f n (fun j=>ft j/\j<w.heap.size):=by
 obtain⟨bm,D,g,h1,h2,h3,h4,h5,h6,h7⟩:=h;exact⟨bm,D,g,h1,h2,⟨h3,(aA.1 h1).1⟩,⟨h4,h2.lt⟩,h5,fun k=>⟨(h6 k).1,(h6 k).2.1,fun b hb=>⟨⟨((h6 k).2.2 b hb).1,((h6 k).1.lt b hb).2⟩,((h6 k).2.2 b hb).2⟩⟩,h7⟩
theorem eS.narrow {w:World} {t n:Nat} {S:dU} {ft:Nat->Prop} (h:eS w t S n ft):eS w t S n (fun j=>ft j/\j<w.heap.size):=by
 obtain⟨bm,D,gs,go,h1,h2,h3,h4,h5,h6,h7⟩:=h;refine⟨bm,D,gs,go,h1,h2,⟨h3,(aA.1 h1).1⟩,⟨h4,h2.lt⟩,h5,fun k hi O hk=>?_,h7⟩;obtain⟨e1,⟨D2,s1,s2,s3,s4,s5⟩,e3⟩:=h6 k hi O hk;refine⟨e1,⟨D2,s1,s2,⟨s3,(aA.1 s1).1⟩,⟨s4,s2.lt⟩,fun q=>⟨(s5 q).1,fun o ho=>?_⟩⟩,e3⟩;obtain⟨b,b1,b2,b3⟩:=(s5 q).2 o ho;exact⟨b,b1,b2,b3,(aA.1 b2).1⟩
theorem lu.Ks {w w':World} {sb x t n':Nat} {st:Stat} {ft fx fq fx':Nat->Prop} {f':cg} (h:lu w sb x t st ft fx fq) (hx:kz w' x f' n' fx') (hf:∀j,fx' j->fx j\/w.heap.size<=j) (ht:ax fx w w') :
 ∃ft' fx2,lu w' sb x t ⟨f',n',st.S,st.m,st.app⟩ ft' fx2 fq/\(∀j,ft' j->ft j\/w.heap.size<=j)/\ax ft w w':=by
 refine⟨fun j=>ft j\/(fx' j/\j<w'.heap.size),_,⟨(ht.block sb (aA.1 h.box).1 h.own.2.1).trans h.box,hx.narrow,h.tb.kept (fun j hj hq=>ht.block j hj (fun e=>(h.sx j e).2 hq)),⟨.inl h.own.1,fun e=>?_,h.own.2.2⟩,fun j hj=>⟨.inr hj,fun hq=>?_⟩,fun j hj=>.inl (h.st j hj),fun j hj=>?_⟩,fun j hj=>?_,ht.wide (fun j hj=>(h.sx j hj).1)⟩
 ·rcases hf sb e.1 with e|e
  ·exact h.own.2.1 e
  ·have:=h.lt sb h.own.1;omega
 ·rcases hf j hj.1 with e|e
  ·exact(h.sx j e).2 hq
  ·have:=h.lt j (h.st j hq);omega
 ·rcases hj with hj|hj
  ·exact Nat.lt_of_lt_of_le (h.lt j hj) ht.size
  ·exact hj.2
 ·rcases hj with hj|hj
  ·exact .inl hj
  ·rcases hf j hj.1 with e|e
   ·exact .inl (h.sx j e).1
   ·exact .inr e
theorem lu.LR {w w':World} {sb x t m':Nat} {st:Stat} {ft fx fq fq':Nat->Prop} {S':dU} (h:lu w sb x t st ft fx fq) (hx:eS w' t S' m' fq') (hf:∀j,fq' j->fq j\/w.heap.size<=j) (ht:ax fq w w') :
 ∃ft' fq2,lu w' sb x t ⟨st.f,st.n,S',m',st.app⟩ ft' fx fq2/\(∀j,ft' j->ft j\/w.heap.size<=j)/\ax ft w w':=by
 refine⟨fun j=>ft j\/(fq' j/\j<w'.heap.size),_,⟨(ht.block sb (aA.1 h.box).1 h.own.2.2).trans h.box,h.ix.kept (fun j hj hq=>ht.block j hj (fun e=>(h.sx j hq).2 e)),hx.narrow,⟨.inl h.own.1,h.own.2.1,fun e=>?_⟩,fun j hj=>⟨.inl (h.sx j hj).1,fun hq=>?_⟩,fun j hj=>.inr hj,fun j hj=>?_⟩,fun j hj=>?_,ht.wide h.st⟩
 ·rcases hf sb e.1 with e|e
  ·exact h.own.2.2 e
  ·have:=h.lt sb h.own.1;omega
 ·rcases hf j hq.1 with e|e
  ·exact(h.sx j hj).2 e
  ·have:=h.lt j (h.sx j hj).1;omega
 ·rcases hj with hj|hj
  ·exact Nat.lt_of_lt_of_le (h.lt j hj) ht.size
  ·exact hj.2
 ·rcases hj with hj|hj
  ·exact .inl hj
  ·rcases hf j hj.1 with e|e
   ·exact .inl (h.st j e)
   ·exact .inr e
theorem lu.Kf {w:World} {sb x t:Nat} {st:Stat} {ft fx fq:Nat->Prop} (h:lu w sb x t st ft fx fq) (p:Int) :
 lu (w.setCell ⟨sb,2,none⟩ (.int .i64 p)) sb x t (st.at p) ft fx fq/\ax ft w (w.setCell ⟨sb,2,none⟩ (.int .i64 p)):=by
 have hg:w.grownBy (w.setCell ⟨sb,2,none⟩ (.int .i64 p)) (some sb):=az _ _ _ _;have kp:∀j,j<w.heap.size->j≠sb->(w.setCell ⟨sb,2,none⟩ (.int .i64 p)).heap[j]?=w.heap[j]?:=fun j hj hn=>hg.block j hj (by simpa using hn);exact⟨⟨av (i:=2) h.box _,h.ix.kept fun j hj hf=>kp j hj (fun e=>h.own.2.1 (by rw[<-e];exact hf)),h.tb.kept fun j hj hf=>kp j hj (fun e=>h.own.2.2 (by rw[<-e];exact hf)),h.own,h.sx,h.st,fun j hj=>Nat.lt_of_lt_of_le (h.lt j hj) hg.size⟩,ax.cq hg h.own.1⟩
theorem Fg (w:World) :
 Calls prog 98 #[] w fun e w'=>∃sb ft,e=.returned (.pointer (some ⟨sb,0,none⟩))/\jf w' sb Stat.new ft/\(∀j,ft j->w.heap.size<=j)/\Below w.heap.size w w':=by
 have HX:=ad (rk w);have HT:=ad (fun w1=>rC w1);go_enter func98,ntmps98;go_wp2_with fail;refine HX.out.mono ?_;rintro e w1 ⟨x,rfl,hx,b1⟩;go_wp2_with fail;refine(HT.out _).mono ?_;rintro e w2 ⟨t,bm,rfl,t1,t2,t3,t4,t5,b2⟩;have b12:=b1.trans (b2.mono b1.size);have b3:=b12.alloc b12.size (.cells #[.pointer (some ⟨x,0,none⟩),.pointer (some ⟨t,0,none⟩),.int .i64 0] 120);have b23:=(ae _ w2).alloc ab (.cells #[.pointer (some ⟨x,0,none⟩),.pointer (some ⟨t,0,none⟩),.int .i64 0] 120);have hs:=heap_alloc_new w2 (.cells #[.pointer (some ⟨x,0,none⟩),.pointer (some ⟨t,0,none⟩),.int .i64 0] 120);have hT:=(CD (ft:=fun j=>j=t\/j=bm) t1 t2 (.inl rfl) (.inr rfl)).next b23;have hX:=(hx.next b2).next b23;have HF:=ad (show jf (w2.alloc (.cells #[.pointer (some ⟨x,0,none⟩),.pointer (some ⟨t,0,none⟩),.int .i64 0] 120)) w2.heap.size Stat.new (fun j=>w.heap.size<=j/\j<w2.heap.size+1)from
  ⟨x,t,_,_,hs,hX,hT,⟨⟨b12.size,by omega⟩,fun h=>by have:=h.2;have:=b2.size;omega,fun h=>by rcases h with h|h <;> omega⟩,fun j hj=>⟨⟨hj.1,by have:=hj.2;have:=b2.size;omega⟩,fun h=>by have:=hj.2;rcases h with h|h <;> omega⟩,fun j hj=>by have:=b1.size;have:=b2.size;rcases hj with h|h <;> exact⟨by omega,by omega⟩,fun j hj=>by have:=hj.2;simp;omega⟩)
 have HB:=ad b3;clear HX HT hx b1 t1 t2 t3 t4 t5 b2 b12 b3 b23 hs hT hX;go_wp2;go_ret;exact⟨_,_,rfl,HF.out,fun j hj=>hj.1,HB.out⟩
theorem we.cells {w:World} {sb x t:Nat} {app:Int} (h:we w sb x t app):w.cell? ⟨sb,0,none⟩=some (.pointer (some ⟨x,0,none⟩))/\w.cell? ⟨sb,1,none⟩=some (.pointer (some ⟨t,0,none⟩))/\w.cell? ⟨sb,2,none⟩=some (.int .i64 app):=by
 refine⟨?_,?_,?_⟩ <;> (rw[aw h];rfl)
set_option maxHeartbeats 4000000 in
set_option maxRecDepth 100000 in
theorem xN (sb:Nat) (st:Stat) (ft:Nat->Prop) (pos ep:Int) (S:ByteArray) (ex se sq:Int) (v:Value) (es:List Evt.Event) (w:World) (h:jf w sb st ft) (hS:S.size<=1000000) (hv:∀w',ax ft w w'->dp w' v es) (hn:st.n+es.length<=1000000000) :
 Calls prog 169 #[.pointer (some ⟨sb,0,none⟩),.int .i64 pos,.agg #[.string S,.int .i64 ex,.int .i64 se,.int .i64 sq,v]] w fun e w'=>∃ft',e=.returned (lV (st.kK ⟨pos,ep,⟨S.data.toList,ex,se,sq,es⟩⟩))/\jf w' sb (st.more ⟨pos,ep,⟨S.data.toList,ex,se,sq,es⟩⟩) ft'/\(∀j,ft' j->ft j\/w.heap.size<=j)/\ax ft w w':=by
 obtain⟨sa,sl,sc,rfl⟩:=ee (hv w (ax.refl _ _));have hsl:sl=es.length:=by
  rcases cC (hv w (ax.refl _ _))with⟨h,a',c'',e⟩|⟨b'',o'',c'',e⟩
  ·cases e;omega
  ·cases e;rfl
 subst hsl;obtain⟨x,t,fx,fq,hs⟩:=h;obtain⟨nl,hnl⟩:∃nl,(st.f S.data.toList).length=nl:=⟨_,rfl⟩;have hnl9:nl<=1000000000:=by
  obtain⟨bm,D,g,_,_,_,_,_,h6,_⟩:=hs.ix;have:=(h6 S.data.toList).2.1;omega
 obtain⟨W1,hW1⟩:∃W1,(w.alloc (.cells #[.string S,.int .i64 ex,.int .i64 se,.int .i64 sq,.slice sa es.length sc] 38)).alloc (.cells #[.int .i64 0,.int .i64 0,.int .i64 0,.int .i64 0] 89)=W1:=⟨_,rfl⟩;have b1:Below w.heap.size w W1:=by rw[<-hW1];exact((ae _ w).alloc ab _).alloc (by simp) _
 have hbb:rK W1 w.heap.size S ex se sq (.slice sa es.length sc):=by
  rw[<-hW1];exact(Below.heap_alloc _ _ _ (by simp)).trans (heap_alloc_new w _)
 have hzz:W1.heap[w.heap.size+1]?=some (.cells #[.int .i64 0,.int .i64 0,.int .i64 0,.int .i64 0] 89 (0,0)):=by
  rw[<-hW1];have:=heap_alloc_new (w.alloc (.cells #[.string S,.int .i64 ex,.int .i64 se,.int .i64 sq,.slice sa es.length sc] 38)) (.cells #[.int .i64 0,.int .i64 0,.int .i64 0,.int .i64 0] 89)
  rwa [World.size_alloc]at this
 have hs1:=hs.kept (fun j hj _=>b1.block j hj) b1.size;have HV:=ad (tx x st.f st.n fx S W1.drew (hs1.ix.next (ae _ W1).drew) (by omega));rw[hnl]at HV;obtain⟨k0,k1,k2⟩:=hs1.box.cells;obtain⟨q0,q1,_,_,q4⟩:=hbb.cells;have hcc:=aB k0 q0;have H:=ad (aB hs (aB hs1 (aB hbb hzz)));have HB1:=ad b1;have HVV:=ad hv;have HW1:=ad hW1;have HNL:=ad hnl;clear hs hs1 hbb hzz b1 hv hW1 k0 k1 k2 q0 hnl;by_cases hfar:ex≠-1/\ex≠(nl:Int)
 ·have f1:(ex != -1)=true:=by simpa using hfar.1
  have f2:(ex != (nl:Int))=true:=by simpa using hfar.2
  have HO:=ad (show st.kK ⟨pos,ep,⟨S.data.toList,ex,se,sq,es⟩⟩=⟨2,pos,(nl:Int),(nl:Int)⟩by
   unfold Stat.kK;rw[if_pos (by unfold Stat.jN;rw[HNL.out];exact hfar)];simp only[HNL.out])
  have HM:=ad (show st.more ⟨pos,ep,⟨S.data.toList,ex,se,sq,es⟩⟩=st by
   unfold Stat.more;rw[if_pos (by unfold Stat.jN;rw[HNL.out];exact hfar)])
  clear hfar;go_enter func169,ntmps169;go_wp2;rw[HW1.out]
  go_region_held3 (fun Z=>Z.cell? ⟨sb,0,none⟩=some (.pointer (some ⟨x,0,none⟩))/\Z.cell? ⟨w.heap.size,0,none⟩=some (.string S))
   (exact hcc)
   (first|(go_at_call 43;refine HV.out.mono ?_;rintro e w4 ⟨rfl,rfl⟩))
  have HB2:=ad (HB1.out.drew);have g1:W1.drew.cell? ⟨w.heap.size,1,none⟩=some (.int .i64 ex):=q1;have hzx:W1.drew.heap[w.heap.size+1]?=some (.cells #[.int .i64 0,.int .i64 0,.int .i64 0,.int .i64 0] 89 (0,0)):=H.out.2.2.2;obtain⟨Wd,hWd⟩:∃Wd,W1.drew=Wd:=⟨_,rfl⟩;rw[hWd]at g1 hzx HB2 ⊢;have c0:Wd.cell? ⟨w.heap.size+1,0,none⟩=some (.int .i64 0):=aq hzx rfl;have c1:Wd.cell? ⟨w.heap.size+1,1,none⟩=some (.int .i64 0):=aq hzx rfl;have c2:Wd.cell? ⟨w.heap.size+1,2,none⟩=some (.int .i64 0):=aq hzx rfl;have c3:Wd.cell? ⟨w.heap.size+1,3,none⟩=some (.int .i64 0):=aq hzx rfl;have r0:=ay hzx 0;have r1:=ay hzx 1;have r2:=ay hzx 2;have r3:=ay hzx 3;have HZX:=ad hzx;clear hzx hcc q1 q4 hWd;go_wp2;refine bodyPost_ret (results_cell_row rfl _ _ (w.heap.size+1) _ _ _ _ rfl (kJ HZX.out _ _ _ _) underlying89 rfl eN) rfl ?_;have hg:=aF (aF (aF (az Wd (w.heap.size+1) 0 (.int .i64 2)) (az _ (w.heap.size+1) 1 (.int .i64 pos))) (az _ (w.heap.size+1) 2 (.int .i64 (nl:Int)))) (az _ (w.heap.size+1) 3 (.int .i64 (nl:Int)));have hb:=dN HB2.out (by have:=HB2.out.size;exact this) (by omega) hg;exact⟨ft,by rw[HO.out];rfl,by rw[HM.out];exact⟨x,t,fx,fq,H.out.1.kept (fun j hj _=>hb.block j hj) hb.size⟩,fun j hj=>.inl hj,ax.aI hb⟩
 ·by_cases hex:ex = -1
  ·have f1:(ex != -1)=false:=by simp[hex]
   clear hex;have HO:=ad (show st.kK ⟨pos,ep,⟨S.data.toList,ex,se,sq,es⟩⟩=⟨1,pos,(nl:Int),(nl:Int)+(es.length:Int)⟩by
    unfold Stat.kK;rw[if_neg (by unfold Stat.jN;rw[HNL.out];exact hfar)];simp only[HNL.out])
   have HM:=ad (show st.more ⟨pos,ep,⟨S.data.toList,ex,se,sq,es⟩⟩=⟨gw st.f pos S.data.toList es,st.n+es.length,st.S,st.m,st.app⟩by
    unfold Stat.more;rw[if_neg (by unfold Stat.jN;rw[HNL.out];exact hfar)])
   clear hfar;have hwa:wrap64 ((nl:Int)+(es.length:Int))=(nl:Int)+(es.length:Int):=IntWalk.wrap64_in _ (by omega);have HADD:=ad (rl x st.f st.n fx pos S (.slice sa es.length sc) es W1.drew.drew ((H.out.2.1.ix.next (ae _ W1).drew).next (ae _ W1.drew).drew) (by omega) (fun w' ht=>HVV.out w' (by
    have h1:ax ft w W1.drew.drew:=ax.aI (HB1.out.drew.drew);exact h1.trans (ht.wide (fun j hj=>(H.out.1.sx j hj).1)) (fun j hj=>.inl hj))) hn)
   go_enter func169,ntmps169;go_wp2;rw[HW1.out]
   go_region_held3 (fun Z=>Z.cell? ⟨sb,0,none⟩=some (.pointer (some ⟨x,0,none⟩))/\Z.cell? ⟨w.heap.size,0,none⟩=some (.string S))
    (exact hcc)
    (first|(go_at_call 43;refine HV.out.mono ?_;rintro e w4 ⟨rfl,rfl⟩))
   have g1:W1.drew.cell? ⟨w.heap.size,1,none⟩=some (.int .i64 ex):=q1;have hcc2:W1.drew.cell? ⟨sb,0,none⟩=some (.pointer (some ⟨x,0,none⟩))/\W1.drew.cell? ⟨w.heap.size,0,none⟩=some (.string S)/\W1.drew.cell? ⟨w.heap.size,4,none⟩=some (.slice sa es.length sc):=⟨hcc.1,hcc.2,q4⟩;clear hcc q1 q4;have hnsb:¬fx sb:=H.out.1.own.2.1;have hnbx:¬fx w.heap.size:=fun e=>by have:=H.out.1.lt _ (H.out.1.sx _ e).1;omega
   go_upto_region 4 with fail;go_cut [] (fun wx=>∃fx',kz wx x (gw st.f pos S.data.toList es) (st.n+es.length) fx'/\(∀j,fx' j->fx j\/W1.heap.size<=j)/\ax fx W1 wx)
   case first =>
    go_region_held3 (fun Z=>Z.cell? ⟨sb,0,none⟩=some (.pointer (some ⟨x,0,none⟩))/\Z.cell? ⟨w.heap.size,0,none⟩=some (.string S)/\Z.cell? ⟨w.heap.size,4,none⟩=some (.slice sa es.length sc))
     (first|exact hcc2|exact⟨bd HX5.out.2.2 hnsb hcc2.1,bd HX5.out.2.2 hnbx hcc2.2.1,bd HX5.out.2.2 hnbx hcc2.2.2⟩)
     (first|(go_at_call 212;refine HADD.out.mono ?_;rintro e w5 ⟨fx',rfl,hx5,hf5,ht5⟩;have HX5:=ad (aB hx5 (aB hf5 ht5));clear hx5 hf5 ht5))
    go_wp2;go_meet;exact⟨fx',HX5.out.1,HX5.out.2.1,(ax.aI (ae _ W1).drew.drew).trans HX5.out.2.2 (fun j hj=>.inl hj)⟩
   case rest =>
    obtain⟨fx',hx5,hf5,ht5⟩:=hcut;have hbx:¬fx w.heap.size:=fun e=>by have:=H.out.1.lt _ (H.out.1.sx _ e).1;omega
    have hbx1:¬fx (w.heap.size+1):=fun e=>by have:=H.out.1.lt _ (H.out.1.sx _ e).1;omega
    have hsz:=(aA.1 H.out.2.2.2).1;have hzx:=(ht5.block (w.heap.size+1) hsz hbx1).trans H.out.2.2.2;have hbb:=(ht5.block w.heap.size (by omega) hbx).trans H.out.2.2.1;have g4:wc.cell? ⟨w.heap.size,4,none⟩=some (.slice sa es.length sc):=aq hbb rfl;have HZX:=ad hzx;have c0:wc.cell? ⟨w.heap.size+1,0,none⟩=some (.int .i64 0):=aq hzx rfl;have c1:wc.cell? ⟨w.heap.size+1,1,none⟩=some (.int .i64 0):=aq hzx rfl;have c2:wc.cell? ⟨w.heap.size+1,2,none⟩=some (.int .i64 0):=aq hzx rfl;have c3:wc.cell? ⟨w.heap.size+1,3,none⟩=some (.int .i64 0):=aq hzx rfl;have r0:=ay hzx 0;have r1:=ay hzx 1;have r2:=ay hzx 2;have r3:=ay hzx 3;have HX5:=ad (aB hx5 (aB hf5 (aB ht5 hsz)));clear hx5 hf5 ht5 hbx hbx1 hsz hzx hbb HADD HV;go_wp2;refine bodyPost_ret (results_cell_row rfl _ _ (w.heap.size+1) _ _ _ _ rfl (kJ HZX.out _ _ _ _) underlying89 rfl eN) rfl ?_;have hg:=aF (aF (aF (az wc (w.heap.size+1) 0 (.int .i64 1)) (az _ (w.heap.size+1) 1 (.int .i64 pos))) (az _ (w.heap.size+1) 2 (.int .i64 (nl:Int)))) (az _ (w.heap.size+1) 3 (.int .i64 ((nl:Int)+(es.length:Int))));obtain⟨ft',fx2,s1,s2,s3⟩:=H.out.2.1.Ks HX5.out.1 HX5.out.2.1 HX5.out.2.2.1;have hlt1:∀j,ft j->j<w.heap.size:=H.out.1.lt;have hnf:¬ft' (w.heap.size+1):=fun e=>by
     rcases s2 _ e with e|e
     ·have:=hlt1 _ e;omega
     ·have:=HX5.out.2.2.2;omega
    refine⟨ft',by rw[HO.out];rfl,by rw[HM.out];exact⟨x,t,fx2,fq,s1.kept (fun j hj hf=>hg.block j hj (by intro e;cases e;exact hnf hf)) hg.size⟩,fun j hj=>?_,?_⟩
    ·rcases s2 j hj with e|e
     ·exact .inl e
     ·have:=HB1.out.size;exact .inr (by omega)
    ·exact((ax.aI HB1.out).trans s3 (fun j hj=>.inl hj)).trans (ax.cq (ft:=fun j=>j=w.heap.size+1) hg rfl) (fun j hj=>.inr (by omega))
  ·have hex2:ex=(nl:Int):=Classical.byContradiction fun e=>hfar ⟨hex,e⟩;have f1:(ex != -1)=true:=by simpa using hex
   have f2:(ex != (nl:Int))=false:=by simpa using hex2
   clear hex hex2;have HO:=ad (show st.kK ⟨pos,ep,⟨S.data.toList,ex,se,sq,es⟩⟩=⟨1,pos,(nl:Int),(nl:Int)+(es.length:Int)⟩by
    unfold Stat.kK;rw[if_neg (by unfold Stat.jN;rw[HNL.out];exact hfar)];simp only[HNL.out])
   have HM:=ad (show st.more ⟨pos,ep,⟨S.data.toList,ex,se,sq,es⟩⟩=⟨gw st.f pos S.data.toList es,st.n+es.length,st.S,st.m,st.app⟩by
    unfold Stat.more;rw[if_neg (by unfold Stat.jN;rw[HNL.out];exact hfar)])
   clear hfar;have hwa:wrap64 ((nl:Int)+(es.length:Int))=(nl:Int)+(es.length:Int):=IntWalk.wrap64_in _ (by omega);have HADD:=ad (rl x st.f st.n fx pos S (.slice sa es.length sc) es W1.drew.drew ((H.out.2.1.ix.next (ae _ W1).drew).next (ae _ W1.drew).drew) (by omega) (fun w' ht=>HVV.out w' (by
    have h1:ax ft w W1.drew.drew:=ax.aI (HB1.out.drew.drew);exact h1.trans (ht.wide (fun j hj=>(H.out.1.sx j hj).1)) (fun j hj=>.inl hj))) hn)
   go_enter func169,ntmps169;go_wp2;rw[HW1.out]
   go_region_held3 (fun Z=>Z.cell? ⟨sb,0,none⟩=some (.pointer (some ⟨x,0,none⟩))/\Z.cell? ⟨w.heap.size,0,none⟩=some (.string S))
    (exact hcc)
    (first|(go_at_call 43;refine HV.out.mono ?_;rintro e w4 ⟨rfl,rfl⟩))
   have g1:W1.drew.cell? ⟨w.heap.size,1,none⟩=some (.int .i64 ex):=q1;have hcc2:W1.drew.cell? ⟨sb,0,none⟩=some (.pointer (some ⟨x,0,none⟩))/\W1.drew.cell? ⟨w.heap.size,0,none⟩=some (.string S)/\W1.drew.cell? ⟨w.heap.size,4,none⟩=some (.slice sa es.length sc):=⟨hcc.1,hcc.2,q4⟩;clear hcc q1 q4;have hnsb:¬fx sb:=H.out.1.own.2.1;have hnbx:¬fx w.heap.size:=fun e=>by have:=H.out.1.lt _ (H.out.1.sx _ e).1;omega
   go_upto_region 4 with fail;go_cut [] (fun wx=>∃fx',kz wx x (gw st.f pos S.data.toList es) (st.n+es.length) fx'/\(∀j,fx' j->fx j\/W1.heap.size<=j)/\ax fx W1 wx)
   case first =>
    go_region_held3 (fun Z=>Z.cell? ⟨sb,0,none⟩=some (.pointer (some ⟨x,0,none⟩))/\Z.cell? ⟨w.heap.size,0,none⟩=some (.string S)/\Z.cell? ⟨w.heap.size,4,none⟩=some (.slice sa es.length sc))
     (first|exact hcc2|exact⟨bd HX5.out.2.2 hnsb hcc2.1,bd HX5.out.2.2 hnbx hcc2.2.1,bd HX5.out.2.2 hnbx hcc2.2.2⟩)
     (first|(go_at_call 212;refine HADD.out.mono ?_;rintro e w5 ⟨fx',rfl,hx5,hf5,ht5⟩;have HX5:=ad (aB hx5 (aB hf5 ht5));clear hx5 hf5 ht5))
    go_wp2;go_meet;exact⟨fx',HX5.out.1,HX5.out.2.1,(ax.aI (ae _ W1).drew.drew).trans HX5.out.2.2 (fun j hj=>.inl hj)⟩
   case rest =>
    obtain⟨fx',hx5,hf5,ht5⟩:=hcut;have hbx:¬fx w.heap.size:=fun e=>by have:=H.out.1.lt _ (H.out.1.sx _ e).1;omega
    have hbx1:¬fx (w.heap.size+1):=fun e=>by have:=H.out.1.lt _ (H.out.1.sx _ e).1;omega
    have hsz:=(aA.1 H.out.2.2.2).1;have hzx:=(ht5.block (w.heap.size+1) hsz hbx1).trans H.out.2.2.2;have hbb:=(ht5.block w.heap.size (by omega) hbx).trans H.out.2.2.1;have g4:wc.cell? ⟨w.heap.size,4,none⟩=some (.slice sa es.length sc):=aq hbb rfl;have HZX:=ad hzx;have c0:wc.cell? ⟨w.heap.size+1,0,none⟩=some (.int .i64 0):=aq hzx rfl;have c1:wc.cell? ⟨w.heap.size+1,1,none⟩=some (.int .i64 0):=aq hzx rfl;have c2:wc.cell? ⟨w.heap.size+1,2,none⟩=some (.int .i64 0):=aq hzx rfl;have c3:wc.cell? ⟨w.heap.size+1,3,none⟩=some (.int .i64 0):=aq hzx rfl;have r0:=ay hzx 0;have r1:=ay hzx 1;have r2:=ay hzx 2;have r3:=ay hzx 3;have HX5:=ad (aB hx5 (aB hf5 (aB ht5 hsz)));clear hx5 hf5 ht5 hbx hbx1 hsz hzx hbb HADD HV;go_wp2;refine bodyPost_ret (results_cell_row rfl _ _ (w.heap.size+1) _ _ _ _ rfl (kJ HZX.out _ _ _ _) underlying89 rfl eN) rfl ?_;have hg:=aF (aF (aF (az wc (w.heap.size+1) 0 (.int .i64 1)) (az _ (w.heap.size+1) 1 (.int .i64 pos))) (az _ (w.heap.size+1) 2 (.int .i64 (nl:Int)))) (az _ (w.heap.size+1) 3 (.int .i64 ((nl:Int)+(es.length:Int))));obtain⟨ft',fx2,s1,s2,s3⟩:=H.out.2.1.Ks HX5.out.1 HX5.out.2.1 HX5.out.2.2.1;have hlt1:∀j,ft j->j<w.heap.size:=H.out.1.lt;have hnf:¬ft' (w.heap.size+1):=fun e=>by
     rcases s2 _ e with e|e
     ·have:=hlt1 _ e;omega
     ·have:=HX5.out.2.2.2;omega
    refine⟨ft',by rw[HO.out];rfl,by rw[HM.out];exact⟨x,t,fx2,fq,s1.kept (fun j hj hf=>hg.block j hj (by intro e;cases e;exact hnf hf)) hg.size⟩,fun j hj=>?_,?_⟩
    ·rcases s2 j hj with e|e
     ·exact .inl e
     ·have:=HB1.out.size;exact .inr (by omega)
    ·exact((ax.aI HB1.out).trans s3 (fun j hj=>.inl hj)).trans (ax.cq (ft:=fun j=>j=w.heap.size+1) hg rfl) (fun j hj=>.inr (by omega))
theorem cX.cells {w:World} {b:Nat} {o:cI} (h:cX w b o):w.cell? ⟨b,0,none⟩=some (.int .i64 o.code)/\w.cell? ⟨b,1,none⟩=some (.int .i64 o.pos)/\w.cell? ⟨b,2,none⟩=some (.int .i64 o.first)/\w.cell? ⟨b,3,none⟩=some (.int .i64 o.version):=by
 refine⟨?_,?_,?_,?_⟩ <;> (rw[aw h];rfl)
theorem iH {b:Nat} {o:cI} {w:World} (h:cX w b o) (v0 v1 v2 v3:Value) :
 ((((w.setCell ⟨b,0,none⟩ v0).setCell ⟨b,1,none⟩ v1).setCell ⟨b,2,none⟩ v2).setCell ⟨b,3,none⟩ v3).heap[b]?=some (.cells #[v0,v1,v2,v3] 89 (0,0)):=kJ h v0 v1 v2 v3
theorem dG (w:World) (b:Nat) (v0 v1 v2 v3:Value):w.grownBy ((((w.setCell ⟨b,0,none⟩ v0).setCell ⟨b,1,none⟩ v1).setCell ⟨b,2,none⟩ v2).setCell ⟨b,3,none⟩ v3) (some b) :=
 aF (aF (aF (az w b 0 v0) (az _ b 1 v1)) (az _ b 2 v2)) (az _ b 3 v3)
theorem Jl (st:Stat) (p:Int) (e:Evt.Entry):(st.at p).kK e=st.kK e:=rfl
theorem Js (st:Stat) (p:Int) (e:Evt.Entry):(st.at p).more e=(st.more e).at p:=by
 unfold Stat.more;by_cases h:st.jN e
 ·rw[if_pos h,if_pos (show(st.at p).jN e from h)]
 ·rw[if_neg h,if_neg (show ¬(st.at p).jN e from h)];rfl
set_option maxHeartbeats 8000000 in
set_option maxRecDepth 100000 in
theorem AZ (sb:Nat) (st:Stat) (ft:Nat->Prop) (pos ep:Int) (S:ByteArray) (ex se sq:Int) (v:Value) (es:List Evt.Event) (w:World) (h:jf w sb st ft) (hE:Env w) (hok:st.Ok) (hS:S.size<=1000000) (hv:∀w',ax ft w w'->dp w' v es) (hn:es.length<=1000000) (hx:Small es) (happ:st.app<=400000) :
 Calls prog 111 #[.pointer (some ⟨sb,0,none⟩),.agg #[.int .i64 pos,.int .i64 ep,.string S,.int .i64 ex,.int .i64 se,.int .i64 sq,v]] w fun e w'=>∃ft',e=.returned (.tuple #[lV (st.apply ⟨pos,ep,⟨S.data.toList,ex,se,sq,es⟩⟩).1.1,.int .i64 ((st.apply ⟨pos,ep,⟨S.data.toList,ex,se,sq,es⟩⟩).1.2:Nat)])/\jf w' sb (st.apply ⟨pos,ep,⟨S.data.toList,ex,se,sq,es⟩⟩).2 ft'/\(∀j,ft' j->ft j\/w.heap.size<=j)/\ax ft w w':=by
 obtain⟨sa,sl,sc,rfl⟩:=ee (hv w (ax.refl _ _));have hsl:sl=es.length:=by
  rcases cC (hv w (ax.refl _ _))with⟨h,a',c'',e⟩|⟨b'',o'',c'',e⟩
  ·cases e;omega
  ·cases e;rfl
 subst hsl;obtain⟨E,hEe⟩:∃E:Evt.Entry,E=⟨pos,ep,⟨S.data.toList,ex,se,sq,es⟩⟩:=⟨_,rfl⟩;rw[<-hEe];obtain⟨W1,hW1⟩:∃W1,(w.alloc (.cells #[.int .i64 pos,.int .i64 ep,.string S,.int .i64 ex,.int .i64 se,.int .i64 sq,.slice sa es.length sc] 95)).alloc (.cells #[.int .i64 0,.int .i64 0,.int .i64 0,.int .i64 0] 89)=W1:=⟨_,rfl⟩;have b1:Below w.heap.size w W1:=by rw[<-hW1];exact((ae _ w).alloc ab _).alloc (by simp) _
 have heb:bG W1 w.heap.size pos ep S ex se sq (.slice sa es.length sc):=by
  rw[<-hW1];exact(Below.heap_alloc _ _ _ (by simp)).trans (heap_alloc_new w _)
 have hzz:cX W1 (w.heap.size+1) ⟨0,0,0,0⟩:=by
  rw[<-hW1];have:=heap_alloc_new (w.alloc (.cells #[.int .i64 pos,.int .i64 ep,.string S,.int .i64 ex,.int .i64 se,.int .i64 sq,.slice sa es.length sc] 95)) (.cells #[.int .i64 0,.int .i64 0,.int .i64 0,.int .i64 0] 89)
  rwa [World.size_alloc]at this
 have hslt:=h.lt;obtain⟨q0,q1,q2,q3,q4,q5,q6⟩:=heb.cells;obtain⟨F,hF⟩:∃F,Evt.bC E=F:=⟨_,rfl⟩;have HRT:=ji pos ep S ex se sq (.slice sa es.length sc) es W1 (hE.next b1) hS (Cells.next (hv w (ax.refl _ _)) b1) hn hx;rw[<-hEe,hF]at HRT;have HRT:=ad HRT;have H:=ad (aB h (aB b1 (aB heb hzz)));have HV:=ad hv;have HW1:=ad hW1;have HEE:=ad hEe;clear h b1 heb hzz hW1 hv hE hEe;cases F with
 |false =>
  have HA:=ad (show st.apply E=((⟨0,0,0,0⟩,1),st)by unfold Stat.apply;rw[if_pos hF]);clear hF;go_enter func111,ntmps111;go_wp2_with fail;rw[HW1.out];refine HRT.out.mono ?_;rintro e w2 ⟨rfl,b2⟩;have HB2:=ad b2;have hz:cX w2 (w.heap.size+1) ⟨0,0,0,0⟩:=(b2.block _ (aA.1 H.out.2.2.2).1).trans H.out.2.2.2;obtain⟨c0,c1,c2,c3⟩:=hz.cells;have r0:=ay hz 0;have r1:=ay hz 1;have r2:=ay hz 2;have r3:=ay hz 3;have HZ2:=ad hz;clear b2 HRT q0 q1 q2 q3 q4 q5 q6 hz;go_wp2;refine bodyPost_ret (aO rfl _ _ (w.heap.size+1) _ _ _ _ rfl (iH HZ2.out _ _ _ _) underlying89 rfl eN) rfl ?_;have hb:=dN (H.out.2.1.trans (HB2.out.mono H.out.2.1.size)) (by have:=H.out.2.1.size;have:=HB2.out.size;omega) (by omega) (dG w2 (w.heap.size+1) (.int .i64 0) (.int .i64 0) (.int .i64 0) (.int .i64 0));exact⟨ft,by rw[HA.out];rfl,by rw[HA.out];exact H.out.1.next hb,fun j hj=>.inl hj,ax.aI hb⟩
 |true =>
  have hrp:=nO hF;rw[HEE.out]at hrp;have hpb:1<=pos/\pos<=274877906944:=⟨hrp.1,hrp.2.1⟩;have hseb:1<=se/\se<=274877906944:=⟨hrp.2.2.2.2.1,hrp.2.2.2.2.2.1⟩;have hsqb:1<=sq/\sq<=274877906944:=⟨hrp.2.2.2.2.2.2.1,hrp.2.2.2.2.2.2.2.1⟩;have he8:es.length<=8:=hrp.2.2.2.2.2.2.2.2;have ha0:=hok.a;have hw1:IntKind.i64.wrap (st.app+1)=st.app+1:=by rw[IntKind.wrap_i64];omega
  clear hrp;by_cases hgap:pos=st.app+1
  ·have hnb:(pos != st.app+1)=false:=by simp[hgap]
   have HGAP:=ad hgap;clear hgap;go_enter func111,ntmps111;go_wp2_with fail;rw[HW1.out];refine HRT.out.mono ?_;rintro e w2 ⟨rfl,b2⟩;have q0:=cell_kept b2 ab q0;have k2:=(H.out.1.next (H.out.2.1.trans (b2.mono H.out.2.1.size))).app;have H2:=ad (aB (H.out.1.next (H.out.2.1.trans (b2.mono H.out.2.1.size))) (aB (H.out.2.2.1.next b2) (aB ((b2.block _ (aA.1 H.out.2.2.2).1).trans H.out.2.2.2) (H.out.2.1.trans (b2.mono H.out.2.1.size)))));clear HRT b2 q1 q2 q3 q4 q5 q6;go_upto_region 3 with fail;go_cut [13] (fun bv wx=>bv=.bool false/\Hid (Below w2.heap.size w2 wx))
   case first =>
    go_wp2;go_quiet (fail);go_wp2;go_meet;exact⟨rfl,ad (below_drewN (ae _ _) _)⟩
   case rest =>
    obtain⟨rfl,HB⟩:=hcut;have hs3:=H2.out.1.next HB.out;obtain⟨x3,t3,fx3,fq3,hst3⟩:=hs3;obtain⟨k0,k1,k2'⟩:=hst3.box.cells;have kf:=ay hst3.box 2;have q0:=cell_kept HB.out ab q0;have heb3:=H2.out.2.1.next HB.out;have hz3:cX wc (w.heap.size+1) ⟨0,0,0,0⟩:=(HB.out.block _ (aA.1 H2.out.2.2.1).1).trans H2.out.2.2.1;have hb3:=H2.out.2.2.2.trans (HB.out.mono H2.out.2.2.2.size);obtain⟨W4,hW4⟩:∃W4,wc.setCell ⟨sb,2,none⟩ (.int .i64 pos)=W4:=⟨_,rfl⟩;have hst4:=hst3.Kf pos;rw[hW4]at hst4;have hT4:ax ft w W4:=(ax.aI hb3).trans hst4.2 (fun j hj=>.inl hj);have hsb:sb<w.heap.size:=hslt sb hst3.own.1;have hkeep4:∀j,j≠sb->j<wc.heap.size->W4.heap[j]?=wc.heap[j]?:=fun j hj hl=>by
     rw[<-hW4];exact(az wc sb 2 (.int .i64 pos)).block j hl (by simpa using hj)
    have heb4:bG W4 w.heap.size pos ep S ex se sq (.slice sa es.length sc):=(hkeep4 _ (by omega) (aA.1 heb3).1).trans heb3;have hz4:cX W4 (w.heap.size+1) ⟨0,0,0,0⟩:=(hkeep4 _ (by omega) (aA.1 hz3).1).trans hz3;obtain⟨⟨⟨oc,op,of,ov⟩,cd⟩,hlk⟩:∃p,bR st.S se sq=p:=⟨_,rfl⟩;have hLK:=fun W (hb:Below W4.heap.size W4 W)=>lZ t3 st.S st.m fq3 se sq W (hst4.1.tb.next hb) (oz (by omega) (by omega)) (oz (by omega) (by omega)) (fun hi O e=>by have:=hok.s se hi O e;omega);rw[hlk]at hLK;have hLK:∀W,Below W4.heap.size W4 W->Calls prog 104 #[.pointer (some ⟨t3,0,none⟩),.int .i64 se,.int .i64 sq] W (fun e w'=>e=.returned (.tuple #[.agg #[.int .i64 oc,.int .i64 op,.int .i64 of,.int .i64 ov],.int .i64 cd])/\Below W.heap.size W w'):=hLK;have HLK:=ad hLK;have H4:=ad (aB hst4.1 (aB hT4 (aB heb4 (aB hz4 (show w.heap.size+2<=W4.heap.size from by
     have:=(aA.1 hz4).1;omega)))))
    obtain⟨p0,p1,p2,p3,p4,p5,p6⟩:=heb4.cells;obtain⟨m0,m1,m2⟩:=hst4.1.box.cells;have HLKE:=ad hlk;have HW4:=ad hW4;have HKS:=ad (show ∀Z,Below W4.heap.size W4 Z->Z.cell? ⟨sb,1,none⟩=some (.pointer (some ⟨t3,0,none⟩))/\Z.cell? ⟨w.heap.size,4,none⟩=some (.int .i64 se)/\Z.cell? ⟨w.heap.size,5,none⟩=some (.int .i64 sq)from fun Z hb=>⟨cell_kept hb ab m1,cell_kept hb ab p4,cell_kept hb ab p5⟩);clear hst3 hst4 hT4 hsb hkeep4 heb4 hz4 hLK hlk heb3 hz3 hb3 p0 p1 p2 p3 p6 m0 m2 k2 hW4 m1 p4 p5 H2 HB;go_upto_region 6 with fail;rw[HW4.out];go_cut [6,7] (fun pv cv wx=>∃b6,pv=.pointer (some ⟨b6,0,none⟩)/\cv=.int .i64 cd/\Hid (cX wx b6 ⟨oc,op,of,ov⟩/\W4.heap.size<=b6/\Below W4.heap.size W4 wx))
    case first =>
     go_region_held3 (fun Z=>Z.cell? ⟨sb,1,none⟩=some (.pointer (some ⟨t3,0,none⟩))/\Z.cell? ⟨w.heap.size,4,none⟩=some (.int .i64 se)/\Z.cell? ⟨w.heap.size,5,none⟩=some (.int .i64 sq))
      ((refine HKS.out _ ?_; first
        | with_reducible exact ae _ W4
        | with_reducible exact (ae _ W4).drew
        | with_reducible exact HB5.out
        | with_reducible exact HB5.out.alloc HB5.out.size _
        | with_reducible exact ((ae _ W4).alloc ab _).drew
        | with_reducible exact (ae _ W4).drew.alloc ab _
        | with_reducible exact (ae _ W4).alloc ab _
        | with_reducible exact di (di (di (di HB5.out ab ab 0 _) ab ab 1 _) ab ab 2 _) ab ab 3 _))
      (first
       |(go_at_call 104;refine(HLK.out _ (ae _ W4).drew).mono ?_;rintro e w5 ⟨rfl,b5⟩;have HB5:=ad (show Below W4.heap.size W4 w5 from((ae _ W4).drew).trans b5);clear b5)
       |(go_at_call 104;refine(HLK.out _ ((ae _ W4).alloc ab (.cells #[.int .i64 0,.int .i64 0,.int .i64 0,.int .i64 0] 89)).drew).mono ?_;rintro e w5 ⟨rfl,b5⟩;have HB5:=ad (show Below W4.heap.size W4 w5 from(((ae _ W4).alloc ab (.cells #[.int .i64 0,.int .i64 0,.int .i64 0,.int .i64 0] 89)).drew).trans ((show Below (W4.alloc (.cells #[.int .i64 0,.int .i64 0,.int .i64 0,.int .i64 0] 89)).heap.size (W4.alloc (.cells #[.int .i64 0,.int .i64 0,.int .i64 0,.int .i64 0] 89)).drew w5 from b5).mono (by rw[World.size_alloc];omega)));have hzq:cX w5 W4.heap.size ⟨0,0,0,0⟩:=(b5.block W4.heap.size (by simp)).trans (heap_alloc_new W4 _);have g0:=hzq.cells.1;have g1:=hzq.cells.2.1;have g2:=hzq.cells.2.2.1;have g3:=hzq.cells.2.2.2;have r0:=ay hzq 0;have r1:=ay hzq 1;have r2:=ay hzq 2;have r3:=ay hzq 3;have HZQ:=ad hzq;clear b5 hzq))
     all_goals go_wp2
     all_goals go_meet
     all_goals first
      |exact⟨_,rfl,rfl,ad ⟨heap_alloc_new w5 _,HB5.out.size,HB5.out.alloc HB5.out.size _⟩⟩
      |exact⟨_,rfl,rfl,ad ⟨iH HZQ.out _ _ _ _,ab,di (di (di (di HB5.out ab ab 0 _) ab ab 1 _) ab ab 2 _) ab ab 3 _⟩⟩
    case rest =>
     obtain⟨b6,rfl,rfl,HQ6⟩:=hcut;obtain⟨g0,g1,g2,g3⟩:=HQ6.out.1.cells;have heb6:=H4.out.2.2.1.next HQ6.out.2.2;have hz6:cX wc (w.heap.size+1) ⟨0,0,0,0⟩:=(HQ6.out.2.2.block _ (aA.1 H4.out.2.2.2.1).1).trans H4.out.2.2.2.1;have hst6:=H4.out.1.kept (fun j hj _=>HQ6.out.2.2.block j hj) HQ6.out.2.2.size;have hT6:ax ft w wc:=H4.out.2.1.trans (ax.aI HQ6.out.2.2:ax ft W4 wc) (fun j hj=>.inl hj);have hsz6:=HQ6.out.2.2.size;have hb6:=HQ6.out.2.1;have hw2:=H4.out.2.2.2.2;have hl6:b6<wc.heap.size:=(aA.1 HQ6.out.1).1;have hcd:=DT st.S se sq;rw[HLKE.out]at hcd;have hcd:cd=0\/cd=1\/cd=2:=hcd;have HAP:=ad (show st.apply E=(if cd=1 then ((⟨oc,op,of,ov⟩,0),st.at pos) else if cd=2 then ((⟨3,pos,0,0⟩,0),st.at pos) else (((st.kK E),0),((st.more E).at pos).put se sq (st.kK E)))by
      unfold Stat.apply;rw[if_neg (by rw[hF];simp),if_neg (by rw[HEE.out];simp only;have:=HGAP.out;omega)];have e1:bR st.S E.b.br E.b.seq=(⟨oc,op,of,ov⟩,cd):=by rw[HEE.out];exact HLKE.out
      have e2:E.pos=pos:=by rw[HEE.out]
      have e3:E.b.br=se:=by rw[HEE.out]
      have e4:E.b.seq=sq:=by rw[HEE.out]
      rw[e1,e2,e3,e4])
     have H6:=ad (aB hst6 (aB hT6 (aB heb6 hz6)));have HF:=ad hF;clear hF HKS HLK HW4;rcases hcd with rfl|rfl|rfl
     ·have hvx:∀w',ax ft wc w'->dp w' (.slice sa es.length sc) es:=fun w' ht=>HV.out w' (hT6.trans ht (fun j hj=>.inl hj));have hn6:(st.at pos).n+es.length<=1000000000:=by
       have h1:=hok.n;have h2:(st.at pos).n=st.n:=rfl;omega
      have hOC:=xN sb (st.at pos) ft pos ep S ex se sq (.slice sa es.length sc) es wc ⟨x3,t3,fx3,fq3,hst6⟩ hS hvx hn6;rw[<-HEE.out,Jl,Js]at hOC;obtain⟨⟨vc,vp,vf,vv⟩,hVO⟩:∃o,st.kK E=o:=⟨_,rfl⟩;rw[hVO]at hOC HAP;have hOC:Calls prog 169 #[.pointer (some ⟨sb,0,none⟩),.int .i64 pos,.agg #[.string S,.int .i64 ex,.int .i64 se,.int .i64 sq,.slice sa es.length sc]] wc (fun e w'=>∃ft',e=.returned (.agg #[.int .i64 vc,.int .i64 vp,.int .i64 vf,.int .i64 vv])/\jf w' sb ((st.more E).at pos) ft'/\(∀j,ft' j->ft j\/wc.heap.size<=j)/\ax ft wc w'):=hOC;have HOC:=ad hOC;obtain⟨p0,p1,p2,p3,p4,p5,p6⟩:=heb6.cells;have hl1:w.heap.size+1<wc.heap.size:=(aA.1 hz6).1;clear hOC hvx hn6 heb6 hz6 hst6 hT6 hVO p1;go_wp2_with fail;refine HOC.out.mono ?_;rintro e w7 ⟨ft1,rfl,hs7,hf7,ht7⟩;have hnf:∀j,w.heap.size<=j->¬ft j:=fun j hj hf=>by have:=hslt j hf;omega
      have hb7:cX w7 b6 ⟨oc,op,of,ov⟩:=(ht7.block b6 hl6 (hnf b6 (by omega))).trans HQ6.out.1;have he7:bG w7 w.heap.size pos ep S ex se sq (.slice sa es.length sc):=(ht7.block _ (by omega) (hnf _ ab)).trans H6.out.2.2.1;have hz7:cX w7 (w.heap.size+1) ⟨0,0,0,0⟩:=(ht7.block _ hl1 (hnf _ (by omega))).trans H6.out.2.2.2;have hT7:ax ft w w7:=H6.out.2.1.trans ht7 (fun j hj=>.inl hj);obtain⟨g0,g1,g2,g3⟩:=hb7.cells;have r0:=ay hb7 0;have r1:=ay hb7 1;have r2:=ay hb7 2;have r3:=ay hb7 3;obtain⟨W8,hW8⟩:∃W8,(((w7.setCell ⟨b6,0,none⟩ (.int .i64 vc)).setCell ⟨b6,1,none⟩ (.int .i64 vp)).setCell ⟨b6,2,none⟩ (.int .i64 vf)).setCell ⟨b6,3,none⟩ (.int .i64 vv)=W8:=⟨_,rfl⟩;have hg8:=dG w7 b6 (.int .i64 vc) (.int .i64 vp) (.int .i64 vf) (.int .i64 vv);have hb8:cX W8 b6 ⟨vc,vp,vf,vv⟩:=by rw[<-hW8];exact iH hb7 _ _ _ _
      rw[hW8]at hg8;have hnb1:¬ft1 b6:=fun e=>by
       rcases hf7 b6 e with h|h
       ·exact hnf b6 (by omega) h
       ·omega
      have hn10:¬ft1 w.heap.size:=fun e=>by
       rcases hf7 _ e with h|h
       ·exact hnf _ ab h
       ·omega
      have hn11:¬ft1 (w.heap.size+1):=fun e=>by
       rcases hf7 _ e with h|h
       ·exact hnf _ (by omega) h
       ·omega
      have hs8:jf W8 sb ((st.more E).at pos) ft1:=hs7.other (f2:=fun j=>j=b6) (ax.cq hg8 rfl) (fun j hj e=>hnb1 (e▸hj));have he8':bG W8 w.heap.size pos ep S ex se sq (.slice sa es.length sc):=(hg8.block _ (by have:=ht7.size;omega) (by simp;omega)).trans he7;have hz8:cX W8 (w.heap.size+1) ⟨0,0,0,0⟩:=(hg8.block _ (by have:=ht7.size;omega) (by simp;omega)).trans hz7;obtain⟨x8,t8,fx8,fq8,hst8⟩:=hs8;obtain⟨k80,k81,k82⟩:=hst8.box.cells;obtain⟨z0,z1,z2,z3,z4,z5,z6⟩:=he8'.cells;obtain⟨y0,y1,y2,y3⟩:=hb8.cells;have hcc:=aB k81 (aB z4 (aB z5 (aB y0 (aB y1 (aB y2 y3)))));have hmS:((st.more E).at pos).S=st.S/\((st.more E).at pos).m=st.m:=by
       have h1:((st.more E).at pos).S=(st.more E).S:=rfl;have h2:((st.more E).at pos).m=(st.more E).m:=rfl;rw[h1,h2];unfold Stat.more;split
       ·exact⟨rfl,rfl⟩
       ·exact⟨rfl,rfl⟩
      have hm2:=hok.m;have hPU:=vP t8 ((st.more E).at pos).S ((st.more E).at pos).m fq8 se sq ⟨vc,vp,vf,vv⟩ W8.drew (hst8.tb.next (ae _ W8).drew) hseb hsqb (by rw[hmS.1];exact hok.s) (by rw[hmS.1,HLKE.out]) (by rw[hmS.2];omega);have hPU:Calls prog 170 #[.pointer (some ⟨t8,0,none⟩),.int .i64 se,.int .i64 sq,.agg #[.int .i64 vc,.int .i64 vp,.int .i64 vf,.int .i64 vv]] W8.drew (fun e w'=>∃ft',e=.returned (.int .i64 0)/\eS w' t8 (jY ((st.more E).at pos).S se sq ⟨vc,vp,vf,vv⟩) (((st.more E).at pos).m+2) ft'/\(∀j,ft' j->fq8 j\/W8.heap.size<=j)/\ax fq8 W8.drew w'):=hPU;have HPU:=ad hPU;have hq1:¬fq8 sb:=hst8.own.2.2;have hq2:¬fq8 w.heap.size:=fun e=>hn10 (hst8.st _ e);have hq3:¬fq8 b6:=fun e=>hnb1 (hst8.st _ e);have hq4:¬fq8 (w.heap.size+1):=fun e=>hn11 (hst8.st _ e);have H8:=ad (aB hst8 (aB hb8 (aB hz8 (aB hT7 (aB hg8 (aB hf7 (show W8.heap.size=w7.heap.size by rw[<-hW8];simp[World.setCell])))))));have HW8:=ad hW8;have HN11:=ad (aB hn11 (aB hb6 (show w.heap.size+2<=W8.heap.size by have:=ht7.size;have:=hg8.size;omega)));clear HOC hs7 ht7 hf7 hb7 he7 hz7 hT7 hg8 hW8 hb8 hnb1 hn10 hn11 he8' hz8 hst8 hmS hPU k80 k82 z0 z1 z2 z3 z6 k81 z4 z5 y0 y1 y2 y3 hnf;go_upto_region 13 with fail;rw[HW8.out];go_cut [] (fun wx=>Hid (∃fq9,eS wx t8 (jY ((st.more E).at pos).S se sq ⟨vc,vp,vf,vv⟩) (((st.more E).at pos).m+2) fq9/\(∀j,fq9 j->fq8 j\/W8.heap.size<=j)/\ax fq8 W8 wx))
      case first =>
       go_region_held3 (fun Z=>Z.cell? ⟨sb,1,none⟩=some (.pointer (some ⟨t8,0,none⟩))/\Z.cell? ⟨w.heap.size,4,none⟩=some (.int .i64 se)/\Z.cell? ⟨w.heap.size,5,none⟩=some (.int .i64 sq)/\Z.cell? ⟨b6,0,none⟩=some (.int .i64 vc)/\Z.cell? ⟨b6,1,none⟩=some (.int .i64 vp)/\Z.cell? ⟨b6,2,none⟩=some (.int .i64 vf)/\Z.cell? ⟨b6,3,none⟩=some (.int .i64 vv))
        (first|exact hcc|exact⟨bd HP9.out.2.2 hq1 hcc.1,bd HP9.out.2.2 hq2 hcc.2.1,bd HP9.out.2.2 hq2 hcc.2.2.1,bd HP9.out.2.2 hq3 hcc.2.2.2.1,bd HP9.out.2.2 hq3 hcc.2.2.2.2.1,bd HP9.out.2.2 hq3 hcc.2.2.2.2.2.1,bd HP9.out.2.2 hq3 hcc.2.2.2.2.2.2⟩)
        (first|(go_at_call 170;refine HPU.out.mono ?_;rintro e w9 ⟨fq9,rfl,ht9,hf9,hT9⟩;have HP9:=ad (aB ht9 (aB hf9 hT9));clear ht9 hf9 hT9))
       go_wp2;go_meet;exact ad ⟨fq9,HP9.out.1,HP9.out.2.1,(ax.aI (ae _ W8).drew:ax fq8 W8 W8.drew).trans HP9.out.2.2 (fun j hj=>.inl hj)⟩
      case rest =>
       obtain⟨fq9,ht9,hf9,hT9⟩:=hcut.out;have hb9:cX wc b6 ⟨vc,vp,vf,vv⟩:=(hT9.block b6 (aA.1 H8.out.2.1).1 hq3).trans H8.out.2.1;have hz9:cX wc (w.heap.size+1) ⟨0,0,0,0⟩:=(hT9.block _ (aA.1 H8.out.2.2.1).1 hq4).trans H8.out.2.2.1;obtain⟨y0,y1,y2,y3⟩:=hb9.cells;obtain⟨c0,c1,c2,c3⟩:=hz9.cells;have r0:=ay hz9 0;have r1:=ay hz9 1;have r2:=ay hz9 2;have r3:=ay hz9 3;obtain⟨ft9,fq92,s1,s2,s3⟩:=H8.out.1.LR ht9 hf9 hT9;have H9:=ad (aB s1 (aB s2 (aB s3 hz9)));clear hcut ht9 hf9 hT9 hb9 hz9 s1 s2 s3 hcc;go_wp2;refine bodyPost_ret (aO rfl _ _ (w.heap.size+1) _ _ _ _ rfl (iH H9.out.2.2.2 _ _ _ _) underlying89 rfl eN) rfl ?_;have hg:=dG wc (w.heap.size+1) (.int .i64 vc) (.int .i64 vp) (.int .i64 vf) (.int .i64 vv);have h7:=H8.out.2.2.2.2.2.1;have hA:=HN11.out;have hn9:¬ft9 (w.heap.size+1):=fun e=>by
        rcases H9.out.2.1 _ e with e|e
        ·exact hA.1 e
        ·omega
       have hw7:wc.heap.size=wc.heap.size:=rfl;have hf:∀j,ft1 j->ft j\/w.heap.size<=j:=fun j hj=>by
        rcases h7 j hj with e|e
        ·exact .inl e
        ·exact .inr (by omega)
       refine⟨by rw[HAP.out];rfl,ft9,by rw[HAP.out];exact⟨x8,t8,fx8,fq92,H9.out.1.kept (fun j hj hf=>hg.block j hj (fun e=>by cases e;exact hn9 hf)) hg.size⟩,fun j hj=>?_,?_⟩
       ·rcases H9.out.2.1 j hj with e|e
        ·exact hf j e
        ·exact .inr (by omega)
       ·exact((H8.out.2.2.2.1.trans (ax.cq (ft:=fun j=>j=b6) H8.out.2.2.2.2.1 rfl) (fun j hj=>.inr (by omega))).trans H9.out.2.2.1 hf).trans (ax.cq (ft:=fun j=>j=w.heap.size+1) hg rfl) (fun j hj=>.inr (by omega))
     ·obtain⟨c0,c1,c2,c3⟩:=hz6.cells;have r0:=ay hz6 0;have r1:=ay hz6 1;have r2:=ay hz6 2;have r3:=ay hz6 3;clear heb6 hz6 hst6 hT6;go_wp2;refine bodyPost_ret (aO rfl _ _ (w.heap.size+1) _ _ _ _ rfl (iH H6.out.2.2.2 _ _ _ _) underlying89 rfl eN) rfl ?_;have hg:=dG wc (w.heap.size+1) (.int .i64 oc) (.int .i64 op) (.int .i64 of) (.int .i64 ov);have hn1:¬ft (w.heap.size+1):=fun e=>by have:=hslt _ e;omega
      refine⟨by rw[HAP.out];rfl,ft,by rw[HAP.out];exact⟨x3,t3,fx3,fq3,H6.out.1.kept (fun j hj hf=>hg.block j hj (fun e=>by cases e;exact hn1 hf)) hg.size⟩,fun j hj=>.inl hj,H6.out.2.1.trans (ax.cq (ft:=fun j=>j=w.heap.size+1) hg rfl) (fun j hj=>.inr (by omega))⟩
     ·obtain⟨c0,c1,c2,c3⟩:=hz6.cells;have r0:=ay hz6 0;have r1:=ay hz6 1;have r2:=ay hz6 2;have r3:=ay hz6 3;have p0:=heb6.cells.1;clear heb6 hz6 hst6 hT6;go_wp2;refine bodyPost_ret (aO rfl _ _ (w.heap.size+1) _ _ _ _ rfl (iH H6.out.2.2.2 _ _ _ _) underlying89 rfl eN) rfl ?_;have hg:=dG wc (w.heap.size+1) (.int .i64 3) (.int .i64 pos) (.int .i64 0) (.int .i64 0);have hn1:¬ft (w.heap.size+1):=fun e=>by have:=hslt _ e;omega
      refine⟨by rw[HAP.out];rfl,ft,by rw[HAP.out];exact⟨x3,t3,fx3,fq3,H6.out.1.kept (fun j hj hf=>hg.block j hj (fun e=>by cases e;exact hn1 hf)) hg.size⟩,fun j hj=>.inl hj,H6.out.2.1.trans (ax.cq (ft:=fun j=>j=w.heap.size+1) hg rfl) (fun j hj=>.inr (by omega))⟩
  ·have hnb:(pos != st.app+1)=true:=by simpa using hgap
   have HA:=ad (show st.apply E=((⟨0,0,0,0⟩,11),st)by
    unfold Stat.apply;rw[if_neg (by rw[hF];simp),if_pos (by rw[HEE.out];exact hgap)])
   clear hF hgap;go_enter func111,ntmps111;go_wp2_with fail;rw[HW1.out];refine HRT.out.mono ?_;rintro e w2 ⟨rfl,b2⟩;have q0:=cell_kept b2 ab q0;have k2:=(H.out.1.next (H.out.2.1.trans (b2.mono H.out.2.1.size))).app;have H2:=ad (aB (H.out.1.next (H.out.2.1.trans (b2.mono H.out.2.1.size))) (aB (H.out.2.2.1.next b2) (aB ((b2.block _ (aA.1 H.out.2.2.2).1).trans H.out.2.2.2) (H.out.2.1.trans (b2.mono H.out.2.1.size)))));clear HRT b2 q1 q2 q3 q4 q5 q6;go_upto_region 3 with fail;go_cut [13] (fun bv wx=>bv=.bool true/\Hid (Below w2.heap.size w2 wx))
   case first =>
    go_wp2;go_quiet (fail);go_wp2;go_meet;exact⟨rfl,ad (below_drewN (ae _ _) _)⟩
   case rest =>
    obtain⟨rfl,HB⟩:=hcut;have hz:cX wc (w.heap.size+1) ⟨0,0,0,0⟩:=(HB.out.block _ (aA.1 H2.out.2.2.1).1).trans H2.out.2.2.1;obtain⟨c0,c1,c2,c3⟩:=hz.cells;have r0:=ay hz 0;have r1:=ay hz 1;have r2:=ay hz 2;have r3:=ay hz 3;have HZ:=ad hz;clear hz q0 k2;go_wp2;refine bodyPost_ret (aO rfl _ _ (w.heap.size+1) _ _ _ _ rfl (iH HZ.out _ _ _ _) underlying89 rfl eN) rfl ?_;have hb:=dN (H2.out.2.2.2.trans (HB.out.mono H2.out.2.2.2.size)) (by have:=H2.out.2.2.2.size;have:=HB.out.size;omega) (by omega) (dG wc (w.heap.size+1) (.int .i64 0) (.int .i64 0) (.int .i64 0) (.int .i64 0));exact⟨by rw[HA.out];rfl,ft,by rw[HA.out];exact H.out.1.next hb,fun j hj=>.inl hj,ax.aI hb⟩
end Go.Proofs.YtmgmknmaepjnoaaGreatDoor
