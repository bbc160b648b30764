/-
  Messages: Put answers no text just where a message is not right; Right, Epoch.
-/
import Derived.Test.YtmgmknmaepjnoaaGreatDoorMsgA
import Derived.Test.YtmgmknmaepjnoaaGreatDoorMeP3
namespace Go.Proofs.YtmgmknmaepjnoaaGreatDoor
open Go.RowKit Go.Shelf Proofs.Tryz
set_option maxHeartbeats 2000000 in
set_option maxRecDepth 100000 in
theorem AN (B b:Nat) (bs:List Value) (c:Int) (w:World) (h:Lib.IsBuilderF 169 5 B b bs w) (hlen:bs.length+1<=140737488355328) (hBw:B<=w.heap.size) :
 Calls prog 82 #[.pointer (some ⟨b,0,none⟩),.int .u8 c] w fun e w'=>e=.returned .nilIface/\(Lib.BuilderAtF 169 5 B b (.pointer (some ⟨b,0,none⟩)) (bs++[.int .u8 c]) w'/\Below B w w'/\Lib.OthersKept 5 (some b) w w'):=by
 obtain⟨i0,hi,hz0,hz1,hz2⟩:=info_parts rE;go_enter func82,ntmps82;go_wp2_with (go_at_call 135;refine(sP B b bs _ h).mono ?_);rintro e w1 ⟨rfl,h1,hb1,hk1⟩;obtain⟨hB,v,hbk,hown,hne⟩:=h1;have c0:w1.cell? ⟨b,0,none⟩=some (.pointer (some ⟨b,0,none⟩)):=aq hbk rfl;have c1:w1.cell? ⟨b,1,none⟩=some v:=aq hbk rfl;go_wp2_with (at_builtin;refine wpList_append_ownF _ rfl _ _ 167 rfl B 5 i0 (.int .u8 0) 1 1 underlying167 hi hz0 hz1 hz2 rfl (by decide) _ _ _ rfl (hown.alloc _) ⟨w1.heap.size,0,none⟩ 1 1 [.int .u8 c] rfl rfl ?c1 ?c2 ?c3 ?c4 ?c5 ?_)
 case c1 =>
  intro j u hj
  match j,hj with
  |0,hj=>simp at hj;subst hj;simp[Addr.add]
 case c2=>intro u hu;simp at hu;subst hu;rfl
 case c3=>unfold maxLen;omega
 case c4=>omega
 case c5=>have:=hb1.size;simp;omega
 intro v' w2 hown' hgrow _;have hlt:b<w1.heap.size:=by
  rcases Nat.lt_or_ge b w1.heap.size with h'|h'
  ·exact h'
  ·simp[Array.getElem?_eq_none h']at hbk
 have hb2:w2.heap[b]?=some (.cells #[.pointer (some ⟨b,0,none⟩),v] 169 (0,0)):=by
  rw[hgrow.block b (by simp;omega) (fun e=>hne e.symm),Lib.alloc_old w1 _ b hlt];exact hbk
 have d0:w2.cell? ⟨b,0,none⟩=some (.pointer (some ⟨b,0,none⟩)):=aq hb2 rfl;have d1:w2.cell? ⟨b,1,none⟩=some v:=aq hb2 rfl;have f1:w2.frozen? ⟨b,1,none⟩=false:=ay hb2 1;obtain⟨g,cap,rfl⟩:∃g cap,v'=.slice (some ⟨g,0,none⟩) (bs.length+1) cap:=by
  rcases hown'.2 with⟨_,h0⟩|⟨g,cap,cur,fz,hv,_⟩
  ·omega
  ·exact⟨g,cap,hv⟩
 go_wp2;go_ret;refine⟨rfl,?_,?_,((hk1.alloc _).grown hgrow (Lib.ownsRowF_kind (hown.alloc _))).setCell ⟨b,1,none⟩ rfl _⟩
 ·exact Lib.BuilderAtF.put (T:=169) (e:=5) hB hb2 (bs':=bs++[.int .u8 c]) (by simpa using hown') (by decide)
 ·exact((hb1.alloc (by have:=hb1.size;omega) _).grown hgrow (by have:=hb1.size;simp;omega) (fun k hk=>(hown.lt k hk).1)).setCell (p:=⟨b,1,none⟩) hB _
theorem ES (B b:Nat) (l:List UInt8) (c:UInt8) (w:World) (h:fP B b l w) (hlen:l.length+1<=140737488355328) (hBw:B<=w.heap.size) :
 Calls prog 82 #[.pointer (some ⟨b,0,none⟩),.int .u8 (c.toNat:Int)] w fun e w'=>e=.returned .nilIface/\fP B b (l++[c]) w'/\Below B w w'/\Lib.OthersKept 5 (some b) w w':=by
 refine(AN B b _ _ w h (by rw[Lib.byteCells_length];omega) hBw).mono ?_;rintro e w' ⟨rfl,h1,h2,h3⟩;exact⟨rfl,.inr (by rw[Lib.byteCells_append];exact h1),h2,h3⟩
def iW (T:TypeId) (V:Value) (l:List Int):Prop:=∀w,Calls prog 77 #[.iface T V] w fun e w'=>∃v,e=.returned (.tuple #[v,.bool true])/\w'.ownsRow w.heap.size 3 1 v l.length (aE l)/\Below w.heap.size w w'
def jF (T:TypeId) (V:Value) (a:World) (pb:Bool):Prop:=∀w,Below a.heap.size a w->Calls prog 81 #[.iface T V] w fun e w'=>∃S:ByteArray,e=.returned (.tuple #[.string S,.bool pb])/\S.size<=1000000000/\Below w.heap.size w w'
def fO (T:TypeId) (V:Value) (kk:Int):Prop:=∃kf:FuncId,(∀w,(method 554 T V "Kind").run prog w=.ok (kf,V) w)/\(∀w,(callFunc kf #[V]).run prog w=.ok (.enter kf #[V]) w)/\∀w,Calls prog kf #[V] w fun e w'=>e=.returned (.int .i64 kk)/\Below w.heap.size w w'
theorem zJ (l:List Int):l.all bF=!(l.any fun n=>!bF n):=by
 induction l with
 |nil=>rfl
 |cons x l ih=>simp only[List.all_cons,List.any_cons];rw[ih];cases bF x <;> simp
set_option maxHeartbeats 16000000 in
set_option maxRecDepth 100000 in
set_option maxHeartbeats 16000000 in
set_option maxRecDepth 100000 in
theorem Ji {T:TypeId} {V:Value} {l:List Int} {pb:Bool} {c:UInt8} (w:World) (HN:iW T V l) (HP:jF T V w pb) (HK:fO T V (c.toNat:Int)) (hl:l.length<=10) :
 Calls prog 39 #[.iface T V] w fun e w'=>∃S,e=.returned (.string S)/\Hid ((S.data.toList==[])=!((l.all bF)&&pb))/\Below w.heap.size w w':=by
 obtain⟨kf,HM,HM2,HK⟩:=HK;have HK:=ad HK;have HN:=ad HN;have HP:=ad HP;have HL:=ad hl;go_enter func39,ntmps39;go_wp2_with fail;refine(HN.out w).mono ?_;rintro e w1 ⟨v,rfl,ho,hb⟩;obtain⟨va,vc,rfl⟩:=aJ (aj ho);have HC:=ad (GA _ l w1 (aj ho) (by omega));have HO:=ad (aB (aj ho) hb);obtain⟨nb,hnb⟩:∃nb,(l.any fun n=>!bF n)=nb:=⟨_,rfl⟩;rw[hnb]at HC;have HA:=ad (show l.all bF=!nb by rw[<-hnb];exact zJ l);clear ho hb hl hnb;cases nb with
 |true =>
  go_wp2_with fail;refine HC.out.mono ?_;rintro e w2 ⟨rfl,hb2⟩;have HB:=ad (Below.up HO.out.2 ab hb2);clear hb2;go_wp2;go_ret;exact⟨_,rfl,ad (by rw[HA.out];rfl),HB.out⟩
 |false =>
  go_wp2_with fail;refine HC.out.mono ?_;rintro e w2 ⟨rfl,hb2⟩;have HB:=ad (Below.up HO.out.2 ab hb2);have HO2:=ad (Cells.next HO.out.1 hb2);clear hb2 HC HO;go_wp2_with fail;refine(HP.out _ HB.out).mono ?_;rintro e w3 ⟨S,rfl,hS,hb3⟩;have HB3:=ad (Below.up HB.out ab hb3);have HO3:=ad (Cells.next HO2.out hb3);clear hb3 HO2 HB;cases pb with
  |false =>
   go_wp2;go_ret;exact⟨_,rfl,ad (by rw[HA.out];rfl),HB3.out⟩
  |true =>
   go_wp2_with fail;refine(HK.out _).mono ?_;rintro e w4 ⟨rfl,hb4⟩;have hu:IntKind.u8.wrap (c.toNat:Int)=(c.toNat:Int):=by have:=c.toNat_lt;rw[IntKind.wrap_u8];omega
   have hbl:fP w3.heap.size w3.heap.size [] w4:=(iK w3).next hb4;have hs3:w3.heap.size<w4.heap.size:=by have:=hb4.size;simp at this;omega
   have HB4:=ad (((ae _ w3).alloc ab (.cells #[.pointer none,.slice none 0 0] 169)).trans (hb4.mono (by simp)));have HBL:=ad hbl;have hs4:w3.heap.size<=w4.heap.size:=by omega
   clear hb4 hbl hs3 HK HM HM2 HN HP;go_wp2_with fail;refine(ES _ _ _ c w4 HBL.out (by simp) hs4).mono ?_;rintro e w5 ⟨rfl,h5,b5,_⟩;have HB5:=ad (HB4.out.trans b5);have H5:=ad h5;clear h5 b5 HBL HB4 hs4;go_wp2
   go_loopw [34] (fun lv wr=>∃(i:Nat) (acc:List UInt8),lv=.int .i64 i/\Hid (fP w3.heap.size w3.heap.size acc wr)/\Below w3.heap.size w3 wr/\1<=acc.length/\acc.length<=1+i*6/\i<=l.length) (fun lv _=>l.length-(intOf lv).toNat)
   case atStart=>exact⟨0,_,rfl,H5,HB5.out,by simp,by simp,by omega⟩
   case round =>
    obtain⟨i,acc,rfl,HI,hbw,ha1,ha2,hi⟩:=hrel;have hbs:=hbw.size;by_cases hp:i<l.length
    ·obtain⟨b',o',c',hv,hcell⟩:=lM HO3.out i hp;cases hv;have hcell2:=cell_kept hbw ab hcell;obtain⟨x,hx⟩:∃x,l[i]=x:=⟨_,rfl⟩;rw[hx]at hcell2;have h6:=Num.ct _ (Num.cB x);obtain⟨X,hX,hXl,hXs⟩:=bf (Num.put (Num.held x));have hNP:=dF x wr;rw[hX]at hNP;have HNP:=ad hNP;have HBW:=ad hbw;have hl10:=HL.out;clear hcell hx hX hNP hbw;go_wp2_with fail;refine HNP.out.mono ?_;rintro e w6 ⟨rfl,b6⟩;have HI6:=ad (fP.next HI.out b6);have HB6:=ad (Below.up HBW.out ab b6);have hs6:=HB6.out.size;clear b6 HI HNP;go_wp2_with fail;refine(writeString _ _ acc X w6 HI6.out (by omega) hs6).mono ?_;rintro e w7 ⟨rfl,h7,b7,_⟩;have HB7:=ad (HB6.out.trans b7);have H7:=ad h7;have hal:(acc++X.data.toList).length=acc.length+X.size:=by rw[List.length_append,Lib.size_eq]
     clear h7 b7;go_wp2;exact⟨⟨i+1,_,by go_num,H7,HB7.out,by omega,by omega,by omega⟩,by simp[intOf];omega⟩
    ·obtain rfl:i=l.length:=by omega
     have hl10:=HL.out;go_wp2_with fail;refine(iL _ _ _ _ HI.out hbs).mono ?_;rintro e w6 ⟨rfl,b6⟩;have HB6:=ad (HB3.out.trans ((hbw.trans b6).mono HB3.out.size));obtain⟨Y,hY,hYl,hYs⟩:=bf acc;obtain⟨Z,_,hZl,hZs⟩:=bf (Y.data.toList++S.data.toList);have a1:∀w,(Op.stringOp .add Y S).run prog w=.ok (.string Z) w:=fun w=>cK w _ _ _ (by omega) hZl.symm;have HE:=ad (show(Z.data.toList==[])=false by
      rw[hZl,hYl];cases acc with
      |nil=>simp at ha1
      |cons x r=>rfl)
     rw[hY];clear hbw b6 hY hYl hZl hZs HI;go_wp2;go_ret;exact⟨_,rfl,ad (by rw[HA.out,HE.out];rfl),HB6.out⟩
set_option maxHeartbeats 16000000 in
set_option maxRecDepth 100000 in
theorem dK {T:TypeId} {V:Value} {l:List Int} {pb:Bool} {c:UInt8} (w:World) (HN:iW T V l) (HP:jF T V w pb) (HK:fO T V (c.toNat:Int)) (hl:l.length<=10) :
 Calls prog 13 #[.iface T V] w fun e w'=>e=.returned (.bool (l.all bF&&pb))/\Below w.heap.size w w':=by
 have HC:=Ji w HN HP HK hl;obtain⟨B,hB⟩:∃B,(l.all bF&&pb)=B:=⟨_,rfl⟩;rw[hB]at HC ⊢;have HC:=ad HC;clear HN HP HK hB;go_enter func13,ntmps13;go_wp2_with fail;refine HC.out.mono ?_;rintro e w1 ⟨S,rfl,HS,hb⟩;have HB:=ad hb;clear hb HC;cases B with
 |true =>
  have h0:S.toList.isEmpty=false:=by
   have:=HS.out;rw[Lib.toList_data];cases h:S.data.toList with
   |nil=>rw[h]at this;cases this
   |cons x r=>rfl
  go_wp2;go_ret;exact⟨rfl,HB.out⟩
 |false =>
  have h0:S.toList.isEmpty=true:=by
   have:=HS.out;rw[Lib.toList_data];cases h:S.data.toList with
   |nil=>rfl
   |cons x r=>rw[h]at this;cases this
  go_wp2;go_ret;exact⟨rfl,HB.out⟩
set_option maxHeartbeats 16000000 in
set_option maxRecDepth 100000 in
theorem fV {T:TypeId} {V:Value} {l:List Int} {x0:Int} {pb:Bool} {c:UInt8} (w:World) (HN:iW T V (x0::l)) (HP:jF T V w pb) (HK:fO T V (c.toNat:Int)) (hl:l.length<=9) (hc:(c.toNat:Int)=3\/(c.toNat:Int)=4\/(c.toNat:Int)=6\/(c.toNat:Int)=7\/(c.toNat:Int)=8\/(c.toNat:Int)=9\/(c.toNat:Int)=10) :
 Calls prog 69 #[.iface T V] w fun e w'=>e=.returned (.int .i64 (if ((x0::l).all bF&&pb)=true then x0 else 0))/\Below w.heap.size w w':=by
 have HR:=ad (fun W (hb:Below w.heap.size w W)=>dK W HN (fun Z hZ=>HP Z (Below.up hb ab hZ)) HK (by simp;omega));obtain⟨kf,HM,HM2,HK⟩:=HK;have HK:=ad HK;have HN:=ad HN;obtain⟨k,hk⟩:∃k,(c.toNat:Int)=k:=⟨_,rfl⟩;rw[hk]at hc HK;clear HP hk;obtain⟨B,hB⟩:∃B,((x0::l).all bF&&pb)=B:=⟨_,rfl⟩;rw[hB]at HR ⊢;clear hB;go_enter func69,ntmps69;go_wp2_with fail;refine(HN.out w).mono ?_;rintro e w1 ⟨v,rfl,ho,hb⟩;obtain⟨va,vc,rfl⟩:=aJ (aj ho);have HO:=ad (aB (aj ho) hb);clear ho hb;go_wp2_with fail;refine(HR.out w1 HO.out.2).mono ?_;rintro e w2 ⟨rfl,hb2⟩;have HB:=ad (Below.up HO.out.2 ab hb2);have HC2:=ad (Cells.next HO.out.1 hb2);clear hb2 HO HR HN;cases B with
 |false =>
  go_wp2;go_ret;exact⟨rfl,HB.out⟩
 |true =>
  go_wp2_with fail;refine(HK.out _).mono ?_;rintro e w3 ⟨rfl,hb3⟩;have HB3:=ad (Below.up HB.out ab hb3);obtain⟨b,o,cc,hv,hcell⟩:=lM (Cells.next HC2.out hb3) 0 (by simp);cases hv;have hcell:w3.cell? ⟨b,o,none⟩=some (.int .i64 x0):=hcell;clear hb3 HB HC2 HK HM HM2;rcases hc with rfl|rfl|rfl|rfl|rfl|rfl|rfl <;> (go_wp2;(try simp only[Exit.inBlock,Exit.then]);go_ret;exact⟨rfl,HB3.out⟩)
def kH (k:Int):Prop:=k=3\/k=8\/k=9\/k=10
set_option maxHeartbeats 16000000 in
set_option maxRecDepth 100000 in
theorem gA {T:TypeId} {V:Value} {k:Int} (HK:fO T V k) (hk:kH k) (a:World):jF T V a true:=by
 intro w _;obtain⟨kf,HM,HM2,HK⟩:=HK;have HK:=ad HK;have HH:=ad hk;clear hk;go_enter func81,ntmps81;go_wp2_with fail;refine(HK.out _).mono ?_;rintro e w1 ⟨rfl,hb⟩;have HB:=ad (((ae _ w).alloc ab (.cells #[.pointer none,.slice none 0 0] 169)).trans (hb.mono (by simp)));clear hb HK HM HM2;rcases HH.out with rfl|rfl|rfl|rfl <;> (go_wp2;go_ret2;exact⟨_,rfl,by decide,HB.out⟩)
theorem Am (v0 v1 v2 v3 v4 v5:Value) (w:World):(Instr.field 42 (.agg #[v0,v1,v2,v3,v4,v5]) 1).run prog w=.ok (.agg #[v1,v2,v3,v4,v5]) w:=by kernel_rfl
theorem zm (b:Evt.Batch):(Evt.dm b==[])=!decide (Evt.fits b=0):=by
 unfold Evt.dm;by_cases h:Evt.fits b=0
 ·rw[if_neg (by rw[h];simp),decide_eq_true h];have:Evt.aQ b≠[]:=by
   unfold Evt.aQ;intro e;have:=congrArg List.length e;simp only[List.length_append,Num.eX,List.length_nil]at this;have h2:(Num.put (Num.held (b.stream.length:Int))).length=0:=by omega
   have h3:Num.put (Num.held (b.stream.length:Int))≠[]:=by
    unfold Num.put;split <;> simp
   exact h3 (aP h2)
  simp[this]
 ·rw[if_pos h,decide_eq_false h];rfl
set_option maxHeartbeats 16000000 in
set_option maxRecDepth 100000 in
theorem zt {a:World} (x0:Int) (S:ByteArray) (ex se sq:Int) (sa:Option Addr) (sl sc:Nat) (es:List Evt.Event) (HK:fO 42 (.agg #[.int .i64 x0,.string S,.int .i64 ex,.int .i64 se,.int .i64 sq,.slice sa sl sc]) 11) (hE:Env a) (hS:S.size<=1000000) (hc:dp a (.slice sa sl sc) es) (hn:es.length<=1000000) (hx:Small es) :
 jF 42 (.agg #[.int .i64 x0,.string S,.int .i64 ex,.int .i64 se,.int .i64 sq,.slice sa sl sc]) a (decide (Evt.fits ⟨S.data.toList,ex,se,sq,es⟩=0)):=by
 intro w hw;obtain⟨kf,HM,HM2,HK⟩:=HK;have HK:=ad HK;have hA:=Gc;have hF:=Am;have HB0:=ad ((ae _ w).alloc ab (.cells #[.pointer none,.slice none 0 0] 169));have HPB:=ad (fun W (hb:Below w.heap.size w W)=>qK S ex se sq (.slice sa sl sc) es W ((hE.next hw).next hb) hS (Cells.next (Cells.next hc hw) hb) hn hx);have HNE:=ad (zm ⟨S.data.toList,ex,se,sq,es⟩);have HLE:=ad (Evt.mF ⟨S.data.toList,ex,se,sq,es⟩);obtain⟨B,hB⟩:∃B,decide (Evt.fits ⟨S.data.toList,ex,se,sq,es⟩=0)=B:=⟨_,rfl⟩;rw[hB]at HNE ⊢;clear hw hE hc hx hB;go_enter func81,ntmps81;go_wp2_with fail;refine(HK.out _).mono ?_;rintro e w1 ⟨rfl,hb⟩;have HB:=ad (HB0.out.trans (hb.mono (by simp)));clear hb HK HM HM2;go_wp2_with fail;refine(HPB.out w1 HB.out).mono ?_;rintro e w2 ⟨r,rfl,hr,hb2⟩;have HB2:=ad (Below.up HB.out ab hb2);have hrs:r.size<=3000:=by rw[Lib.size_eq,hr.out];exact HLE.out
 have hre:(r.data.toList==[])=!B:=by rw[hr.out];exact HNE.out
 clear hb2 hr HB HB0 HPB HNE HLE;cases B with
 |true =>
  have h0:r.toList.isEmpty=false:=by
   rw[Lib.toList_data];cases h:r.data.toList with
   |nil=>rw[h]at hre;cases hre
   |cons x r=>rfl
  clear hre;go_wp2
  (try simp only[Exit.inBlock,Exit.then])
  go_ret2
  exact⟨r,rfl,by omega,HB2.out⟩
 |false =>
  have h0:r.toList.isEmpty=true:=by
   rw[Lib.toList_data];cases h:r.data.toList with
   |nil=>rfl
   |cons x r=>rw[h]at hre;cases hre
  clear hre;go_wp2
  (try simp only[Exit.inBlock,Exit.then])
  go_ret2
  exact⟨r,rfl,by omega,HB2.out⟩
set_option maxHeartbeats 16000000 in
set_option maxRecDepth 100000 in
theorem DH {a:World} (x0 fr:Int) (S:ByteArray) (HK:fO 49 (.agg #[.int .i64 x0,.string S,.int .i64 fr]) 12) (hE:Env a) (hS:S.size<=1000000) (hn:Txt.name S.data.toList=true) (hf:bF fr=true) :
 jF 49 (.agg #[.int .i64 x0,.string S,.int .i64 fr]) a true:=by
 intro w hw;obtain⟨kf,HM,HM2,HK⟩:=HK;have HK:=ad HK;have hA:=JE;have HB0:=ad ((ae _ w).alloc ab (.cells #[.pointer none,.slice none 0 0] 169));have HE:=ad (hE.next hw);have HNF:=ad (aB hn hf);clear hw hE hn hf;go_enter func81,ntmps81;go_wp2_with fail;refine(HK.out _).mono ?_;rintro e w1 ⟨rfl,hb⟩;have HB:=ad (HB0.out.trans (hb.mono (by simp)));obtain⟨W,hW⟩:∃W,w1.alloc (.cells #[.int .i64 x0,.string S,.int .i64 fr] 49)=W:=⟨_,rfl⟩;have hz:W.heap[w1.heap.size]?=some (.cells #[.int .i64 x0,.string S,.int .i64 fr] 49 (0,0)):=by rw[<-hW];exact heap_alloc_new w1 _
 have k1:W.cell? ⟨w1.heap.size,1,none⟩=some (.string S):=aq hz rfl;have k2:W.cell? ⟨w1.heap.size,2,none⟩=some (.int .i64 fr):=aq hz rfl;have bW:Below w.heap.size w W:=by rw[<-hW];exact an HB.out _
 have HW:=ad hW;have HBW:=ad bW;clear hb HK HM HM2 hz hW bW;obtain⟨A1,hA1,hA1l,hA1s⟩:=bf (Num.eX S.data.toList);obtain⟨A2,hA2,hA2l,hA2s⟩:=bf (Num.put (Num.held fr));have hs1:A1.size<=6+S.size:=by rw[hA1s,Lib.size_eq];exact Evt.ik _
 have hs2:A2.size<=6:=by rw[hA2s];exact Num.ct _ (Num.cB fr)
 obtain⟨A3,hA3,hA3l,hA3s⟩:=bf (A1.data.toList++A2.data.toList);have hs3:A3.size<=1000000000:=by rw[hA3s,List.length_append,<-Lib.size_eq,<-Lib.size_eq];omega
 have a1:∀w,(Op.stringOp .add A1 A2).run prog w=.ok (.string A3) w:=fun w=>cK w _ _ _ (by omega) hA3l.symm;have c1:=ad (fun Z=>(sr S Z (by omega)).mono (R':=fun e w'=>e=.returned (.string A1)/\Below Z.heap.size Z w') (by
  rintro e w' ⟨r,rfl,hr,_,hb⟩;refine⟨?_,hb⟩;rw[<-hA1,<-hr.out]))
 have c2:=ad (fun Z=>by have:=dF fr Z;rw[hA2]at this;exact this);have c3:=ad (fun Z (hZ:Below w.heap.size w Z)=>by have:=mL S Z (HE.out.next hZ) (by omega);rw[HNF.out.1]at this;exact this);have c4:=ad (fun Z=>(pf fr Z).mono (R':=fun e w'=>e=.returned (.bool true)/\Below Z.heap.size Z w') (by
  rintro e w' ⟨rfl,rfl⟩;exact⟨by rw[HNF.out.2],ae _ _⟩))
 clear hA1 hA1l hA1s hA2 hA2l hA2s hA3 hA3l hA3s;go_wp2_with fail;rw[HW.out]
 go_region_held3 (fun Z=>Z.cell? ⟨w1.heap.size,1,none⟩=some (.string S)/\Z.cell? ⟨w1.heap.size,2,none⟩=some (.int .i64 fr)/\Below w.heap.size w Z) (first|exact⟨k1,k2,HBW.out.drew⟩|exact I3 (by assumption) hb)
  (first
   |(go_at_call 129;refine(c1.out _).mono ?_;rintro e w' ⟨rfl,hb⟩)
   |(go_at_call 84;refine(c2.out _).mono ?_;rintro e w' ⟨rfl,hb⟩)
   |(go_at_call 130;refine(c3.out _ (And.right (And.right (by assumption)))).mono ?_;rintro e w' ⟨rfl,hb⟩)
   |(go_at_call 80;refine(c4.out _).mono ?_;rintro e w' ⟨rfl,hb⟩))
 have hq:w'.cell? ⟨w1.heap.size,1,none⟩=some (.string S)/\w'.cell? ⟨w1.heap.size,2,none⟩=some (.int .i64 fr)/\Below w.heap.size w w':=by assumption
 have hbN:=ad hq.2.2;clear hq c1 c2 c3 c4;go_wp2
 (try simp only[Exit.inBlock,Exit.then])
 go_ret2
 exact⟨A3,rfl,hs3,hbN.out⟩
theorem Dp (p ep:Int) (S:ByteArray) (ex se sq:Int) (sa:Option Addr) (sl sc:Nat) (es:List Evt.Event) (w:World) (hE:Env w) (hS:S.size<=1000000) (hc:dp w (.slice sa sl sc) es) (hn:es.length<=1000000) (hx:Small es) :
 Calls prog 180 #[.agg #[.int .i64 p,.int .i64 ep,.string S,.int .i64 ex,.int .i64 se,.int .i64 sq,.slice sa sl sc]] w fun e w'=>e=.returned (.bool (!Evt.bC ⟨p,ep,⟨S.data.toList,ex,se,sq,es⟩⟩))/\Below w.heap.size w w':=by
 have hb0:Below w.heap.size w (w.alloc (.cells #[.int .i64 p,.int .i64 ep,.string S,.int .i64 ex,.int .i64 se,.int .i64 sq,.slice sa sl sc] 95)):=an (ae _ w) _;have HC:=ad (ji p ep S ex se sq _ es _ (hE.next hb0) hS (Cells.next hc hb0) hn hx);have HB0:=ad hb0;obtain⟨B,hB⟩:∃B,Evt.bC ⟨p,ep,⟨S.data.toList,ex,se,sq,es⟩⟩=B:=⟨_,rfl⟩;rw[hB]at HC ⊢;clear hE hc hx hb0 hB;go_enter func180,ntmps180;go_wp2_with fail;refine HC.out.mono ?_;rintro e w1 ⟨rfl,b1⟩;have HB:=ad (Below.up HB0.out ab b1);clear b1 HC HB0;go_wp2;go_ret;exact⟨rfl,HB.out⟩
set_option maxHeartbeats 2000000 in
theorem Ip (v:Value) (qs:List bu) (w:World) (hE:Env w) (hc:dk w v qs) (hn:qs.length<=1000000) :
 Calls prog 206 #[v,.func (.func 180) #[] #[]] w fun e w'=>∃x:Int,e=.returned (.int .i64 x)/\Hid (decide (0<=x)=(ag qs).any fun e=>!Evt.bC e)/\Below w.heap.size w w':=by
 obtain⟨va,vc,rfl⟩:=aJ hc.1;have HC:=ad hc;have HEV:=ad hE;clear hc hE;go_enter func206,ntmps206;go_wp2
 go_loopw [8] (fun lv wr=>∃i:Nat,lv=.int .i64 i/\i<=qs.length/\Below w.heap.size w wr/\Hid (((ag qs).any fun e=>!Evt.bC e)=(ag (qs.drop i)).any fun e=>!Evt.bC e)) (fun lv _=>qs.length-(intOf lv).toNat)
 case atStart=>exact⟨0,rfl,by omega,ae _ _,ad (by simp)⟩
 case round =>
  obtain⟨i,rfl,hi,hbw,HK⟩:=hrel;by_cases hp:i<qs.length
  ·obtain⟨b,o,c,p,ep,S,ex,se,sq,sa,sl,sc,es,hv,q0,q1,q2,q3,q4,q5,q6,g1,g2,g3,g4,hpe,hp2⟩:=jI (HC.out.next hbw) i hp;cases hv;have HF:=Dp p ep S ex se sq sa sl sc es wr (HEV.out.next hbw) g2 g1 g4 g3;obtain⟨T,hT⟩:∃T,(!Evt.bC ⟨p,ep,⟨S.data.toList,ex,se,sq,es⟩⟩)=T:=⟨_,rfl⟩;rw[hT]at HF;have HF:=ad HF;have HX:=ad (show((ag qs).any fun e=>!Evt.bC e)=(T||(ag (qs.drop (i+1))).any fun e=>!Evt.bC e)by
    have e0:(qs[i]).1=⟨p,ep,⟨S.data.toList,ex,se,sq,es⟩⟩:=hpe.out;rw[HK.out,List.drop_eq_getElem_cons hp,<-hT];show((!Evt.bC (qs[i]).1)||_)=_;rw[e0];rfl)
   have HBW:=ad hbw;clear hbw HK hpe hp2 hT g1 g2 g3 g4;go_wp2_with fail;refine HF.out.mono ?_;rintro e w1 ⟨rfl,b1⟩;have hb1:=Below.up HBW.out ab b1;cases T with
   |true =>
    have HE:=ad (show((ag qs).any fun e=>!Evt.bC e)=true by rw[HX.out];rfl);have HB1:=ad hb1;clear hb1 b1 HF HX;go_wp2;go_ret;exact⟨_,rfl,ad (by rw[HE.out];simp),HB1.out⟩
   |false =>
    have HE:=ad (show((ag qs).any fun e=>!Evt.bC e)=(ag (qs.drop (i+1))).any fun e=>!Evt.bC e by rw[HX.out];rfl);clear b1 HF HX;go_wp2;exact⟨⟨i+1,by go_num,by omega,hb1,HE⟩,by simp[intOf];omega⟩
  ·have HE:=ad (show((ag qs).any fun e=>!Evt.bC e)=false by rw[HK.out,List.drop_eq_nil_of_le (by omega)];rfl);obtain rfl:i=qs.length:=by omega
   clear HK;go_wp2;go_ret;exact⟨-1,rfl,ad (by rw[HE.out];rfl),hbw⟩
theorem IA (v:Value) (qs:List bu) (w:World) (hE:Env w) (hc:dk w v qs) (hn:qs.length<=1000000) :
 Calls prog 159 #[v,.func (.func 180) #[] #[]] w fun e w'=>e=.returned (.bool (!(ag qs).all Evt.bC))/\Below w.heap.size w w':=by
 have HI:=ad (Ip v qs w hE hc hn);have HN:=ad (show(!(ag qs).all Evt.bC)=(ag qs).any fun e=>!Evt.bC e by
  generalize ag qs=l
  induction l with
  |nil=>rfl
  |cons x l ih=>simp only[List.all_cons,List.any_cons];rw[<-ih];cases Evt.bC x <;> simp)
 clear hc hE;go_enter func159,ntmps159;go_wp2_with fail;refine HI.out.mono ?_;rintro e w1 ⟨x,rfl,HR,b1⟩;have HB:=ad b1;clear b1 HI;go_wp2;go_ret;exact⟨by rw[HN.out,<-HR.out];rfl,HB.out⟩
set_option maxHeartbeats 8000000 in
set_option maxRecDepth 100000 in
theorem DA (v:Value) (qs:List bu) (w:World) (hE:Env w) (hc:dk w v qs) (hn:qs.length<=40) :
 Calls prog 127 #[v] w fun e w'=>∃r:ByteArray,e=.returned (.string r)/\Hid ((r.data.toList==[])=!(ag qs).all Evt.bC)/\r.size<=1000000/\Below w.heap.size w w':=by
 obtain⟨va,vc,rfl⟩:=aJ hc.1;have HCN:=ad (IA _ qs w hE hc (by omega));have HC:=ad hc;have HEV:=ad hE;clear hc hE;obtain⟨B,hB⟩:∃B,(ag qs).all Evt.bC=B:=⟨_,rfl⟩;rw[hB]at HCN ⊢;clear hB;go_enter func127,ntmps127;go_wp2_with fail;refine HCN.out.mono ?_;rintro e w1 ⟨rfl,b1⟩;have HB1:=ad b1;clear b1 HCN;cases B with
 |false =>
  go_wp2;go_ret;exact⟨_,rfl,ad rfl,by decide,HB1.out⟩
 |true =>
  have hbl:=iK w1;have h6:=Num.ct _ (Num.cB (qs.length:Int));have h7:1<=(Num.put (Num.held (qs.length:Int))).length:=by unfold Num.put;split <;> simp
  obtain⟨X,hX,hXl,hXs⟩:=bf (Num.put (Num.held (qs.length:Int)));have HBL:=ad hbl;have HBA:=ad (an HB1.out (.cells #[.pointer none,.slice none 0 0] 169));have HBZ:=ad (an (ae _ w1) (.cells #[.pointer none,.slice none 0 0] 169));have HNP:=ad (fun Z=>by have:=dF (qs.length:Int) Z;rw[hX]at this;exact this);clear hX hbl;go_wp2_with fail;refine(HNP.out _).mono ?_;rintro e w2 ⟨rfl,b2⟩;have HI2:=ad (fP.next HBL.out b2);have HB2:=ad (Below.up HBZ.out ab b2);have hs2:=HB2.out.size;clear b2 HNP HBL;go_wp2_with fail;refine(writeString _ _ [] X w2 HI2.out (by simp;omega) hs2).mono ?_;rintro e w3 ⟨rfl,h3,b3,_⟩;have HB3:=ad (HB2.out.trans b3);have H3:=ad h3;clear h3 b3 hs2 HI2;go_wp2
  go_loopw [14] (fun lv wr=>∃(i:Nat) (acc:List UInt8),lv=.int .i64 i/\Hid (fP w1.heap.size w1.heap.size acc wr)/\Below w1.heap.size w1 wr/\1<=acc.length/\acc.length<=6+i*3012/\i<=qs.length) (fun lv _=>qs.length-(intOf lv).toNat)
  case atStart=>exact⟨0,_,rfl,H3,HB3.out,by rw[List.nil_append,<-Lib.size_eq];omega,by rw[List.nil_append,<-Lib.size_eq];omega,by omega⟩
  case round =>
   obtain⟨i,acc,rfl,HI,hbw,ha1,ha2,hi⟩:=hrel;have hbs:=hbw.size;by_cases hp:i<qs.length
   ·have hbw0:Below w.heap.size w wr:=HB1.out.trans (hbw.mono HB1.out.size);obtain⟨b,o,c,p,ep,S,ex,se,sq,sa,sl,sc,es,hv,q0,q1,q2,q3,q4,q5,q6,g1,g2,g3,g4,hpe,hp2⟩:=jI (HC.out.next hbw0) i hp;cases hv;obtain⟨W,hW⟩:∃W,wr.alloc (.cells #[.int .i64 p,.int .i64 ep,.string S,.int .i64 ex,.int .i64 se,.int .i64 sq,.slice sa sl sc] 95)=W:=⟨_,rfl⟩;have bW:Below wr.heap.size wr W:=by rw[<-hW];exact an (ae _ wr) _
    have HRP:=ad (oU p ep S ex se sq (.slice sa sl sc) es W (HEV.out.next (Below.up hbw0 ab bW)) g2 (Cells.next g1 bW) g4 g3);have HBW:=ad (Below.up hbw ab bW);have HIW:=ad (fP.next HI.out bW);have HLE:=ad (Evt.gE ⟨p,ep,⟨S.data.toList,ex,se,sq,es⟩⟩);have HW:=ad hW;clear hbw hbw0 g1 g2 g3 g4 hpe hp2 bW HI hW;go_wp2_with fail;rw[HW.out];refine HRP.out.mono ?_;rintro e w6 ⟨r,rfl,hr,b6⟩;have hrs:r.size<=3012:=by rw[Lib.size_eq,hr.out];exact HLE.out
    have HI6:=ad (fP.next HIW.out b6);have HB6:=ad (Below.up HBW.out ab b6);have hs6:=HB6.out.size;clear b6 HIW HRP hr HLE;go_wp2_with fail;refine(writeString _ _ acc r w6 HI6.out (by omega) hs6).mono ?_;rintro e w7 ⟨rfl,h7,b7,_⟩;have HB7:=ad (HB6.out.trans b7);have H7:=ad h7;have hal:(acc++r.data.toList).length=acc.length+r.size:=by rw[List.length_append,Lib.size_eq]
    clear h7 b7;go_wp2;exact⟨⟨i+1,_,by go_num,H7,HB7.out,by omega,by omega,by omega⟩,by simp[intOf];omega⟩
   ·obtain rfl:i=qs.length:=by omega
    go_wp2_with fail;refine(iL _ _ _ _ HI.out hbs).mono ?_;rintro e w6 ⟨rfl,b6⟩;have HB6:=ad (HB1.out.trans ((hbw.trans b6).mono HB1.out.size));obtain⟨Y,hY,hYl,hYs⟩:=bf acc;have HE:=ad (show(Y.data.toList==[])=false by
     rw[hYl];cases acc with
     |nil=>simp at ha1
     |cons x r=>rfl)
    rw[hY];clear hbw b6 hY hYl HI;go_wp2;go_ret;exact⟨Y,rfl,ad (by rw[HE.out];rfl),by omega,HB6.out⟩
end Go.Proofs.YtmgmknmaepjnoaaGreatDoor
