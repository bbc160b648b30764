/-
  A node: what a state's clone answers to a client's read.
-/
import Derived.Test.YtmgmknmaepjnoaaGreatDoorNodF
namespace Go.Proofs.YtmgmknmaepjnoaaGreatDoor
open Go.RowKit Go.Shelf Go.Sort Proofs.Tryz
def yr (n:Nat) (z:Int):Nat:=(min (max z 1) ((n:Int)+1)-1).toNat
def eM (l:List (Int×Evt.Event)) (z:Int):List Evt.Event:=((l.map (·.2)).drop (yr l.length z)).take 16
theorem lS.Le {w:World} {x N:Nat} {f:cg} {ft:Nat->Prop} (h:lS w x f N ft) (nm:List UInt8) (hs:nm.length<=maxLen) :
 ∃bm a c,w.cell? ⟨x,0,none⟩=some (.map (some bm))/\(Instr.lookup 181 (.map (some bm)) (.string ⟨nm.toArray⟩) false).run prog w=.ok (.slice a (f nm).length c) w /\
  Cells w (.slice a (f nm).length c) 3 (f nm).length (eY (f nm))/\(f nm).length<=N/\(f nm).length<=c:=by
 obtain⟨bm,D,g,ev,h1,h2,h3,h4,h5,h6,h7⟩:=h;have hrun:=uw h2 h5 ⟨nm.toArray⟩ (by rw[Lib.size_eq];exact hs);have hcap:∃a c,g nm=.slice a (f nm).length c/\(f nm).length<=c:=by
  rcases (h6 nm).1.2 with⟨e1,e2⟩|⟨b,cap,cur,e1,_,_,e2,_⟩
  ·exact⟨none,0,by rw[e1,e2],by omega⟩
  ·exact⟨_,cap,e1,e2⟩
 obtain⟨a,c,hv,hcl⟩:=hcap;have hc:=aj (h6 nm).1;have hrun:(Instr.lookup 181 (.map (some bm)) (.string ⟨nm.toArray⟩) false).run prog w=.ok (g nm) w:=hrun;rw[hv]at hrun hc;exact⟨bm,a,c,aq h1 rfl,hrun,hc,(h6 nm).2.1,hcl⟩
theorem CW (k:Nat) (h:k<=900000):wrap64 ((k:Int)+1-1)=(k:Int)/\wrap64 ((k:Int)+1)=(k:Int)+1:=⟨by
 rw[Int.add_sub_cancel];exact IntWalk.wrap64_in _ (by omega),IntWalk.wrap64_in _ (by omega)⟩
set_option maxHeartbeats 4000000 in
set_option maxRecDepth 100000 in
theorem Dz (x:Nat) (f:cg) (N:Nat) (ft:Nat->Prop) (nm:List UInt8) (z:Int) (w:World) (h:lS w x f N ft) (hs:nm.length<=maxLen) (hN:N<=900000) :
 Calls prog 44 #[.pointer (some ⟨x,0,none⟩),.string ⟨nm.toArray⟩,.int .i64 z,.int .i64 16] w fun e w'=>∃ea ec,e=.returned (.slice ea (eM (f nm) z).length ec)/\Hid (w'.ownsRow w.heap.size 122 2 (.slice ea (eM (f nm) z).length ec) (eM (f nm) z).length (cZ (eM (f nm) z)))/\Below w.heap.size w w':=by
 obtain⟨bm,a,c,d0,hrun,hc,hlen,hlc⟩:=h.Le nm hs;obtain⟨l,hl⟩:∃l,f nm=l:=⟨_,rfl⟩;rw[hl]at hrun hc hlen hlc ⊢;obtain⟨k,hk⟩:∃k,yr l.length z=k:=⟨_,rfl⟩;have hkl:k<=l.length:=by unfold yr at hk;omega
 have hmn:min (max z 1) ((l.length:Int)+1)=(k:Int)+1:=by unfold yr at hk;omega
 obtain⟨m,hm⟩:∃m,((l.map (·.2)).drop k)=m:=⟨_,rfl⟩;have hml:m.length=l.length-k:=by rw[<-hm];simp
 have hmg:∀j (hj:j<m.length) (hl:k+j<l.length),m[j]=l[k+j].2:=fun j hj hl=>by subst hm;simp
 have HR:=ad (show eM l z=m.take 16 by unfold eM;rw[hk,hm]);have HC:=ad hc;have HMG:=ad hmg;have hw1:=(CW l.length (Nat.le_trans hlen hN)).2;have hw2:=(CW k (Nat.le_trans hkl (Nat.le_trans hlen hN))).1;clear h hk hm hmg hl;by_cases hl0:l.length=0
 ·have hk0:k=0:=by omega
  have hm0:m.length=0:=by omega
  have HR0:=ad (show eM l z=[]by rw[HR.out,aP hm0];rfl);rw[hl0]at hrun hmn;rw[hk0]at hmn;clear hc HC HMG hml hlen hlc hm0 HR hkl hl0 hk0 hw1 hw2;go_enter func44,ntmps44;go_wp2
  all_goals (
   go_loopw [10,30] (fun gv iv wr=>iv=.int .i64 0/\gv=.slice none 0 0/\wr=w) (fun _ iv _=>0)
   case atStart=>exact⟨rfl,rfl,rfl⟩
   case round =>
    obtain⟨rfl,rfl,rfl⟩:=hrel;go_wp2;go_ret;exact⟨none,0,by rw[HR0.out];rfl,ad (by rw[HR0.out];exact World.ownsRow_nil _ _ _ _),ae _ _⟩)
 ·obtain⟨b,o,c',hv,hz⟩:=Ad hc 0 (by omega);cases hv;clear hc hz hl0;go_enter func44,ntmps44;go_wp2
  case inl h =>
   have hlz:l.length-k=0:=by omega
   have hm0:m.length=0:=by omega
   have HR0:=ad (show eM l z=[]by rw[HR.out,aP hm0];rfl);clear hw1 hw2 hmn HC HMG hml hlen hlc hm0 HR hkl
   go_loopw [10,30] (fun gv iv wr=>iv=.int .i64 0/\gv=.slice none 0 0/\wr=w) (fun _ iv _=>0)
   case atStart=>exact⟨rfl,rfl,rfl⟩
   case round =>
    obtain⟨rfl,rfl,rfl⟩:=hrel;go_wp2;go_ret;exact⟨none,0,by rw[HR0.out];rfl,ad (by rw[HR0.out];exact World.ownsRow_nil _ _ _ _),ae _ _⟩
  case inr h =>
   clear hw1 hw2 hmn
   go_loopw [10,30] (fun gv iv wr=>∃(i:Nat) (va:Option Addr) (vc:Nat),iv=.int .i64 i/\i<=m.length/\i<=16/\gv=.slice va i vc/\Hid (wr.ownsRow w.heap.size 122 2 (.slice va i vc) i (cZ (m.take i)))/\Below w.heap.size w wr) (fun _ iv _=>m.length-(Go.RowKit.intOf iv).toNat)
   case atStart=>exact⟨0,none,0,rfl,by omega,by omega,rfl,ad (World.ownsRow_nil _ _ _ _),ae _ _⟩
   case round =>
    obtain⟨i,va,vc,rfl,hi,hi16,rfl,HO,hb⟩:=hrel;obtain⟨w4,rfl⟩:∃w4,w4=wr:=⟨_,rfl⟩;by_cases hp:i<m.length
    ·by_cases h16:i<16
     ·have hki:k+i<l.length:=by omega
      obtain⟨b,o,c',hv,k0,k1,k2⟩:=Ad (HC.out.next hb) (k+i) hki;cases hv;obtain⟨y,hy⟩:∃y,l[k+i]=y:=⟨_,rfl⟩;rw[hy]at k0 k1 k2;have hge:¬((16:Int)<=(i:Int)):=by omega
      have HTK:=ad (show cZ (m.take (i+1))=cZ (m.take i)++[.string ⟨y.2.kind.toArray⟩,.string ⟨y.2.data.toArray⟩]by
       rw[List.take_succ_eq_append_getElem hp,HMG.out i hp hki,hy];simp[cZ])
      obtain⟨K,hK⟩:∃K:ByteArray,⟨y.2.kind.toArray⟩=K:=⟨_,rfl⟩;obtain⟨Dd,hD⟩:∃Dd:ByteArray,⟨y.2.data.toArray⟩=Dd:=⟨_,rfl⟩;rw[hK]at k1 HTK;rw[hD]at k2 HTK;have hbA:Below w4.heap.size w4 ((w4.alloc (.cells #[.int .i64 y.1,.string K,.string Dd] 185)).alloc (.cells #[.string K,.string Dd] 122)):=((ae _ w4).alloc ab _).alloc (by simp) _;have HB:=ad (hb.trans (hbA.mono hb.size));have HO2:=ad (bX HO.out hbA);have hx:=mo (w4.alloc (.cells #[.int .i64 y.1,.string K,.string Dd] 185)) [.string K,.string Dd] 122;rw[World.size_alloc]at hx;have ea:o+(k+i)*3=o+k*3+i*3:=by omega
      rw[ea]at k0 k1 k2;clear hb hy hbA hK hD ea;go_wp2_with (at_builtin;refine fG rfl _ _ rfl Ly w.heap.size (.slice va i vc) i _ rfl HO2.out _ 1 [.string K,.string Dd] rfl hx (by simp[Value.oneCell']) ?c3 ?c2 ?_)
      case c3=>omega
      case c2=>have:=HB.out.size;simp only[World.size_alloc]at this ⊢;omega
      intro v' w5 hown hgr _;obtain⟨va5,vc5,rfl⟩:=iO hown;have HO5:=ad (show w5.ownsRow w.heap.size 122 2 (.slice va5 (i+1) vc5) (i+1) (cZ (m.take (i+1)))by rw[HTK.out];exact hown);have HB5:=ad (HB.out.grown hgr HB.out.size (fun k hk=>(HO2.out.lt k hk).1));clear hown hgr hx k0 k1 k2;go_wp2;exact⟨⟨i+1,va5,vc5,by go_num,by omega,by omega,rfl,HO5,HB5.out⟩,by simp[Go.RowKit.intOf];omega⟩
     ·obtain rfl:i=16:=by omega
      have HR1:=ad (show(eM l z).length=16 by rw[HR.out,List.length_take];omega);have hki:k+16<l.length:=by omega
      obtain⟨b,o,c',hv,k0,k1,k2⟩:=Ad (HC.out.next hb) (k+16) hki;cases hv;obtain⟨y,hy⟩:∃y,l[k+16]=y:=⟨_,rfl⟩;rw[hy]at k0 k1 k2;have ea:o+(k+16)*3=o+k*3+16*3:=by omega
      rw[ea]at k0 k1 k2;clear HC HMG ea hy;go_wp2;go_ret;exact⟨va,vc,by rw[HR1.out];rfl,ad (by rw[HR1.out,HR.out];exact bX HO.out (an (ae _ w4) _)),an hb _⟩
    ·obtain rfl:i=m.length:=by omega
     have HR1:=ad (show eM l z=m.take m.length by rw[HR.out,List.take_length,List.take_of_length_le (by omega)]);have HR2:=ad (show(eM l z).length=m.length by rw[HR1.out,List.take_length]);clear HC HMG;go_wp2;go_ret;exact⟨va,vc,by rw[HR2.out];rfl,ad (by rw[HR2.out,HR1.out];exact HO.out),hb⟩
theorem LP {W:World} {B n sz:Nat} {e:TypeId} {v:Value} {xs:List Value} (h:W.ownsRow B e sz v n xs):∃K:List (Nat×Obj),(∀p∈K,B<=p.1/\W.heap[p.1]?=some p.2)/\∀W':World,(∀p∈K,W'.heap[p.1]?=some p.2)->Cells W' v sz n xs:=by
 have h0:=h;rcases h0.2 with⟨h1,h2⟩|⟨g,cap,cur,h2,h3,h4,h5⟩
 ·exact⟨[],(fun p hp=>by cases hp),fun W' _=>aj (fv h (fun b hb _=>by rw[h1]at hb;cases hb))⟩
 ·refine⟨[(g,.cells cur e (0,0))],fun p hp=>by rw[aN.1 hp];exact⟨h3,h4⟩,fun W' hW=>aj (fv h (fun b hb _=>?_))⟩;rw[h2]at hb;cases hb;rw[h4];exact hW (g,.cells cur e (0,0)) (by simp)
set_option maxHeartbeats 2000000 in
theorem Ff {c:Nat} {st:Stat} {w:World} (S:ByteArray) (h:KV w c st) (hs:S.size<=maxLen) :
 Calls prog 17 #[.pointer (some ⟨c,0,none⟩),.string S] w fun e w'=>e=.returned (.int .i64 ((st.f S.data.toList).length:Nat))/\Below w.heap.size w w':=by
 obtain⟨x,t,fx,h1,h2⟩:=h;have HV:=ad (GS x st.f _ fx S.data.toList w h2 (by rw[<-Lib.size_eq];exact hs));rw[show(⟨S.data.toList.toArray⟩:ByteArray)=S from rfl]at HV;have c0:w.cell? ⟨c,0,none⟩=some (.pointer (some ⟨x,0,none⟩)):=aq h1 rfl;clear h1 h2;go_enter func17,ntmps17;go_wp2_with fail;refine HV.out.mono ?_;rintro e w1 ⟨rfl,rfl⟩;go_wp2;go_ret;exact⟨rfl,ae _ _⟩
set_option maxHeartbeats 2000000 in
theorem C' {c:Nat} {st:Stat} {w:World} (S:ByteArray) (z:Int) (h:KV w c st) (hs:S.size<=maxLen) (hn:st.n<=400000) :
 Calls prog 19 #[.pointer (some ⟨c,0,none⟩),.string S,.int .i64 z] w fun e w'=>∃ea ec,e=.returned (.slice ea (eM (st.f S.data.toList) z).length ec)/\Hid (w'.ownsRow w.heap.size 122 2 (.slice ea (eM (st.f S.data.toList) z).length ec) (eM (st.f S.data.toList) z).length (cZ (eM (st.f S.data.toList) z)))/\Below w.heap.size w w':=by
 obtain⟨x,t,fx,h1,h2⟩:=h;have HV:=ad (Dz x st.f _ fx S.data.toList z w h2 (by rw[<-Lib.size_eq];exact hs) (by omega));rw[show(⟨S.data.toList.toArray⟩:ByteArray)=S from rfl]at HV;obtain⟨L,hL⟩:∃L,eM (st.f S.data.toList) z=L:=⟨_,rfl⟩;rw[hL]at HV ⊢;have c0:w.cell? ⟨c,0,none⟩=some (.pointer (some ⟨x,0,none⟩)):=aq h1 rfl;clear h1 h2 hL;go_enter func19,ntmps19;go_wp2_with fail;refine HV.out.mono ?_;rintro e w1 ⟨ea,ec,rfl,ho,hb⟩;have HB:=ad hb;clear hb HV;go_wp2;go_ret;exact⟨ea,ec,rfl,ho,HB.out⟩
section
variable {R:(Nat->Prop)->(Nat->Prop)->World->Prop} {a w w':World} {nb lg sb:Nat} {room:Int} {s s':Lg.S} {fs fs':List Dk.ai} {st:Stat} {J:List (Nat×Obj)} {N:Nd}
theorem ah.less {J':List (Nat×Obj)} (h:ah R J a nb lg sb room s fs st N w) (hR:aC a R) (hs:∀p∈J',p∈J):ah R J' a nb lg sb room s fs st N w:=by
 obtain⟨P,K,Ko,h1,h2,hd,h3⟩:=h;refine⟨P,K,Ko,h1,h2,⟨⟨hd.1.1,fun p hp=>hd.1.2 p (hs p hp)⟩,hd.2⟩,h3.sub hR (fun p hp=>?_)⟩;rcases aK.1 hp with hp|hp
 ·exact aH _ hp
 ·exact aD _ (hs p hp)
theorem sw (h:ah R J a nb lg sb room s fs st N w) (hn:st.n<=400) (hm:st.m<=400) :
 Calls prog 40 #[.pointer (some ⟨N.r,0,none⟩)] w fun e w'=>∃c,e=.returned (.pointer (some ⟨c,0,none⟩))/\Hid (mZ w' c st)/\Below w.heap.size w w':=by
 obtain⟨J',h1,_⟩:=h.rep;exact zf h1 hn hm
def AM (J:List (Nat×Obj)) (va:Option Addr) (vc:Nat) (l:List Evt.Event) (K:List (Nat×Obj)):Prop:=(∀p∈K,∀q∈J,p.1≠q.1)/\∀W:World,(∀p∈K,W.heap[p.1]?=some p.2)->Cells W (.slice va l.length vc) 2 l.length (cZ l)
def gV (id err ver:Int) (va:Option Addr) (n vc:Nat):Value:=.iface 51 (.agg #[.int .i64 id,.int .i64 err,.int .i64 ver,.slice va n vc])
theorem KF {wa wb:World} {a1 a2 a3:Addr} {u1 u2 u3:Value} (h:wa.cell? a1=some u1/\wa.cell? a2=some u2/\wa.cell? a3=some u3) (hb:Below wa.heap.size wa wb):wb.cell? a1=some u1/\wb.cell? a2=some u2/\wb.cell? a3=some u3 :=
 ⟨cell_kept hb ab h.1,cell_kept hb ab h.2.1,cell_kept hb ab h.2.2⟩
set_option maxHeartbeats 16000000 in
set_option maxRecDepth 100000 in
theorem EI (cl id z:Int) (S:ByteArray) (h:ah R J a nb lg sb room s fs st N w) (hR:aC a R) (hs:S.size<=maxLen) (hn:N.outs.length<=1000) (hn4:st.n<=400) (hm4:st.m<=400) :
 Calls prog 67 #[.pointer (some ⟨nb,0,none⟩),.int .i64 cl,.agg #[.int .i64 id,.string S,.int .i64 z]] w fun e w'=>∃va vc,∃K:List (Nat×Obj),e=.returned (.tuple #[]) /\
  Hid (AM J va vc (eM (st.f S.data.toList) z) K) /\
  Hid (ah R (J++K) a nb lg sb room s fs st {N with outs:=N.outs++[(cl,gV id 0 ((st.f S.data.toList).length:Nat) va (eM (st.f S.data.toList) z).length vc)]} w'):=by
 obtain⟨W,hW⟩:∃W,w.alloc (.cells #[.int .i64 id,.string S,.int .i64 z] 49)=W:=⟨_,rfl⟩;have h2:=h.alloc hR (cs:=#[.int .i64 id,.string S,.int .i64 z]) (t:=49);obtain⟨bx,hbx⟩:∃bx,w.heap.size=bx:=⟨_,rfl⟩;rw[hW,hbx]at h2;obtain⟨cs,hcs⟩:∃cs:Array Value,#[.int .i64 id,.string S,.int .i64 z]=cs:=⟨_,rfl⟩;have hc0:cs[0]?=some (.int .i64 id):=by rw[<-hcs];rfl
 have hc1:cs[1]?=some (.string S):=by rw[<-hcs];rfl
 have hc2:cs[2]?=some (.int .i64 z):=by rw[<-hcs];rfl
 rw[hcs]at h2;have hmem:∀K:List (Nat×Obj),(bx,Obj.cells cs 49 (0,0))∈J++[(bx,Obj.cells cs 49 (0,0))]++K:=fun K=>by simp
 have HST:=ad (sw h2 hn4 hm4);obtain⟨L,hL⟩:∃L,eM (st.f S.data.toList) z=L:=⟨_,rfl⟩;obtain⟨ver,hver⟩:∃ver:Nat,(st.f S.data.toList).length=ver:=⟨_,rfl⟩;have HV:=ad (fun (Z:World) (c:Nat) (hc:mZ Z c st)=>Ff S hc.w hs);have HRE:=ad (fun (Z:World) (c:Nat) (hc:mZ Z c st)=>C' S z hc.w hs (by omega));rw[hver]at HV ⊢;rw[hL]at HRE ⊢;have c3:=h2.c3.2.2;have HSY:=ad (fun Z (hb:Below W.heap.size W Z) (K:List (Nat×Obj)) (hK:∀p∈K,W.heap.size<=p.1/\Z.heap[p.1]?=some p.2) va vc=>mx cl 51 (.agg #[.int .i64 id,.int .i64 0,.int .i64 (ver:Nat),.slice va L.length vc]) (h2.enter hR hb hK (fun _ _ _ h=>h)) hR hn);have HC:=ad (fun Z (hb:Below W.heap.size W Z)=>aB ((h2.next hR hb).lh (b:=bx) (i:=0) (t:=49) (by simp) hc0) (aB ((h2.next hR hb).lh (b:=bx) (i:=1) (t:=49) (by simp) hc1) ((h2.next hR hb).lh (b:=bx) (i:=2) (t:=49) (by simp) hc2)));have HJ:=ad (show ∀q∈J,q.1<W.heap.size from fun q hq=>(aA.1 (h2.bj q (aH _ hq))).1);have HW:=ad hW;have HBX:=ad hbx;clear h h2 hL hver hW hbx hcs hn4 hm4;go_enter func67,ntmps67;go_upto_region 1 with fail;rw[HW.out,HBX.out];go_wp2_with fail;refine HST.out.mono ?_;rintro e w1 ⟨c,rfl,hic,b1⟩;obtain⟨k0,k1,k2⟩:=HC.out w1 b1;have HBc:=ad b1.drew;have HIC:=ad hic.out;have HD:=ad (ae w1.heap.size w1).drew;clear hic b1 HST HC c3;go_wp2_with fail
 go_region_held3 (fun Z=>Z.cell? ⟨bx,0,none⟩=some (.int .i64 id)/\Z.cell? ⟨bx,1,none⟩=some (.string S)/\Z.cell? ⟨bx,2,none⟩=some (.int .i64 z))
  (first|exact⟨k0,k1,k2⟩|exact KF (by assumption) hb|exact HKX.out)
  (first
   |(go_at_call 17;refine(HV.out _ _ (HIC.out.next HD.out)).mono ?_;rintro e w2 ⟨rfl,hb⟩;have HBc:=ad (Below.up HBc.out ab hb);have HD:=ad (Below.up HD.out ab hb);try have HB2:=ad (Below.up HB2.out ab hb))
   |(go_at_call 19;refine(HRE.out _ _ (HIC.out.next HD.out)).mono ?_;rintro e w3 ⟨va,vc,rfl,HRW,hb⟩;have HBN:=ad HBc.out.size;have HBc:=ad (Below.up HBc.out ab hb);have HD:=ad (Below.up HD.out ab hb);have HB2:=ad (ae w3.heap.size w3))
   |(go_at_call 57;obtain⟨K,hK1,hK2⟩:=LP (bX HRW.out HB2.out);refine(HSY.out _ HBc.out K (fun p hp=>⟨Nat.le_trans HBN.out (hK1 p hp).1,(hK1 p hp).2⟩) va vc).mono ?_;rintro e w4 ⟨rfl,hx⟩;have HK2:=ad (show AM J va vc L K from⟨fun p hp q hq e=>by have:=(hK1 p hp).1;have:=HJ.out q hq;have:=HBN.out;omega,hK2⟩);have HX:=ad hx;have HKX:=ad (aB (hx.lh (i:=0) (hmem _) hc0) (aB (hx.lh (i:=1) (hmem _) hc1) (hx.lh (i:=2) (hmem _) hc2)))))
 all_goals go_wp2
 all_goals go_end0
 all_goals exact⟨va,vc,K,rfl,HK2,ad (HX.out.less hR (fun p hp=>by
  rcases aK.1 hp with hp|hp
  ·exact aH _ (aH _ hp)
  ·exact aD _ hp))⟩
end
end Go.Proofs.YtmgmknmaepjnoaaGreatDoor
