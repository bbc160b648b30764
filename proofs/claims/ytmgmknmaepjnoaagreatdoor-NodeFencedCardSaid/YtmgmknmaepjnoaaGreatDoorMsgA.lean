/-
  Messages: assertions to their types; their numbers, and which of these are right.
-/
import Derived.Test.YtmgmknmaepjnoaaGreatDoorMan
namespace Go.Proofs.YtmgmknmaepjnoaaGreatDoor
open Go.RowKit Go.Shelf Proofs.Tryz
section
variable {P:Program} {asserted:TypeId} {u:TypeDesc} {z:Value}
theorem cT (hu:P.underlying asserted=some u) (hn:∀m,u≠.interface m) (hz:(P.info? asserted).map (·.zero)=some (some z)) (t:TypeId) (v:Value) (xT:TypeId) (w:World) :
 (Instr.typeAssert (.iface t v) xT asserted true).run P w=.ok (.tuple #[if t=asserted then v else z,.bool (decide (t=asserted))]) w:=by
 obtain⟨i,hi,hz'⟩:=Option.map_eq_some_iff.1 hz;cases u with
 |interface m=>exact absurd rfl (hn m)
 |_ =>
  by_cases h:t=asserted
  ·simp[Instr.typeAssert,run_underlying hu,h]
  ·simp[Instr.typeAssert,run_underlying hu,h,zeroValue,typeInfo,hi,hz']
theorem iY (hu:P.underlying asserted=some u) (hn:∀m,u≠.interface m) (v:Value) (xT:TypeId) (w:World) :
 (Instr.typeAssert (.iface asserted v) xT asserted false).run P w=.ok v w:=by
 cases u with
 |interface m=>exact absurd rfl (hn m)
 |_=>simp[Instr.typeAssert,run_underlying hu]
end
theorem jD (t:TypeId) (v:Value) (w:World):(Instr.typeAssert (.iface t v) 60 212 true).run prog w=.ok (.tuple #[if t=212 then v else .agg #[.int .i64 0,.int .i64 0,.int .i64 0],.bool (decide (t=212))]) w:=cT underlying212 (fun _ h=>by cases h) (by kernel_rfl) t v _ w
theorem jC (t:TypeId) (v:Value) (w:World):(Instr.typeAssert (.iface t v) 60 215 true).run prog w=.ok (.tuple #[if t=215 then v else .agg #[.int .i64 0,.int .i64 0],.bool (decide (t=215))]) w:=cT underlying215 (fun _ h=>by cases h) (by kernel_rfl) t v _ w
theorem dS (t:TypeId) (v:Value) (w:World):(Instr.typeAssert (.iface t v) 60 45 true).run prog w=.ok (.tuple #[if t=45 then v else .agg #[.int .i64 0,.int .i64 0],.bool (decide (t=45))]) w:=cT underlying45 (fun _ h=>by cases h) (by kernel_rfl) t v _ w
theorem eZ (t:TypeId) (v:Value) (w:World):(Instr.typeAssert (.iface t v) 60 47 true).run prog w=.ok (.tuple #[if t=47 then v else .agg #[.int .i64 0,.slice none 0 0,.slice none 0 0,.slice none 0 0],.bool (decide (t=47))]) w:=cT underlying47 (fun _ h=>by cases h) (by kernel_rfl) t v _ w
theorem j8 (t:TypeId) (v:Value) (w:World):(Instr.typeAssert (.iface t v) 60 218 true).run prog w=.ok (.tuple #[if t=218 then v else .agg #[.int .i64 0],.bool (decide (t=218))]) w:=cT underlying218 (fun _ h=>by cases h) (by kernel_rfl) t v _ w
theorem ll (t:TypeId) (v:Value) (w:World):(Instr.typeAssert (.iface t v) 60 75 true).run prog w=.ok (.tuple #[if t=75 then v else .agg #[.int .i64 0,.int .i64 0,.int .i64 0,.slice none 0 0],.bool (decide (t=75))]) w:=cT underlying75 (fun _ h=>by cases h) (by kernel_rfl) t v _ w
theorem mz (t:TypeId) (v:Value) (w:World):(Instr.typeAssert (.iface t v) 60 77 true).run prog w=.ok (.tuple #[if t=77 then v else .agg #[.int .i64 0,.int .i64 0,.int .i64 0,.int .i64 0,.int .i64 0,.int .i64 0,.slice none 0 0],.bool (decide (t=77))]) w:=cT underlying77 (fun _ h=>by cases h) (by kernel_rfl) t v _ w
theorem rF (t:TypeId) (v:Value) (w:World):(Instr.typeAssert (.iface t v) 60 79 true).run prog w=.ok (.tuple #[if t=79 then v else .agg #[.int .i64 0,.int .i64 0,.int .i64 0],.bool (decide (t=79))]) w:=cT underlying79 (fun _ h=>by cases h) (by kernel_rfl) t v _ w
theorem vj (t:TypeId) (v:Value) (w:World):(Instr.typeAssert (.iface t v) 60 81 true).run prog w=.ok (.tuple #[if t=81 then v else .agg #[.int .i64 0,.int .i64 0,.int .i64 0,.int .i64 0],.bool (decide (t=81))]) w:=cT underlying81 (fun _ h=>by cases h) (by kernel_rfl) t v _ w
theorem vX (t:TypeId) (v:Value) (w:World):(Instr.typeAssert (.iface t v) 60 83 true).run prog w=.ok (.tuple #[if t=83 then v else .agg #[.int .i64 0,.int .i64 0,.int .i64 0,.int .i64 0],.bool (decide (t=83))]) w:=cT underlying83 (fun _ h=>by cases h) (by kernel_rfl) t v _ w
theorem fZ (t:TypeId) (v:Value) (w:World):(Instr.typeAssert (.iface t v) 60 42 true).run prog w=.ok (.tuple #[if t=42 then v else .agg #[.int .i64 0,.string ⟨#[]⟩,.int .i64 0,.int .i64 0,.int .i64 0,.slice none 0 0],.bool (decide (t=42))]) w:=cT underlying42 (fun _ h=>by cases h) (by kernel_rfl) t v _ w
theorem i7 (t:TypeId) (v:Value) (w:World):(Instr.typeAssert (.iface t v) 60 49 true).run prog w=.ok (.tuple #[if t=49 then v else .agg #[.int .i64 0,.string ⟨#[]⟩,.int .i64 0],.bool (decide (t=49))]) w:=cT underlying49 (fun _ h=>by cases h) (by kernel_rfl) t v _ w
theorem IG (t:TypeId) (v:Value) (w:World):(Instr.typeAssert (.iface t v) 60 91 true).run prog w=.ok (.tuple #[if t=91 then v else .agg #[.int .i64 0,.int .i64 0,.int .i64 0,.int .i64 0,.int .i64 0,.int .i64 0],.bool (decide (t=91))]) w:=cT underlying91 (fun _ h=>by cases h) (by kernel_rfl) t v _ w
theorem GD (t:TypeId) (v:Value) (w:World):(Instr.typeAssert (.iface t v) 60 51 true).run prog w=.ok (.tuple #[if t=51 then v else .agg #[.int .i64 0,.int .i64 0,.int .i64 0,.slice none 0 0],.bool (decide (t=51))]) w:=cT underlying51 (fun _ h=>by cases h) (by kernel_rfl) t v _ w
theorem JD (v:Value) (w:World):(Instr.typeAssert (.iface 47 v) 60 47 false).run prog w=.ok v w:=iY underlying47 (fun _ h=>by cases h) v _ w
theorem JF (v:Value) (w:World):(Instr.typeAssert (.iface 75 v) 60 75 false).run prog w=.ok v w:=iY underlying75 (fun _ h=>by cases h) v _ w
theorem CC (v:Value) (w:World):(Instr.typeAssert (.iface 77 v) 60 77 false).run prog w=.ok v w:=iY underlying77 (fun _ h=>by cases h) v _ w
theorem KB (v:Value) (w:World):(Instr.typeAssert (.iface 79 v) 60 79 false).run prog w=.ok v w:=iY underlying79 (fun _ h=>by cases h) v _ w
theorem Gc (v:Value) (w:World):(Instr.typeAssert (.iface 42 v) 60 42 false).run prog w=.ok v w:=iY underlying42 (fun _ h=>by cases h) v _ w
theorem JE (v:Value) (w:World):(Instr.typeAssert (.iface 49 v) 60 49 false).run prog w=.ok v w:=iY underlying49 (fun _ h=>by cases h) v _ w
theorem lM {w:World} {v:Value} {l:List Int} (h:Cells w v 1 l.length (aE l)) (i:Nat) (hi:i<l.length):∃(b o c:Nat),v=.slice (some ⟨b,o,none⟩) l.length c/\w.cell? ⟨b,o+i,none⟩=some (.int .i64 l[i]):=by
 rcases h.2 with⟨h0,_⟩|⟨b,o,c,h1,h2⟩
 ·omega
 ·exact⟨b,o,c,h1,h2 i _ (by simp[aE,aR hi])⟩
theorem an {w W:World} (h:Below w.heap.size w W) (o:Obj):Below w.heap.size w (W.alloc o):=h.alloc h.size o
theorem jx {W:World} {B b:Nat} (l:List Int) (hB:B<=W.heap.size) (hb:b=W.heap.size) (hl:l.length<=100) :
 (W.alloc (.cells (aE l).toArray 3)).ownsRow B 3 1 (.slice (some ⟨b,0,none⟩) l.length l.length) l.length (aE l):=by
 subst hb;have hl2:(aE l).length=l.length:=by simp[aE]
 have h:=World.ownsRow_lit (e:=3) (size:=1) W (aE l).toArray l.length hB (Nat.le_trans hl (by decide)) (by simp[aE]);simpa using h
def bF (n:Int):Bool:=decide (0<=n)&&decide (n<=274877906944)
theorem pf (n:Int) (w:World):Calls prog 80 #[.int .i64 n] w fun e w'=>e=.returned (.bool (bF n))/\w=w':=by
 by_cases h:0<=n
 ·have HN:=ad (show bF n=decide (n<=274877906944)by unfold bF;rw[decide_eq_true h];rfl);go_enter func80,ntmps80;go_wp2;go_ret;exact⟨by rw[HN.out];rfl,rfl⟩
 ·have HN:=ad (show bF n=false by unfold bF;rw[decide_eq_false h];rfl);go_enter func80,ntmps80;go_wp2;go_ret;exact⟨by rw[HN.out];rfl,rfl⟩
theorem Bx (n:Int) (w:World):Calls prog 79 #[.int .i64 n] w fun e w'=>e=.returned (.bool (!bF n))/\w=w':=by
 go_enter func79,ntmps79;go_wp2_with fail;refine(pf n w).mono ?_;rintro e w1 ⟨rfl,rfl⟩;go_wp2;go_ret;exact⟨rfl,rfl⟩
theorem Gg (v:Value) (l:List Int) (w:World) (hc:Cells w v 1 l.length (aE l)) (hn:l.length<=1000000) :
 Calls prog 123 #[v,.func (.func 79) #[] #[]] w fun e w'=>∃x:Int,e=.returned (.int .i64 x)/\Hid (decide (0<=x)=l.any fun n=>!bF n)/\Below w.heap.size w w':=by
 obtain⟨va,vc,rfl⟩:=aJ hc;have HC:=ad hc;clear hc;go_enter func123,ntmps123;go_wp2
 go_loopw [8] (fun lv wr=>∃i:Nat,lv=.int .i64 i/\i<=l.length/\Below w.heap.size w wr/\Hid ((l.any fun n=>!bF n)=(l.drop i).any fun n=>!bF n)) (fun lv _=>l.length-(intOf lv).toNat)
 case atStart=>exact⟨0,rfl,by omega,ae _ _,ad (by simp)⟩
 case round =>
  obtain⟨i,rfl,hi,hbw,HK⟩:=hrel;by_cases hp:i<l.length
  ·obtain⟨b,o,c,hv,q0⟩:=lM (Cells.next HC.out hbw) i hp;cases hv;obtain⟨n,hnn⟩:∃n,l[i]=n:=⟨_,rfl⟩;rw[hnn]at q0;have HF:=ad (Bx n wr);obtain⟨T,hT⟩:∃T,(!bF n)=T:=⟨_,rfl⟩;rw[hT]at HF;have HX:=ad (show(l.any fun n=>!bF n)=(T||(l.drop (i+1)).any fun n=>!bF n)by
    rw[HK.out,List.drop_eq_getElem_cons hp,<-hT,hnn];rfl)
   have HBW:=ad hbw;clear hbw HK hT hnn;go_wp2_with fail;refine HF.out.mono ?_;rintro e w1 ⟨rfl,rfl⟩;cases T with
   |true =>
    have HE:=ad (show(l.any fun n=>!bF n)=true by rw[HX.out];rfl);clear HF HX;go_wp2;go_ret;exact⟨_,rfl,ad (by rw[HE.out];simp),HBW.out⟩
   |false =>
    have HE:=ad (show(l.any fun n=>!bF n)=(l.drop (i+1)).any fun n=>!bF n by rw[HX.out];rfl);clear HF HX;go_wp2;exact⟨⟨i+1,by go_num,by omega,HBW.out,HE⟩,by simp[intOf];omega⟩
  ·have HE:=ad (show(l.any fun n=>!bF n)=false by rw[HK.out,List.drop_eq_nil_of_le (by omega)];rfl);obtain rfl:i=l.length:=by omega
   clear HK;go_wp2;go_ret;exact⟨-1,rfl,ad (by rw[HE.out];rfl),hbw⟩
theorem GA (v:Value) (l:List Int) (w:World) (hc:Cells w v 1 l.length (aE l)) (hn:l.length<=1000000) :
 Calls prog 78 #[v,.func (.func 79) #[] #[]] w fun e w'=>e=.returned (.bool (l.any fun n=>!bF n))/\Below w.heap.size w w':=by
 have HI:=ad (Gg v l w hc hn);clear hc;go_enter func78,ntmps78;go_wp2_with fail;refine HI.out.mono ?_;rintro e w1 ⟨x,rfl,HR,b1⟩;have HB:=ad b1;clear b1 HI;go_wp2;go_ret;exact⟨by rw[<-HR.out];rfl,HB.out⟩
theorem Bw (n:Int) (w:World):Calls prog 124 #[.int .i64 n] w fun e w'=>e=.returned (.bool (!bF n))/\w=w':=by
 go_enter func124,ntmps124;go_wp2_with fail;refine(pf n w).mono ?_;rintro e w1 ⟨rfl,rfl⟩;go_wp2;go_ret;exact⟨rfl,rfl⟩
theorem Gf (v:Value) (l:List Int) (w:World) (hc:Cells w v 1 l.length (aE l)) (hn:l.length<=1000000) :
 Calls prog 123 #[v,.func (.func 124) #[] #[]] w fun e w'=>∃x:Int,e=.returned (.int .i64 x)/\Hid (decide (0<=x)=l.any fun n=>!bF n)/\Below w.heap.size w w':=by
 obtain⟨va,vc,rfl⟩:=aJ hc;have HC:=ad hc;clear hc;go_enter func123,ntmps123;go_wp2
 go_loopw [8] (fun lv wr=>∃i:Nat,lv=.int .i64 i/\i<=l.length/\Below w.heap.size w wr/\Hid ((l.any fun n=>!bF n)=(l.drop i).any fun n=>!bF n)) (fun lv _=>l.length-(intOf lv).toNat)
 case atStart=>exact⟨0,rfl,by omega,ae _ _,ad (by simp)⟩
 case round =>
  obtain⟨i,rfl,hi,hbw,HK⟩:=hrel;by_cases hp:i<l.length
  ·obtain⟨b,o,c,hv,q0⟩:=lM (Cells.next HC.out hbw) i hp;cases hv;obtain⟨n,hnn⟩:∃n,l[i]=n:=⟨_,rfl⟩;rw[hnn]at q0;have HF:=ad (Bw n wr);obtain⟨T,hT⟩:∃T,(!bF n)=T:=⟨_,rfl⟩;rw[hT]at HF;have HX:=ad (show(l.any fun n=>!bF n)=(T||(l.drop (i+1)).any fun n=>!bF n)by
    rw[HK.out,List.drop_eq_getElem_cons hp,<-hT,hnn];rfl)
   have HBW:=ad hbw;clear hbw HK hT hnn;go_wp2_with fail;refine HF.out.mono ?_;rintro e w1 ⟨rfl,rfl⟩;cases T with
   |true =>
    have HE:=ad (show(l.any fun n=>!bF n)=true by rw[HX.out];rfl);clear HF HX;go_wp2;go_ret;exact⟨_,rfl,ad (by rw[HE.out];simp),HBW.out⟩
   |false =>
    have HE:=ad (show(l.any fun n=>!bF n)=(l.drop (i+1)).any fun n=>!bF n by rw[HX.out];rfl);clear HF HX;go_wp2;exact⟨⟨i+1,by go_num,by omega,HBW.out,HE⟩,by simp[intOf];omega⟩
  ·have HE:=ad (show(l.any fun n=>!bF n)=false by rw[HK.out,List.drop_eq_nil_of_le (by omega)];rfl);obtain rfl:i=l.length:=by omega
   clear HK;go_wp2;go_ret;exact⟨-1,rfl,ad (by rw[HE.out];rfl),hbw⟩
theorem Gz (v:Value) (l:List Int) (w:World) (hc:Cells w v 1 l.length (aE l)) (hn:l.length<=1000000) :
 Calls prog 78 #[v,.func (.func 124) #[] #[]] w fun e w'=>e=.returned (.bool (l.any fun n=>!bF n))/\Below w.heap.size w w':=by
 have HI:=ad (Gf v l w hc hn);clear hc;go_enter func78,ntmps78;go_wp2_with fail;refine HI.out.mono ?_;rintro e w1 ⟨x,rfl,HR,b1⟩;have HB:=ad b1;clear b1 HI;go_wp2;go_ret;exact⟨by rw[<-HR.out];rfl,HB.out⟩
set_option maxHeartbeats 16000000 in
set_option maxRecDepth 100000 in
theorem DK (x0:Int) (x1:Int) (x2:Int) (w:World):Calls prog 122 #[.iface 79 (.agg #[.int .i64 x0,.int .i64 x1,.int .i64 x2])] w fun e w'=>∃v,e=.returned (.tuple #[v,.bool true])/\w'.ownsRow w.heap.size 3 1 v 3 (aE [x0,x1,x2])/\Below w.heap.size w w':=by
 have a0:=rF;go_enter func122,ntmps122;go_wp2
 go_ret2
 exact⟨_,rfl,jx [x0,x1,x2] (by simp <;> omega) (by simp) (by simp),an (an (ae _ w) _) _⟩
set_option maxHeartbeats 16000000 in
set_option maxRecDepth 100000 in
theorem Bv (x0:Int) (x1:Int) (x2:Int) (w:World):Calls prog 77 #[.iface 79 (.agg #[.int .i64 x0,.int .i64 x1,.int .i64 x2])] w fun e w'=>∃v,e=.returned (.tuple #[v,.bool true])/\w'.ownsRow w.heap.size 3 1 v 3 (aE [x0,x1,x2])/\Below w.heap.size w w':=by
 have a0:=jD;have a1:=jC;have a2:=dS;have a3:=eZ;have a4:=j8;have a5:=ll;have a6:=mz;obtain⟨W,hW⟩:∃W,(((((((w).alloc (.cells #[.int .i64 0,.int .i64 0,.int .i64 0] 212)).alloc (.cells #[.int .i64 0,.int .i64 0] 215)).alloc (.cells #[.int .i64 0,.int .i64 0] 45)).alloc (.cells #[.int .i64 0,.slice none 0 0,.slice none 0 0,.slice none 0 0] 47)).alloc (.cells #[.int .i64 0] 218)).alloc (.cells #[.int .i64 0,.int .i64 0,.int .i64 0,.slice none 0 0] 75)).alloc (.cells #[.int .i64 0,.int .i64 0,.int .i64 0,.int .i64 0,.int .i64 0,.int .i64 0,.slice none 0 0] 77)=W:=⟨_,rfl⟩;have HB:=ad (show Below w.heap.size w W by
  rw[<-hW];exact an (an (an (an (an (an (an (ae _ w) _) _) _) _) _) _) _)
 have HW:=ad hW;clear hW;go_enter func77,ntmps77;go_wp2_with fail;rw[HW.out];refine(DK x0 x1 x2 W).mono ?_;rintro e w1 ⟨v,rfl,ho,hb⟩;have HO:=ad (aB (bV ho HB.out.size) (Below.up HB.out ab hb));clear ho hb;go_wp2
 go_ret2
 exact⟨v,rfl,HO.out.1,HO.out.2⟩
set_option maxHeartbeats 16000000 in
set_option maxRecDepth 100000 in
theorem DJ (x0:Int) (x1:Int) (x2:Int) (x3:Int) (w:World):Calls prog 122 #[.iface 81 (.agg #[.int .i64 x0,.int .i64 x1,.int .i64 x2,.int .i64 x3])] w fun e w'=>∃v,e=.returned (.tuple #[v,.bool true])/\w'.ownsRow w.heap.size 3 1 v 4 (aE [x0,x1,x2,x3])/\Below w.heap.size w w':=by
 have a0:=rF;have a1:=vj;go_enter func122,ntmps122;go_wp2
 go_ret2
 exact⟨_,rfl,jx [x0,x1,x2,x3] (by simp <;> omega) (by simp) (by simp),an (an (an (ae _ w) _) _) _⟩
set_option maxHeartbeats 16000000 in
set_option maxRecDepth 100000 in
theorem Bu (x0:Int) (x1:Int) (x2:Int) (x3:Int) (w:World):Calls prog 77 #[.iface 81 (.agg #[.int .i64 x0,.int .i64 x1,.int .i64 x2,.int .i64 x3])] w fun e w'=>∃v,e=.returned (.tuple #[v,.bool true])/\w'.ownsRow w.heap.size 3 1 v 4 (aE [x0,x1,x2,x3])/\Below w.heap.size w w':=by
 have a0:=jD;have a1:=jC;have a2:=dS;have a3:=eZ;have a4:=j8;have a5:=ll;have a6:=mz;obtain⟨W,hW⟩:∃W,(((((((w).alloc (.cells #[.int .i64 0,.int .i64 0,.int .i64 0] 212)).alloc (.cells #[.int .i64 0,.int .i64 0] 215)).alloc (.cells #[.int .i64 0,.int .i64 0] 45)).alloc (.cells #[.int .i64 0,.slice none 0 0,.slice none 0 0,.slice none 0 0] 47)).alloc (.cells #[.int .i64 0] 218)).alloc (.cells #[.int .i64 0,.int .i64 0,.int .i64 0,.slice none 0 0] 75)).alloc (.cells #[.int .i64 0,.int .i64 0,.int .i64 0,.int .i64 0,.int .i64 0,.int .i64 0,.slice none 0 0] 77)=W:=⟨_,rfl⟩;have HB:=ad (show Below w.heap.size w W by
  rw[<-hW];exact an (an (an (an (an (an (an (ae _ w) _) _) _) _) _) _) _)
 have HW:=ad hW;clear hW;go_enter func77,ntmps77;go_wp2_with fail;rw[HW.out];refine(DJ x0 x1 x2 x3 W).mono ?_;rintro e w1 ⟨v,rfl,ho,hb⟩;have HO:=ad (aB (bV ho HB.out.size) (Below.up HB.out ab hb));clear ho hb;go_wp2
 go_ret2
 exact⟨v,rfl,HO.out.1,HO.out.2⟩
set_option maxHeartbeats 16000000 in
set_option maxRecDepth 100000 in
theorem Bq (x0:Int) (x1:Int) (x2:Int) (x3:Int) (w:World):Calls prog 122 #[.iface 83 (.agg #[.int .i64 x0,.int .i64 x1,.int .i64 x2,.int .i64 x3])] w fun e w'=>∃v,e=.returned (.tuple #[v,.bool true])/\w'.ownsRow w.heap.size 3 1 v 4 (aE [x0,x1,x2,x3])/\Below w.heap.size w w':=by
 have a0:=rF;have a1:=vj;have a2:=vX;go_enter func122,ntmps122;go_wp2
 go_ret2
 exact⟨_,rfl,jx [x0,x1,x2,x3] (by simp <;> omega) (by simp) (by simp),an (an (an (an (ae _ w) _) _) _) _⟩
set_option maxHeartbeats 16000000 in
set_option maxRecDepth 100000 in
theorem zE (x0:Int) (x1:Int) (x2:Int) (x3:Int) (w:World):Calls prog 77 #[.iface 83 (.agg #[.int .i64 x0,.int .i64 x1,.int .i64 x2,.int .i64 x3])] w fun e w'=>∃v,e=.returned (.tuple #[v,.bool true])/\w'.ownsRow w.heap.size 3 1 v 4 (aE [x0,x1,x2,x3])/\Below w.heap.size w w':=by
 have a0:=jD;have a1:=jC;have a2:=dS;have a3:=eZ;have a4:=j8;have a5:=ll;have a6:=mz;obtain⟨W,hW⟩:∃W,(((((((w).alloc (.cells #[.int .i64 0,.int .i64 0,.int .i64 0] 212)).alloc (.cells #[.int .i64 0,.int .i64 0] 215)).alloc (.cells #[.int .i64 0,.int .i64 0] 45)).alloc (.cells #[.int .i64 0,.slice none 0 0,.slice none 0 0,.slice none 0 0] 47)).alloc (.cells #[.int .i64 0] 218)).alloc (.cells #[.int .i64 0,.int .i64 0,.int .i64 0,.slice none 0 0] 75)).alloc (.cells #[.int .i64 0,.int .i64 0,.int .i64 0,.int .i64 0,.int .i64 0,.int .i64 0,.slice none 0 0] 77)=W:=⟨_,rfl⟩;have HB:=ad (show Below w.heap.size w W by
  rw[<-hW];exact an (an (an (an (an (an (an (ae _ w) _) _) _) _) _) _) _)
 have HW:=ad hW;clear hW;go_enter func77,ntmps77;go_wp2_with fail;rw[HW.out];refine(Bq x0 x1 x2 x3 W).mono ?_;rintro e w1 ⟨v,rfl,ho,hb⟩;have HO:=ad (aB (bV ho HB.out.size) (Below.up HB.out ab hb));clear ho hb;go_wp2
 go_ret2
 exact⟨v,rfl,HO.out.1,HO.out.2⟩
set_option maxHeartbeats 16000000 in
set_option maxRecDepth 100000 in
theorem xY (x0:Int) (x1:ByteArray) (x2:Int) (x3:Int) (x4:Int) (x5:Option Addr) (y5 z5:Nat) (w:World):Calls prog 122 #[.iface 42 (.agg #[.int .i64 x0,.string x1,.int .i64 x2,.int .i64 x3,.int .i64 x4,.slice x5 y5 z5])] w fun e w'=>∃v,e=.returned (.tuple #[v,.bool true])/\w'.ownsRow w.heap.size 3 1 v 1 (aE [x0])/\Below w.heap.size w w':=by
 have a0:=rF;have a1:=vj;have a2:=vX;have a3:=fZ;go_enter func122,ntmps122;go_wp2
 go_ret2
 exact⟨_,rfl,jx [x0] (by simp <;> omega) (by simp) (by simp),an (an (an (an (an (ae _ w) _) _) _) _) _⟩
set_option maxHeartbeats 16000000 in
set_option maxRecDepth 100000 in
theorem vy (x0:Int) (x1:ByteArray) (x2:Int) (x3:Int) (x4:Int) (x5:Option Addr) (y5 z5:Nat) (w:World):Calls prog 77 #[.iface 42 (.agg #[.int .i64 x0,.string x1,.int .i64 x2,.int .i64 x3,.int .i64 x4,.slice x5 y5 z5])] w fun e w'=>∃v,e=.returned (.tuple #[v,.bool true])/\w'.ownsRow w.heap.size 3 1 v 1 (aE [x0])/\Below w.heap.size w w':=by
 have a0:=jD;have a1:=jC;have a2:=dS;have a3:=eZ;have a4:=j8;have a5:=ll;have a6:=mz;obtain⟨W,hW⟩:∃W,(((((((w).alloc (.cells #[.int .i64 0,.int .i64 0,.int .i64 0] 212)).alloc (.cells #[.int .i64 0,.int .i64 0] 215)).alloc (.cells #[.int .i64 0,.int .i64 0] 45)).alloc (.cells #[.int .i64 0,.slice none 0 0,.slice none 0 0,.slice none 0 0] 47)).alloc (.cells #[.int .i64 0] 218)).alloc (.cells #[.int .i64 0,.int .i64 0,.int .i64 0,.slice none 0 0] 75)).alloc (.cells #[.int .i64 0,.int .i64 0,.int .i64 0,.int .i64 0,.int .i64 0,.int .i64 0,.slice none 0 0] 77)=W:=⟨_,rfl⟩;have HB:=ad (show Below w.heap.size w W by
  rw[<-hW];exact an (an (an (an (an (an (an (ae _ w) _) _) _) _) _) _) _)
 have HW:=ad hW;clear hW;go_enter func77,ntmps77;go_wp2_with fail;rw[HW.out];refine(xY x0 x1 x2 x3 x4 x5 y5 z5 W).mono ?_;rintro e w1 ⟨v,rfl,ho,hb⟩;have HO:=ad (aB (bV ho HB.out.size) (Below.up HB.out ab hb));clear ho hb;go_wp2
 go_ret2
 exact⟨v,rfl,HO.out.1,HO.out.2⟩
set_option maxHeartbeats 16000000 in
set_option maxRecDepth 100000 in
theorem Br (x0:Int) (x1:ByteArray) (x2:Int) (w:World):Calls prog 122 #[.iface 49 (.agg #[.int .i64 x0,.string x1,.int .i64 x2])] w fun e w'=>∃v,e=.returned (.tuple #[v,.bool true])/\w'.ownsRow w.heap.size 3 1 v 1 (aE [x0])/\Below w.heap.size w w':=by
 have a0:=rF;have a1:=vj;have a2:=vX;have a3:=fZ;have a4:=i7;go_enter func122,ntmps122;go_wp2
 go_ret2
 exact⟨_,rfl,jx [x0] (by simp <;> omega) (by simp) (by simp),an (an (an (an (an (an (ae _ w) _) _) _) _) _) _⟩
set_option maxHeartbeats 16000000 in
set_option maxRecDepth 100000 in
theorem zF (x0:Int) (x1:ByteArray) (x2:Int) (w:World):Calls prog 77 #[.iface 49 (.agg #[.int .i64 x0,.string x1,.int .i64 x2])] w fun e w'=>∃v,e=.returned (.tuple #[v,.bool true])/\w'.ownsRow w.heap.size 3 1 v 1 (aE [x0])/\Below w.heap.size w w':=by
 have a0:=jD;have a1:=jC;have a2:=dS;have a3:=eZ;have a4:=j8;have a5:=ll;have a6:=mz;obtain⟨W,hW⟩:∃W,(((((((w).alloc (.cells #[.int .i64 0,.int .i64 0,.int .i64 0] 212)).alloc (.cells #[.int .i64 0,.int .i64 0] 215)).alloc (.cells #[.int .i64 0,.int .i64 0] 45)).alloc (.cells #[.int .i64 0,.slice none 0 0,.slice none 0 0,.slice none 0 0] 47)).alloc (.cells #[.int .i64 0] 218)).alloc (.cells #[.int .i64 0,.int .i64 0,.int .i64 0,.slice none 0 0] 75)).alloc (.cells #[.int .i64 0,.int .i64 0,.int .i64 0,.int .i64 0,.int .i64 0,.int .i64 0,.slice none 0 0] 77)=W:=⟨_,rfl⟩;have HB:=ad (show Below w.heap.size w W by
  rw[<-hW];exact an (an (an (an (an (an (an (ae _ w) _) _) _) _) _) _) _)
 have HW:=ad hW;clear hW;go_enter func77,ntmps77;go_wp2_with fail;rw[HW.out];refine(Br x0 x1 x2 W).mono ?_;rintro e w1 ⟨v,rfl,ho,hb⟩;have HO:=ad (aB (bV ho HB.out.size) (Below.up HB.out ab hb));clear ho hb;go_wp2
 go_ret2
 exact⟨v,rfl,HO.out.1,HO.out.2⟩
set_option maxHeartbeats 16000000 in
set_option maxRecDepth 100000 in
theorem xZ (x0:Int) (x1:Int) (w:World):Calls prog 77 #[.iface 45 (.agg #[.int .i64 x0,.int .i64 x1])] w fun e w'=>∃v,e=.returned (.tuple #[v,.bool true])/\w'.ownsRow w.heap.size 3 1 v 2 (aE [x0,x1])/\Below w.heap.size w w':=by
 have a0:=jD;have a1:=jC;have a2:=dS;go_enter func77,ntmps77;go_wp2
 go_ret2
 exact⟨_,rfl,jx [x0,x1] (by simp <;> omega) (by simp) (by simp),an (an (an (an (ae _ w) _) _) _) _⟩
set_option maxHeartbeats 16000000 in
set_option maxRecDepth 100000 in
theorem zD (x0:Int) (x1:Option Addr) (y1 z1:Nat) (x2:Option Addr) (y2 z2:Nat) (x3:Option Addr) (y3 z3:Nat) (w:World):Calls prog 77 #[.iface 47 (.agg #[.int .i64 x0,.slice x1 y1 z1,.slice x2 y2 z2,.slice x3 y3 z3])] w fun e w'=>∃v,e=.returned (.tuple #[v,.bool true])/\w'.ownsRow w.heap.size 3 1 v 1 (aE [x0])/\Below w.heap.size w w':=by
 have a0:=jD;have a1:=jC;have a2:=dS;have a3:=eZ;go_enter func77,ntmps77;go_wp2
 go_ret2
 exact⟨_,rfl,jx [x0] (by simp <;> omega) (by simp) (by simp),an (an (an (an (an (ae _ w) _) _) _) _) _⟩
set_option maxHeartbeats 16000000 in
set_option maxRecDepth 100000 in
theorem zH (x0:Int) (x1:Int) (x2:Int) (x3:Option Addr) (y3 z3:Nat) (w:World):Calls prog 77 #[.iface 75 (.agg #[.int .i64 x0,.int .i64 x1,.int .i64 x2,.slice x3 y3 z3])] w fun e w'=>∃v,e=.returned (.tuple #[v,.bool true])/\w'.ownsRow w.heap.size 3 1 v 3 (aE [x0,x1,x2])/\Below w.heap.size w w':=by
 have a0:=jD;have a1:=jC;have a2:=dS;have a3:=eZ;have a4:=j8;have a5:=ll;go_enter func77,ntmps77;go_wp2
 go_ret2
 exact⟨_,rfl,jx [x0,x1,x2] (by simp <;> omega) (by simp) (by simp),an (an (an (an (an (an (an (ae _ w) _) _) _) _) _) _) _⟩
set_option maxHeartbeats 16000000 in
set_option maxRecDepth 100000 in
theorem zG (x0:Int) (x1:Int) (x2:Int) (x3:Int) (x4:Int) (x5:Int) (x6:Option Addr) (y6 z6:Nat) (w:World):Calls prog 77 #[.iface 77 (.agg #[.int .i64 x0,.int .i64 x1,.int .i64 x2,.int .i64 x3,.int .i64 x4,.int .i64 x5,.slice x6 y6 z6])] w fun e w'=>∃v,e=.returned (.tuple #[v,.bool true])/\w'.ownsRow w.heap.size 3 1 v 6 (aE [x0,x1,x2,x3,x4,x5])/\Below w.heap.size w w':=by
 have a0:=jD;have a1:=jC;have a2:=dS;have a3:=eZ;have a4:=j8;have a5:=ll;have a6:=mz;go_enter func77,ntmps77;go_wp2
 go_ret2
 exact⟨_,rfl,jx [x0,x1,x2,x3,x4,x5] (by simp <;> omega) (by simp) (by simp),an (an (an (an (an (an (an (an (ae _ w) _) _) _) _) _) _) _) _⟩
end Go.Proofs.YtmgmknmaepjnoaaGreatDoor
