/-
  Messages: assertions to their types; their numbers, and which of these are right.
-/
import Derived.Test.YtmgmknmaepjnoaaGreatDoorMan
namespace Go.Proofs.YtmgmknmaepjnoaaGreatDoor
open Go.RowKit Go.Shelf Proofs.Tryz
section
variable {P:Program} {asserted:TypeId} {u:TypeDesc} {z:Value}
theorem cP (hu:P.underlying asserted=some u) (hn:∀m,u≠.interface m) (hz:(P.info? asserted).map (·.zero)=some (some z)) (t:TypeId) (v:Value) (xT:TypeId) (w:World) :
 (Instr.typeAssert (.iface t v) xT asserted true).run P w=.ok (.tuple #[if t=asserted then v else z,.bool (decide (t=asserted))]) w:=by
 obtain⟨i,hi,hz'⟩:=Option.map_eq_some_iff.1 hz
 cases u with
 |interface m=>exact absurd rfl (hn m)
 |_ =>
  by_cases h:t=asserted
  ·simp[Instr.typeAssert,run_underlying hu,h]
  ·simp[Instr.typeAssert,run_underlying hu,h,zeroValue,typeInfo,hi,hz']
theorem js (hu:P.underlying asserted=some u) (hn:∀m,u≠.interface m) (v:Value) (xT:TypeId) (w:World) :
 (Instr.typeAssert (.iface asserted v) xT asserted false).run P w=.ok v w:=by
 cases u with
 |interface m=>exact absurd rfl (hn m)
 |_=>simp[Instr.typeAssert,run_underlying hu]
end
theorem ma (t:TypeId) (v:Value) (w:World):(Instr.typeAssert (.iface t v) 60 212 true).run prog w=.ok (.tuple #[if t=212 then v else .agg #[.int .i64 0,.int .i64 0,.int .i64 0],.bool (decide (t=212))]) w:=cP underlying212 (fun _ h=>by cases h) (by kernel_rfl) t v _ w
theorem l' (t:TypeId) (v:Value) (w:World):(Instr.typeAssert (.iface t v) 60 215 true).run prog w=.ok (.tuple #[if t=215 then v else .agg #[.int .i64 0,.int .i64 0],.bool (decide (t=215))]) w:=cP underlying215 (fun _ h=>by cases h) (by kernel_rfl) t v _ w
theorem fH (t:TypeId) (v:Value) (w:World):(Instr.typeAssert (.iface t v) 60 45 true).run prog w=.ok (.tuple #[if t=45 then v else .agg #[.int .i64 0,.int .i64 0],.bool (decide (t=45))]) w:=cP underlying45 (fun _ h=>by cases h) (by kernel_rfl) t v _ w
theorem gN (t:TypeId) (v:Value) (w:World):(Instr.typeAssert (.iface t v) 60 47 true).run prog w=.ok (.tuple #[if t=47 then v else .agg #[.int .i64 0,.slice none 0 0,.slice none 0 0,.slice none 0 0],.bool (decide (t=47))]) w:=cP underlying47 (fun _ h=>by cases h) (by kernel_rfl) t v _ w
theorem pj (t:TypeId) (v:Value) (w:World):(Instr.typeAssert (.iface t v) 60 218 true).run prog w=.ok (.tuple #[if t=218 then v else .agg #[.int .i64 0],.bool (decide (t=218))]) w:=cP underlying218 (fun _ h=>by cases h) (by kernel_rfl) t v _ w
theorem rr (t:TypeId) (v:Value) (w:World):(Instr.typeAssert (.iface t v) 60 75 true).run prog w=.ok (.tuple #[if t=75 then v else .agg #[.int .i64 0,.int .i64 0,.int .i64 0,.slice none 0 0],.bool (decide (t=75))]) w:=cP underlying75 (fun _ h=>by cases h) (by kernel_rfl) t v _ w
theorem rq (t:TypeId) (v:Value) (w:World):(Instr.typeAssert (.iface t v) 60 77 true).run prog w=.ok (.tuple #[if t=77 then v else .agg #[.int .i64 0,.int .i64 0,.int .i64 0,.int .i64 0,.int .i64 0,.int .i64 0,.slice none 0 0],.bool (decide (t=77))]) w:=cP underlying77 (fun _ h=>by cases h) (by kernel_rfl) t v _ w
theorem zF (t:TypeId) (v:Value) (w:World):(Instr.typeAssert (.iface t v) 60 79 true).run prog w=.ok (.tuple #[if t=79 then v else .agg #[.int .i64 0,.int .i64 0,.int .i64 0],.bool (decide (t=79))]) w:=cP underlying79 (fun _ h=>by cases h) (by kernel_rfl) t v _ w
theorem Fo (t:TypeId) (v:Value) (w:World):(Instr.typeAssert (.iface t v) 60 81 true).run prog w=.ok (.tuple #[if t=81 then v else .agg #[.int .i64 0,.int .i64 0,.int .i64 0,.int .i64 0],.bool (decide (t=81))]) w:=cP underlying81 (fun _ h=>by cases h) (by kernel_rfl) t v _ w
theorem BT (t:TypeId) (v:Value) (w:World):(Instr.typeAssert (.iface t v) 60 83 true).run prog w=.ok (.tuple #[if t=83 then v else .agg #[.int .i64 0,.int .i64 0,.int .i64 0,.int .i64 0],.bool (decide (t=83))]) w:=cP underlying83 (fun _ h=>by cases h) (by kernel_rfl) t v _ w
theorem gW (t:TypeId) (v:Value) (w:World):(Instr.typeAssert (.iface t v) 60 42 true).run prog w=.ok (.tuple #[if t=42 then v else .agg #[.int .i64 0,.string ⟨#[]⟩,.int .i64 0,.int .i64 0,.int .i64 0,.slice none 0 0],.bool (decide (t=42))]) w:=cP underlying42 (fun _ h=>by cases h) (by kernel_rfl) t v _ w
theorem jU (t:TypeId) (v:Value) (w:World):(Instr.typeAssert (.iface t v) 60 49 true).run prog w=.ok (.tuple #[if t=49 then v else .agg #[.int .i64 0,.string ⟨#[]⟩,.int .i64 0],.bool (decide (t=49))]) w:=cP underlying49 (fun _ h=>by cases h) (by kernel_rfl) t v _ w
theorem GU (t:TypeId) (v:Value) (w:World):(Instr.typeAssert (.iface t v) 60 91 true).run prog w=.ok (.tuple #[if t=91 then v else .agg #[.int .i64 0,.int .i64 0,.int .i64 0,.int .i64 0,.int .i64 0,.int .i64 0],.bool (decide (t=91))]) w:=cP underlying91 (fun _ h=>by cases h) (by kernel_rfl) t v _ w
theorem Fm (t:TypeId) (v:Value) (w:World):(Instr.typeAssert (.iface t v) 60 51 true).run prog w=.ok (.tuple #[if t=51 then v else .agg #[.int .i64 0,.int .i64 0,.int .i64 0,.slice none 0 0],.bool (decide (t=51))]) w:=cP underlying51 (fun _ h=>by cases h) (by kernel_rfl) t v _ w
theorem Is (v:Value) (w:World):(Instr.typeAssert (.iface 47 v) 60 47 false).run prog w=.ok v w:=js underlying47 (fun _ h=>by cases h) v _ w
theorem BA (v:Value) (w:World):(Instr.typeAssert (.iface 77 v) 60 77 false).run prog w=.ok v w:=js underlying77 (fun _ h=>by cases h) v _ w
theorem Jd (v:Value) (w:World):(Instr.typeAssert (.iface 79 v) 60 79 false).run prog w=.ok v w:=js underlying79 (fun _ h=>by cases h) v _ w
theorem ER (v:Value) (w:World):(Instr.typeAssert (.iface 42 v) 60 42 false).run prog w=.ok v w:=js underlying42 (fun _ h=>by cases h) v _ w
theorem It (v:Value) (w:World):(Instr.typeAssert (.iface 49 v) 60 49 false).run prog w=.ok v w:=js underlying49 (fun _ h=>by cases h) v _ w
theorem lx {w:World} {v:Value} {l:List Int} (h:Cells w v 1 l.length (aD l)) (i:Nat) (hi:i<l.length):∃(b o c:Nat),v=.slice (some ⟨b,o,none⟩) l.length c∧w.cell? ⟨b,o+i,none⟩=some (.int .i64 l[i]):=by
 rcases h.2 with⟨h0,_⟩|⟨b,o,c,h1,h2⟩
 ·omega
 ·exact⟨b,o,c,h1,h2 i _ (by simp[aD,aT hi])⟩
theorem ay {w W:World} (h:Below w.heap.size w W) (o:Obj):Below w.heap.size w (W.alloc o):=h.alloc h.size o
theorem l8 {W:World} {B b:Nat} (l:List Int) (hB:B≤W.heap.size) (hb:b=W.heap.size) (hl:l.length≤100) :
 (W.alloc (.cells (aD l).toArray 3)).ownsRow B 3 1 (.slice (some ⟨b,0,none⟩) l.length l.length) l.length (aD l):=by
 subst hb
 have hl2:(aD l).length=l.length:=by simp[aD]
 have h:=World.ownsRow_lit (e:=3) (size:=1) W (aD l).toArray l.length hB (Nat.le_trans hl (by decide)) (by simp[aD])
 simpa using h
def cp (n:Int):Bool:=decide (0≤n)&&decide (n≤274877906944)
theorem oL (n:Int) (w:World):Calls prog 80 #[.int .i64 n] w fun e w'=>e=.returned (.bool (cp n))∧w=w':=by
 by_cases h:0≤n
 ·have HN:=ad (show cp n=decide (n≤274877906944)by unfold cp;rw[decide_eq_true h];rfl)
  go_enter func80,ntmps80
  go_wp2
  go_ret
  exact⟨by rw[HN.out];rfl,rfl⟩
 ·have HN:=ad (show cp n=false by unfold cp;rw[decide_eq_false h];rfl)
  go_enter func80,ntmps80
  go_wp2
  go_ret
  exact⟨by rw[HN.out];rfl,rfl⟩
theorem Aw (n:Int) (w:World):Calls prog 79 #[.int .i64 n] w fun e w'=>e=.returned (.bool (!cp n))∧w=w':=by
 go_enter func79,ntmps79
 go_wp2_with fail
 refine(oL n w).mono ?_
 rintro e w1 ⟨rfl,rfl⟩
 go_wp2
 go_ret
 exact⟨rfl,rfl⟩
theorem EV (v:Value) (l:List Int) (w:World) (hc:Cells w v 1 l.length (aD l)) (hn:l.length≤1000000) :
 Calls prog 123 #[v,.func (.func 79) #[] #[]] w fun e w'=>∃x:Int,e=.returned (.int .i64 x)∧Hid (decide (0≤x)=l.any fun n=>!cp n)∧Below w.heap.size w w':=by
 obtain⟨va,vc,rfl⟩:=aH hc
 have HC:=ad hc
 clear hc
 go_enter func123,ntmps123
 go_wp2
 go_loopw [8] (fun lv wr=>∃i:Nat,lv=.int .i64 i∧i≤l.length∧Below w.heap.size w wr∧Hid ((l.any fun n=>!cp n)=(l.drop i).any fun n=>!cp n)) (fun lv _=>l.length-(intOf lv).toNat)
 case atStart=>exact⟨0,rfl,by omega,ae _ _,ad (by simp)⟩
 case round =>
  obtain⟨i,rfl,hi,hbw,HK⟩:=hrel
  by_cases hp:i<l.length
  ·obtain⟨b,o,c,hv,q0⟩:=lx (Cells.next HC.out hbw) i hp
   cases hv
   obtain⟨n,hnn⟩:∃n,l[i]=n:=⟨_,rfl⟩
   rw[hnn]at q0
   have HF:=ad (Aw n wr)
   obtain⟨T,hT⟩:∃T,(!cp n)=T:=⟨_,rfl⟩
   rw[hT]at HF
   have HX:=ad (show(l.any fun n=>!cp n)=(T||(l.drop (i+1)).any fun n=>!cp n)by
    rw[HK.out,List.drop_eq_getElem_cons hp,←hT,hnn]
    rfl)
   have HBW:=ad hbw
   clear hbw HK hT hnn
   go_wp2_with fail
   refine HF.out.mono ?_
   rintro e w1 ⟨rfl,rfl⟩
   cases T with
   |true =>
    have HE:=ad (show(l.any fun n=>!cp n)=true by rw[HX.out];rfl)
    clear HF HX
    go_wp2
    go_ret
    exact⟨_,rfl,ad (by rw[HE.out];simp),HBW.out⟩
   |false =>
    have HE:=ad (show(l.any fun n=>!cp n)=(l.drop (i+1)).any fun n=>!cp n by rw[HX.out];rfl)
    clear HF HX
    go_wp2
    exact⟨⟨i+1,by go_num,by omega,HBW.out,HE⟩,by simp[intOf];omega⟩
  ·have HE:=ad (show(l.any fun n=>!cp n)=false by rw[HK.out,List.drop_eq_nil_of_le (by omega)];rfl)
   obtain rfl:i=l.length:=by omega
   clear HK
   go_wp2
   go_ret
   exact⟨-1,rfl,ad (by rw[HE.out];rfl),hbw⟩
theorem Fj (v:Value) (l:List Int) (w:World) (hc:Cells w v 1 l.length (aD l)) (hn:l.length≤1000000) :
 Calls prog 78 #[v,.func (.func 79) #[] #[]] w fun e w'=>e=.returned (.bool (l.any fun n=>!cp n))∧Below w.heap.size w w':=by
 have HI:=ad (EV v l w hc hn)
 clear hc
 go_enter func78,ntmps78
 go_wp2_with fail
 refine HI.out.mono ?_
 rintro e w1 ⟨x,rfl,HR,b1⟩
 have HB:=ad b1
 clear b1 HI
 go_wp2
 go_ret
 exact⟨by rw[←HR.out];rfl,HB.out⟩
theorem Av (n:Int) (w:World):Calls prog 124 #[.int .i64 n] w fun e w'=>e=.returned (.bool (!cp n))∧w=w':=by
 go_enter func124,ntmps124
 go_wp2_with fail
 refine(oL n w).mono ?_
 rintro e w1 ⟨rfl,rfl⟩
 go_wp2
 go_ret
 exact⟨rfl,rfl⟩
theorem EU (v:Value) (l:List Int) (w:World) (hc:Cells w v 1 l.length (aD l)) (hn:l.length≤1000000) :
 Calls prog 123 #[v,.func (.func 124) #[] #[]] w fun e w'=>∃x:Int,e=.returned (.int .i64 x)∧Hid (decide (0≤x)=l.any fun n=>!cp n)∧Below w.heap.size w w':=by
 obtain⟨va,vc,rfl⟩:=aH hc
 have HC:=ad hc
 clear hc
 go_enter func123,ntmps123
 go_wp2
 go_loopw [8] (fun lv wr=>∃i:Nat,lv=.int .i64 i∧i≤l.length∧Below w.heap.size w wr∧Hid ((l.any fun n=>!cp n)=(l.drop i).any fun n=>!cp n)) (fun lv _=>l.length-(intOf lv).toNat)
 case atStart=>exact⟨0,rfl,by omega,ae _ _,ad (by simp)⟩
 case round =>
  obtain⟨i,rfl,hi,hbw,HK⟩:=hrel
  by_cases hp:i<l.length
  ·obtain⟨b,o,c,hv,q0⟩:=lx (Cells.next HC.out hbw) i hp
   cases hv
   obtain⟨n,hnn⟩:∃n,l[i]=n:=⟨_,rfl⟩
   rw[hnn]at q0
   have HF:=ad (Av n wr)
   obtain⟨T,hT⟩:∃T,(!cp n)=T:=⟨_,rfl⟩
   rw[hT]at HF
   have HX:=ad (show(l.any fun n=>!cp n)=(T||(l.drop (i+1)).any fun n=>!cp n)by
    rw[HK.out,List.drop_eq_getElem_cons hp,←hT,hnn]
    rfl)
   have HBW:=ad hbw
   clear hbw HK hT hnn
   go_wp2_with fail
   refine HF.out.mono ?_
   rintro e w1 ⟨rfl,rfl⟩
   cases T with
   |true =>
    have HE:=ad (show(l.any fun n=>!cp n)=true by rw[HX.out];rfl)
    clear HF HX
    go_wp2
    go_ret
    exact⟨_,rfl,ad (by rw[HE.out];simp),HBW.out⟩
   |false =>
    have HE:=ad (show(l.any fun n=>!cp n)=(l.drop (i+1)).any fun n=>!cp n by rw[HX.out];rfl)
    clear HF HX
    go_wp2
    exact⟨⟨i+1,by go_num,by omega,HBW.out,HE⟩,by simp[intOf];omega⟩
  ·have HE:=ad (show(l.any fun n=>!cp n)=false by rw[HK.out,List.drop_eq_nil_of_le (by omega)];rfl)
   obtain rfl:i=l.length:=by omega
   clear HK
   go_wp2
   go_ret
   exact⟨-1,rfl,ad (by rw[HE.out];rfl),hbw⟩
theorem Fi (v:Value) (l:List Int) (w:World) (hc:Cells w v 1 l.length (aD l)) (hn:l.length≤1000000) :
 Calls prog 78 #[v,.func (.func 124) #[] #[]] w fun e w'=>e=.returned (.bool (l.any fun n=>!cp n))∧Below w.heap.size w w':=by
 have HI:=ad (EU v l w hc hn)
 clear hc
 go_enter func78,ntmps78
 go_wp2_with fail
 refine HI.out.mono ?_
 rintro e w1 ⟨x,rfl,HR,b1⟩
 have HB:=ad b1
 clear b1 HI
 go_wp2
 go_ret
 exact⟨by rw[←HR.out];rfl,HB.out⟩
set_option maxHeartbeats 16000000 in
set_option maxRecDepth 100000 in
theorem CH (x0:Int) (x1:Int) (x2:Int) (w:World):Calls prog 122 #[.iface 79 (.agg #[.int .i64 x0,.int .i64 x1,.int .i64 x2])] w fun e w'=>∃v,e=.returned (.tuple #[v,.bool true])∧w'.ownsRow w.heap.size 3 1 v 3 (aD [x0,x1,x2])∧Below w.heap.size w w':=by
 have a0:=zF
 go_enter func122,ntmps122
 go_wp2
 go_ret2
 exact⟨_,rfl,l8 [x0,x1,x2] (by simp <;> omega) (by simp) (by simp),ay (ay (ae _ w) _) _⟩
set_option maxHeartbeats 16000000 in
set_option maxRecDepth 100000 in
theorem Au (x0:Int) (x1:Int) (x2:Int) (w:World):Calls prog 77 #[.iface 79 (.agg #[.int .i64 x0,.int .i64 x1,.int .i64 x2])] w fun e w'=>∃v,e=.returned (.tuple #[v,.bool true])∧w'.ownsRow w.heap.size 3 1 v 3 (aD [x0,x1,x2])∧Below w.heap.size w w':=by
 have a0:=ma
 have a1:=l'
 have a2:=fH
 have a3:=gN
 have a4:=pj
 have a5:=rr
 have a6:=rq
 obtain⟨W,hW⟩:∃W,(((((((w).alloc (.cells #[.int .i64 0,.int .i64 0,.int .i64 0] 212)).alloc (.cells #[.int .i64 0,.int .i64 0] 215)).alloc (.cells #[.int .i64 0,.int .i64 0] 45)).alloc (.cells #[.int .i64 0,.slice none 0 0,.slice none 0 0,.slice none 0 0] 47)).alloc (.cells #[.int .i64 0] 218)).alloc (.cells #[.int .i64 0,.int .i64 0,.int .i64 0,.slice none 0 0] 75)).alloc (.cells #[.int .i64 0,.int .i64 0,.int .i64 0,.int .i64 0,.int .i64 0,.int .i64 0,.slice none 0 0] 77)=W:=⟨_,rfl⟩
 have HB:=ad (show Below w.heap.size w W by
  rw[←hW]
  exact ay (ay (ay (ay (ay (ay (ay (ae _ w) _) _) _) _) _) _) _)
 have HW:=ad hW
 clear hW
 go_enter func77,ntmps77
 go_wp2_with fail
 rw[HW.out]
 refine(CH x0 x1 x2 W).mono ?_
 rintro e w1 ⟨v,rfl,ho,hb⟩
 have HO:=ad (aC (bV ho HB.out.size) (Below.up HB.out ab hb))
 clear ho hb
 go_wp2
 go_ret2
 exact⟨v,rfl,HO.out.1,HO.out.2⟩
set_option maxHeartbeats 16000000 in
set_option maxRecDepth 100000 in
theorem wX (x0:Int) (x1:ByteArray) (x2:Int) (x3:Int) (x4:Int) (x5:Option Addr) (y5 z5:Nat) (w:World):Calls prog 122 #[.iface 42 (.agg #[.int .i64 x0,.string x1,.int .i64 x2,.int .i64 x3,.int .i64 x4,.slice x5 y5 z5])] w fun e w'=>∃v,e=.returned (.tuple #[v,.bool true])∧w'.ownsRow w.heap.size 3 1 v 1 (aD [x0])∧Below w.heap.size w w':=by
 have a0:=zF
 have a1:=Fo
 have a2:=BT
 have a3:=gW
 go_enter func122,ntmps122
 go_wp2
 go_ret2
 exact⟨_,rfl,l8 [x0] (by simp <;> omega) (by simp) (by simp),ay (ay (ay (ay (ay (ae _ w) _) _) _) _) _⟩
set_option maxHeartbeats 16000000 in
set_option maxRecDepth 100000 in
theorem uF (x0:Int) (x1:ByteArray) (x2:Int) (x3:Int) (x4:Int) (x5:Option Addr) (y5 z5:Nat) (w:World):Calls prog 77 #[.iface 42 (.agg #[.int .i64 x0,.string x1,.int .i64 x2,.int .i64 x3,.int .i64 x4,.slice x5 y5 z5])] w fun e w'=>∃v,e=.returned (.tuple #[v,.bool true])∧w'.ownsRow w.heap.size 3 1 v 1 (aD [x0])∧Below w.heap.size w w':=by
 have a0:=ma
 have a1:=l'
 have a2:=fH
 have a3:=gN
 have a4:=pj
 have a5:=rr
 have a6:=rq
 obtain⟨W,hW⟩:∃W,(((((((w).alloc (.cells #[.int .i64 0,.int .i64 0,.int .i64 0] 212)).alloc (.cells #[.int .i64 0,.int .i64 0] 215)).alloc (.cells #[.int .i64 0,.int .i64 0] 45)).alloc (.cells #[.int .i64 0,.slice none 0 0,.slice none 0 0,.slice none 0 0] 47)).alloc (.cells #[.int .i64 0] 218)).alloc (.cells #[.int .i64 0,.int .i64 0,.int .i64 0,.slice none 0 0] 75)).alloc (.cells #[.int .i64 0,.int .i64 0,.int .i64 0,.int .i64 0,.int .i64 0,.int .i64 0,.slice none 0 0] 77)=W:=⟨_,rfl⟩
 have HB:=ad (show Below w.heap.size w W by
  rw[←hW]
  exact ay (ay (ay (ay (ay (ay (ay (ae _ w) _) _) _) _) _) _) _)
 have HW:=ad hW
 clear hW
 go_enter func77,ntmps77
 go_wp2_with fail
 rw[HW.out]
 refine(wX x0 x1 x2 x3 x4 x5 y5 z5 W).mono ?_
 rintro e w1 ⟨v,rfl,ho,hb⟩
 have HO:=ad (aC (bV ho HB.out.size) (Below.up HB.out ab hb))
 clear ho hb
 go_wp2
 go_ret2
 exact⟨v,rfl,HO.out.1,HO.out.2⟩
set_option maxHeartbeats 16000000 in
set_option maxRecDepth 100000 in
theorem Ap (x0:Int) (x1:ByteArray) (x2:Int) (w:World):Calls prog 122 #[.iface 49 (.agg #[.int .i64 x0,.string x1,.int .i64 x2])] w fun e w'=>∃v,e=.returned (.tuple #[v,.bool true])∧w'.ownsRow w.heap.size 3 1 v 1 (aD [x0])∧Below w.heap.size w w':=by
 have a0:=zF
 have a1:=Fo
 have a2:=BT
 have a3:=gW
 have a4:=jU
 go_enter func122,ntmps122
 go_wp2
 go_ret2
 exact⟨_,rfl,l8 [x0] (by simp <;> omega) (by simp) (by simp),ay (ay (ay (ay (ay (ay (ae _ w) _) _) _) _) _) _⟩
set_option maxHeartbeats 16000000 in
set_option maxRecDepth 100000 in
theorem yE (x0:Int) (x1:ByteArray) (x2:Int) (w:World):Calls prog 77 #[.iface 49 (.agg #[.int .i64 x0,.string x1,.int .i64 x2])] w fun e w'=>∃v,e=.returned (.tuple #[v,.bool true])∧w'.ownsRow w.heap.size 3 1 v 1 (aD [x0])∧Below w.heap.size w w':=by
 have a0:=ma
 have a1:=l'
 have a2:=fH
 have a3:=gN
 have a4:=pj
 have a5:=rr
 have a6:=rq
 obtain⟨W,hW⟩:∃W,(((((((w).alloc (.cells #[.int .i64 0,.int .i64 0,.int .i64 0] 212)).alloc (.cells #[.int .i64 0,.int .i64 0] 215)).alloc (.cells #[.int .i64 0,.int .i64 0] 45)).alloc (.cells #[.int .i64 0,.slice none 0 0,.slice none 0 0,.slice none 0 0] 47)).alloc (.cells #[.int .i64 0] 218)).alloc (.cells #[.int .i64 0,.int .i64 0,.int .i64 0,.slice none 0 0] 75)).alloc (.cells #[.int .i64 0,.int .i64 0,.int .i64 0,.int .i64 0,.int .i64 0,.int .i64 0,.slice none 0 0] 77)=W:=⟨_,rfl⟩
 have HB:=ad (show Below w.heap.size w W by
  rw[←hW]
  exact ay (ay (ay (ay (ay (ay (ay (ae _ w) _) _) _) _) _) _) _)
 have HW:=ad hW
 clear hW
 go_enter func77,ntmps77
 go_wp2_with fail
 rw[HW.out]
 refine(Ap x0 x1 x2 W).mono ?_
 rintro e w1 ⟨v,rfl,ho,hb⟩
 have HO:=ad (aC (bV ho HB.out.size) (Below.up HB.out ab hb))
 clear ho hb
 go_wp2
 go_ret2
 exact⟨v,rfl,HO.out.1,HO.out.2⟩
set_option maxHeartbeats 16000000 in
set_option maxRecDepth 100000 in
theorem wY (x0:Int) (x1:Int) (w:World):Calls prog 77 #[.iface 45 (.agg #[.int .i64 x0,.int .i64 x1])] w fun e w'=>∃v,e=.returned (.tuple #[v,.bool true])∧w'.ownsRow w.heap.size 3 1 v 2 (aD [x0,x1])∧Below w.heap.size w w':=by
 have a0:=ma
 have a1:=l'
 have a2:=fH
 go_enter func77,ntmps77
 go_wp2
 go_ret2
 exact⟨_,rfl,l8 [x0,x1] (by simp <;> omega) (by simp) (by simp),ay (ay (ay (ay (ae _ w) _) _) _) _⟩
set_option maxHeartbeats 16000000 in
set_option maxRecDepth 100000 in
theorem yD (x0:Int) (x1:Option Addr) (y1 z1:Nat) (x2:Option Addr) (y2 z2:Nat) (x3:Option Addr) (y3 z3:Nat) (w:World):Calls prog 77 #[.iface 47 (.agg #[.int .i64 x0,.slice x1 y1 z1,.slice x2 y2 z2,.slice x3 y3 z3])] w fun e w'=>∃v,e=.returned (.tuple #[v,.bool true])∧w'.ownsRow w.heap.size 3 1 v 1 (aD [x0])∧Below w.heap.size w w':=by
 have a0:=ma
 have a1:=l'
 have a2:=fH
 have a3:=gN
 go_enter func77,ntmps77
 go_wp2
 go_ret2
 exact⟨_,rfl,l8 [x0] (by simp <;> omega) (by simp) (by simp),ay (ay (ay (ay (ay (ae _ w) _) _) _) _) _⟩
set_option maxHeartbeats 16000000 in
set_option maxRecDepth 100000 in
theorem yF (x0:Int) (x1:Int) (x2:Int) (x3:Int) (x4:Int) (x5:Int) (x6:Option Addr) (y6 z6:Nat) (w:World):Calls prog 77 #[.iface 77 (.agg #[.int .i64 x0,.int .i64 x1,.int .i64 x2,.int .i64 x3,.int .i64 x4,.int .i64 x5,.slice x6 y6 z6])] w fun e w'=>∃v,e=.returned (.tuple #[v,.bool true])∧w'.ownsRow w.heap.size 3 1 v 6 (aD [x0,x1,x2,x3,x4,x5])∧Below w.heap.size w w':=by
 have a0:=ma
 have a1:=l'
 have a2:=fH
 have a3:=gN
 have a4:=pj
 have a5:=rr
 have a6:=rq
 go_enter func77,ntmps77
 go_wp2
 go_ret2
 exact⟨_,rfl,l8 [x0,x1,x2,x3,x4,x5] (by simp <;> omega) (by simp) (by simp),ay (ay (ay (ay (ay (ay (ay (ay (ae _ w) _) _) _) _) _) _) _) _⟩
end Go.Proofs.YtmgmknmaepjnoaaGreatDoor
