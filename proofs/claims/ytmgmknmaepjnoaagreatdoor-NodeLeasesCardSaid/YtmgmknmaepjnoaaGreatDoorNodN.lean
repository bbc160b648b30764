/-
  A node: what another node says: refused, or not.
-/
import Derived.Test.YtmgmknmaepjnoaaGreatDoorNodL
import Derived.Test.YtmgmknmaepjnoaaGreatDoorMsgF
namespace Go.Proofs.YtmgmknmaepjnoaaGreatDoor
open Go.RowKit Go.Shelf Go.Sort Proofs.Tryz
section
variable {R:(Nat→Prop)→(Nat→Prop)→World→Prop} {a w w':World} {nb lg sb:Nat} {room:Int} {s s':Lg.S} {fs fs':List Dk.ah} {st st2:Stat} {J:List (Nat×Obj)} {N M:Nd}
set_option maxHeartbeats 16000000 in
set_option maxRecDepth 100000 in
theorem Ie (fr now ep:Int) (T:TypeId) (V:Value) (h:ak R J a nb lg sb room s fs st N w) (hR:aB a R) (hV:gp N.v) (hp:0≤place N.v N.id) (HE:∀Z,Below w.heap.size w Z→Calls prog 69 #[.iface T V] Z (fun e w'=>e=.returned (.int .i64 ep)∧Below Z.heap.size Z w')) (hno:ep≠N.v.ep∨place N.v fr<0) :
 Calls prog 37 #[.pointer (some ⟨nb,0,none⟩),.int .i64 fr,.iface T V,.int .i64 now] w fun e w'=>e=.returned (.tuple #[])∧Below w.heap.size w w':=by
 have HI1:∀d os,Calls prog 51 #[.pointer (some ⟨nb,0,none⟩)] (grow (redrawn w d) os) (fun e w'=>e=.returned (.bool true)∧∃p:Regrown,w'=grow (redrawn w p.d) p.os):=fun d os=>Calls.regrown_of (by
  have:=jJ (h.next hR (below_regrown w d os)) hV
  rw[decide_eq_true hp]at this
  exact this)
 have HE1:∀d os,Calls prog 69 #[.iface T V] (grow (redrawn w d) os) (fun e w'=>e=.returned (.int .i64 ep)∧∃p:Regrown,w'=grow (redrawn w p.d) p.os):=fun d os=>Calls.regrown_of (HE _ (below_regrown w d os))
 obtain⟨P,hh,hv,_⟩:=h.heap
 have HP1:∀d os,Calls prog 70 #[dS N.v P.A,.int .i64 fr] (grow (redrawn w d) os) (fun e w'=>e=.returned (.int .i64 (place N.v fr))∧∃p:Regrown,w'=grow (redrawn w p.d) p.os):=fun d os=>Calls.regrown_of (eM N.v P.A fr _ (hv.next (below_regrown w d os)) hV)
 obtain⟨_,_,_,_,c4,c5,c6,c7,_⟩:=dj hh
 have k4:=cell_regrown c4
 have k5:=cell_regrown c5
 have k6:=cell_regrown c6
 have k7:=cell_regrown c7
 unfold dS at HP1
 by_cases he:ep=N.v.ep
 ·have hq:=hno.resolve_left (fun e=>e he)
  obtain⟨pl,hpl⟩:∃pl,place N.v fr=pl:=⟨_,rfl⟩
  rw[hpl]at HP1 hq
  subst he
  clear h hh hv hV hp hno hpl c4 c5 c6 c7 HE
  go_enter func37,ntmps37
  go_wp2_with fail
  refine wp_region_quiet_below (by kernel_rfl) (by kernel_rfl) ?_
  repeat (quiet_step (first|exact HI1 _ _|exact HE1 _ _|exact HP1 _ _))
  refine wpQuiet_nil ?_
  intro _ hw'
  obtain⟨⟨dq,osq⟩,hw''⟩:=hw'
  subst hw''
  obtain⟨w1,hw1⟩:∃w1,grow (redrawn w dq) osq=w1:=⟨_,rfl⟩
  have b1:Below w.heap.size w w1:=by rw[←hw1];exact below_regrown w dq osq
  rw[hw1]
  have HB:=ad b1
  clear hw1 b1 k4 k5 k6 k7 HI1 HE1 HP1
  go_wp2
  refine bodyPost_ret (results_none rfl _ _ _) rfl ?_
  exact⟨rfl,HB.out⟩
 ·clear h hh hv hV hp hno c4 c5 c6 c7 HE
  go_enter func37,ntmps37
  go_wp2_with fail
  refine wp_region_quiet_below (by kernel_rfl) (by kernel_rfl) ?_
  repeat (quiet_step (first|exact HI1 _ _|exact HE1 _ _|exact HP1 _ _))
  refine wpQuiet_nil ?_
  intro _ hw'
  obtain⟨⟨dq,osq⟩,hw''⟩:=hw'
  subst hw''
  obtain⟨w1,hw1⟩:∃w1,grow (redrawn w dq) osq=w1:=⟨_,rfl⟩
  have b1:Below w.heap.size w w1:=by rw[←hw1];exact below_regrown w dq osq
  rw[hw1]
  have HB:=ad b1
  clear hw1 b1 k4 k5 k6 k7 HI1 HE1 HP1
  go_wp2
  refine bodyPost_ret (results_none rfl _ _ _) rfl ?_
  exact⟨rfl,HB.out⟩
set_option maxHeartbeats 16000000 in
set_option maxRecDepth 100000 in
theorem CL (fr now:Int) (x0 x1:Int) (h:ak R J a nb lg sb room s fs st N w) (hR:aB a R) (hV:gp N.v) (hp:0≤place N.v N.id) (HE:∀Z,Below w.heap.size w Z→Calls prog 69 #[.iface 45 (.agg #[.int .i64 x0,.int .i64 x1])] Z (fun e w'=>e=.returned (.int .i64 N.v.ep)∧Below Z.heap.size Z w')) (hf:0≤place N.v fr)  :
 Calls prog 37 #[.pointer (some ⟨nb,0,none⟩),.int .i64 fr,.iface 45 (.agg #[.int .i64 x0,.int .i64 x1]),.int .i64 now] w fun e w'=>e=.returned (.tuple #[])∧Below w.heap.size w w':=by
 have HI1:∀d os,Calls prog 51 #[.pointer (some ⟨nb,0,none⟩)] (grow (redrawn w d) os) (fun e w'=>e=.returned (.bool true)∧∃p:Regrown,w'=grow (redrawn w p.d) p.os):=fun d os=>Calls.regrown_of (by
  have:=jJ (h.next hR (below_regrown w d os)) hV
  rw[decide_eq_true hp]at this
  exact this)
 have HE1:∀d os,Calls prog 69 #[.iface 45 (.agg #[.int .i64 x0,.int .i64 x1])] (grow (redrawn w d) os) (fun e w'=>e=.returned (.int .i64 N.v.ep)∧∃p:Regrown,w'=grow (redrawn w p.d) p.os):=fun d os=>Calls.regrown_of (HE _ (below_regrown w d os))
 obtain⟨P,hh,hv,_⟩:=h.heap
 have HP1:∀d os,Calls prog 70 #[dS N.v P.A,.int .i64 fr] (grow (redrawn w d) os) (fun e w'=>e=.returned (.int .i64 (place N.v fr))∧∃p:Regrown,w'=grow (redrawn w p.d) p.os):=fun d os=>Calls.regrown_of (eM N.v P.A fr _ (hv.next (below_regrown w d os)) hV)
 obtain⟨_,_,_,_,c4,c5,c6,c7,_⟩:=dj hh
 have k4:=cell_regrown c4
 have k5:=cell_regrown c5
 have k6:=cell_regrown c6
 have k7:=cell_regrown c7
 unfold dS at HP1
 obtain⟨pl,hpl⟩:∃pl,place N.v fr=pl:=⟨_,rfl⟩
 rw[hpl]at HP1 hf
 obtain⟨kf,HM,HM2,HK⟩:=ku x0 x1
 have HK:=ad HK
 have H:=ad h
 clear h hh hv hpl c4 c5 c6 c7 HE
 go_enter func37,ntmps37
 go_wp2_with fail
 refine wp_region_quiet_below (by kernel_rfl) (by kernel_rfl) ?_
 repeat (quiet_step (first|exact HI1 _ _|exact HE1 _ _|exact HP1 _ _))
 refine wpQuiet_nil ?_
 intro _ hw'
 obtain⟨⟨dq,osq⟩,hw''⟩:=hw'
 subst hw''
 obtain⟨w1,hw1⟩:∃w1,grow (redrawn w dq) osq=w1:=⟨_,rfl⟩
 have b1:Below w.heap.size w w1:=by rw[←hw1];exact below_regrown w dq osq
 rw[hw1]
 have HB1:=ad b1
 clear hw1 b1 k4 k5 k6 k7 HI1 HE1 HP1
 go_wp2_with fail
 refine(HK.out w1).mono ?_
 rintro e w2 ⟨rfl,b2⟩
 have HB2:=ad (Below.up HB1.out ab b2)
 clear b2 HK HB1
 go_wp2
 go_end0
 exact⟨rfl,HB2.out⟩
set_option maxHeartbeats 16000000 in
set_option maxRecDepth 100000 in
theorem EC (fr now:Int) {x pv pe sy cm:Int} {va:Option Addr} {n vc:Nat} {qs:List bu} (h:ak (cJ R (.slice va n vc) qs) J a nb lg sb room s fs st N w) (hR:aB a R) (hV:gp N.v) (hp:0≤place N.v N.id) (HE:∀Z,Below w.heap.size w Z→Calls prog 69 #[.iface 77 (.agg #[.int .i64 x,.int .i64 fr,.int .i64 pv,.int .i64 pe,.int .i64 sy,.int .i64 cm,.slice va n vc])] Z (fun e w'=>e=.returned (.int .i64 N.v.ep)∧Below Z.heap.size Z w')) (hf:0≤place N.v fr) (hah:ahead N.v N.id=fr) (HL:∀Z,Below w.heap.size w Z→Calls prog 74 #[.pointer (some ⟨nb,0,none⟩),.agg #[.int .i64 x,.int .i64 fr,.int .i64 pv,.int .i64 pe,.int .i64 sy,.int .i64 cm,.slice va n vc]] Z (fun e w'=>e=.returned (.tuple #[])∧ak R J a nb lg sb room s' fs' st2 N w')) :
 Calls prog 37 #[.pointer (some ⟨nb,0,none⟩),.int .i64 fr,.iface 77 (.agg #[.int .i64 x,.int .i64 fr,.int .i64 pv,.int .i64 pe,.int .i64 sy,.int .i64 cm,.slice va n vc]),.int .i64 now] w fun e w'=>e=.returned (.tuple #[])∧ak R J a nb lg sb room s' fs' st2 N w':=by
 have hRW:=fK hR (.slice va n vc) qs
 have HAH:=ad (fun Z (hb:Below w.heap.size w Z)=>rF (h.next hRW hb) hV)
 rw[hah]at HAH
 have HLG:=ad HL
 clear hah HL
 have HI1:∀d os,Calls prog 51 #[.pointer (some ⟨nb,0,none⟩)] (grow (redrawn w d) os) (fun e w'=>e=.returned (.bool true)∧∃p:Regrown,w'=grow (redrawn w p.d) p.os):=fun d os=>Calls.regrown_of (by
  have:=jJ (h.next hRW (below_regrown w d os)) hV
  rw[decide_eq_true hp]at this
  exact this)
 have HE1:∀d os,Calls prog 69 #[.iface 77 (.agg #[.int .i64 x,.int .i64 fr,.int .i64 pv,.int .i64 pe,.int .i64 sy,.int .i64 cm,.slice va n vc])] (grow (redrawn w d) os) (fun e w'=>e=.returned (.int .i64 N.v.ep)∧∃p:Regrown,w'=grow (redrawn w p.d) p.os):=fun d os=>Calls.regrown_of (HE _ (below_regrown w d os))
 obtain⟨P,hh,hv,_⟩:=h.heap
 have HP1:∀d os,Calls prog 70 #[dS N.v P.A,.int .i64 fr] (grow (redrawn w d) os) (fun e w'=>e=.returned (.int .i64 (place N.v fr))∧∃p:Regrown,w'=grow (redrawn w p.d) p.os):=fun d os=>Calls.regrown_of (eM N.v P.A fr _ (hv.next (below_regrown w d os)) hV)
 obtain⟨_,_,_,_,c4,c5,c6,c7,_⟩:=dj hh
 have k4:=cell_regrown c4
 have k5:=cell_regrown c5
 have k6:=cell_regrown c6
 have k7:=cell_regrown c7
 unfold dS at HP1
 obtain⟨pl,hpl⟩:∃pl,place N.v fr=pl:=⟨_,rfl⟩
 rw[hpl]at HP1 hf
 obtain⟨kf,HM,HM2,HK⟩:=mZ x fr pv pe sy cm va n vc
 have HK:=ad HK
 have H:=ad h
 have hA:=BA
 clear h hh hv hpl c4 c5 c6 c7 HE
 go_enter func37,ntmps37
 go_wp2_with fail
 refine wp_region_quiet_below (by kernel_rfl) (by kernel_rfl) ?_
 repeat (quiet_step (first|exact HI1 _ _|exact HE1 _ _|exact HP1 _ _))
 refine wpQuiet_nil ?_
 intro _ hw'
 obtain⟨⟨dq,osq⟩,hw''⟩:=hw'
 subst hw''
 obtain⟨w1,hw1⟩:∃w1,grow (redrawn w dq) osq=w1:=⟨_,rfl⟩
 have b1:Below w.heap.size w w1:=by rw[←hw1];exact below_regrown w dq osq
 rw[hw1]
 have HB1:=ad b1
 clear hw1 b1 k4 k5 k6 k7 HI1 HE1 HP1
 go_wp2_with fail
 refine(HK.out w1).mono ?_
 rintro e w2 ⟨rfl,b2⟩
 have HB2:=ad (Below.up HB1.out ab b2)
 clear b2 HK HB1
 obtain⟨Wb,hWb⟩:∃Wb,w2.alloc (.cells #[.int .i64 x,.int .i64 fr,.int .i64 pv,.int .i64 pe,.int .i64 sy,.int .i64 cm,.slice va n vc] 77)=Wb:=⟨_,rfl⟩
 have HWb:=ad hWb
 have HB3:=ad (show Below w.heap.size w Wb by rw[←hWb];exact ay HB2.out _)
 clear hWb
 go_wp2_with fail
 rw[HWb.out]
 refine(HAH.out _ HB3.out).mono ?_
 rintro e w3 ⟨rfl,b3⟩
 have HB4:=ad (Below.up HB3.out ab b3)
 have m0:=cell_kept b3 ab (show Wb.cell? ⟨w2.heap.size,0,none⟩=some (.int .i64 x)by rw[←HWb.out,aw (heap_alloc_new w2 _)];rfl)
 have m1:=cell_kept b3 ab (show Wb.cell? ⟨w2.heap.size,1,none⟩=some (.int .i64 fr)by rw[←HWb.out,aw (heap_alloc_new w2 _)];rfl)
 have m2:=cell_kept b3 ab (show Wb.cell? ⟨w2.heap.size,2,none⟩=some (.int .i64 pv)by rw[←HWb.out,aw (heap_alloc_new w2 _)];rfl)
 have m3:=cell_kept b3 ab (show Wb.cell? ⟨w2.heap.size,3,none⟩=some (.int .i64 pe)by rw[←HWb.out,aw (heap_alloc_new w2 _)];rfl)
 have m4:=cell_kept b3 ab (show Wb.cell? ⟨w2.heap.size,4,none⟩=some (.int .i64 sy)by rw[←HWb.out,aw (heap_alloc_new w2 _)];rfl)
 have m5:=cell_kept b3 ab (show Wb.cell? ⟨w2.heap.size,5,none⟩=some (.int .i64 cm)by rw[←HWb.out,aw (heap_alloc_new w2 _)];rfl)
 have m6:=cell_kept b3 ab (show Wb.cell? ⟨w2.heap.size,6,none⟩=some (.slice va n vc)by rw[←HWb.out,aw (heap_alloc_new w2 _)];rfl)
 clear b3 HWb HAH
 go_wp2_with fail
 refine(HLG.out _ HB4.out).mono ?_
 rintro e w5 ⟨rfl,hx⟩
 have HX:=ad hx
 clear hx HLG
 go_wp2
 go_end0
 exact⟨rfl,HX.out⟩
set_option maxHeartbeats 16000000 in
set_option maxRecDepth 100000 in
theorem Gi (fr now:Int) {x n:Int} (h:ak R J a nb lg sb room s fs st N w) (hR:aB a R) (hV:gp N.v) (hp:0≤place N.v N.id) (HE:∀Z,Below w.heap.size w Z→Calls prog 69 #[.iface 79 (.agg #[.int .i64 x,.int .i64 fr,.int .i64 n])] Z (fun e w'=>e=.returned (.int .i64 N.v.ep)∧Below Z.heap.size Z w')) (hf:0≤place N.v fr) (hbe:behind N.v N.id=fr) (hRD:fQ N fs) (HL:∀Z,Below w.heap.size w Z→Calls prog 75 #[.pointer (some ⟨nb,0,none⟩),.agg #[.int .i64 x,.int .i64 fr,.int .i64 n]] Z (fun e w'=>e=.returned (.tuple #[])∧ak R J a nb lg sb room s' fs' st2 M w')) :
 Calls prog 37 #[.pointer (some ⟨nb,0,none⟩),.int .i64 fr,.iface 79 (.agg #[.int .i64 x,.int .i64 fr,.int .i64 n]),.int .i64 now] w fun e w'=>e=.returned (.tuple #[])∧ak R J a nb lg sb room s' fs' st2 M w':=by
 have HAH:=ad (fun Z (hb:Below w.heap.size w Z)=>mr (h.next hR hb) hV)
 rw[hbe]at HAH
 have HRY:=ad (fun Z (hb:Below w.heap.size w Z)=>gm (h.next hR hb) hR hRD)
 have HLG:=ad HL
 clear hbe HL hRD
 have HI1:∀d os,Calls prog 51 #[.pointer (some ⟨nb,0,none⟩)] (grow (redrawn w d) os) (fun e w'=>e=.returned (.bool true)∧∃p:Regrown,w'=grow (redrawn w p.d) p.os):=fun d os=>Calls.regrown_of (by
  have:=jJ (h.next hR (below_regrown w d os)) hV
  rw[decide_eq_true hp]at this
  exact this)
 have HE1:∀d os,Calls prog 69 #[.iface 79 (.agg #[.int .i64 x,.int .i64 fr,.int .i64 n])] (grow (redrawn w d) os) (fun e w'=>e=.returned (.int .i64 N.v.ep)∧∃p:Regrown,w'=grow (redrawn w p.d) p.os):=fun d os=>Calls.regrown_of (HE _ (below_regrown w d os))
 obtain⟨P,hh,hv,_⟩:=h.heap
 have HP1:∀d os,Calls prog 70 #[dS N.v P.A,.int .i64 fr] (grow (redrawn w d) os) (fun e w'=>e=.returned (.int .i64 (place N.v fr))∧∃p:Regrown,w'=grow (redrawn w p.d) p.os):=fun d os=>Calls.regrown_of (eM N.v P.A fr _ (hv.next (below_regrown w d os)) hV)
 obtain⟨_,_,_,_,c4,c5,c6,c7,_⟩:=dj hh
 have k4:=cell_regrown c4
 have k5:=cell_regrown c5
 have k6:=cell_regrown c6
 have k7:=cell_regrown c7
 unfold dS at HP1
 obtain⟨pl,hpl⟩:∃pl,place N.v fr=pl:=⟨_,rfl⟩
 rw[hpl]at HP1 hf
 obtain⟨kf,HM,HM2,HK⟩:=mz x fr n
 have HK:=ad HK
 have H:=ad h
 have hA:=Jd
 clear h hh hv hpl c4 c5 c6 c7 HE
 go_enter func37,ntmps37
 go_wp2_with fail
 refine wp_region_quiet_below (by kernel_rfl) (by kernel_rfl) ?_
 repeat (quiet_step (first|exact HI1 _ _|exact HE1 _ _|exact HP1 _ _))
 refine wpQuiet_nil ?_
 intro _ hw'
 obtain⟨⟨dq,osq⟩,hw''⟩:=hw'
 subst hw''
 obtain⟨w1,hw1⟩:∃w1,grow (redrawn w dq) osq=w1:=⟨_,rfl⟩
 have b1:Below w.heap.size w w1:=by rw[←hw1];exact below_regrown w dq osq
 rw[hw1]
 have HB1:=ad b1
 clear hw1 b1 k4 k5 k6 k7 HI1 HE1 HP1
 go_wp2_with fail
 refine(HK.out w1).mono ?_
 rintro e w2 ⟨rfl,b2⟩
 have HB2:=ad (Below.up HB1.out ab b2)
 clear b2 HK HB1
 obtain⟨Wb,hWb⟩:∃Wb,w2.alloc (.cells #[.int .i64 x,.int .i64 fr,.int .i64 n] 79)=Wb:=⟨_,rfl⟩
 have HWb:=ad hWb
 have HB3:=ad (show Below w.heap.size w Wb by rw[←hWb];exact ay HB2.out _)
 clear hWb
 go_wp2_with fail
 rw[HWb.out]
 refine(HAH.out _ HB3.out).mono ?_
 rintro e w3 ⟨rfl,b3⟩
 have HB4:=ad (Below.up HB3.out ab b3)
 have m0:=cell_kept b3 ab (show Wb.cell? ⟨w2.heap.size,0,none⟩=some (.int .i64 x)by rw[←HWb.out,aw (heap_alloc_new w2 _)];rfl)
 have m1:=cell_kept b3 ab (show Wb.cell? ⟨w2.heap.size,1,none⟩=some (.int .i64 fr)by rw[←HWb.out,aw (heap_alloc_new w2 _)];rfl)
 have m2:=cell_kept b3 ab (show Wb.cell? ⟨w2.heap.size,2,none⟩=some (.int .i64 n)by rw[←HWb.out,aw (heap_alloc_new w2 _)];rfl)
 have b34:=b3
 clear HAH
 go_wp2_with fail
 refine(HRY.out _ HB4.out).mono ?_
 rintro e w5 ⟨rfl,b5⟩
 have HB5:=ad (Below.up HB4.out ab b5)
 have p0:=cell_kept b5 ab m0
 have p1:=cell_kept b5 ab m1
 have p2:=cell_kept b5 ab m2
 clear b3 b34 b5 m0 m1 m2 HWb HRY
 go_wp2_with fail
 refine(HLG.out _ HB5.out).mono ?_
 rintro e w6 ⟨rfl,hx⟩
 have HX:=ad hx
 clear hx HLG
 go_wp2
 go_end0
 exact⟨rfl,HX.out⟩
end
end Go.Proofs.YtmgmknmaepjnoaaGreatDoor
