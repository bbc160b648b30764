/-
  The law package 21's shown.
-/
import Derived.Test.YtmgmknmaepjnoaaGreatDoorLaI
namespace Go.Proofs.YtmgmknmaepjnoaaGreatDoor
open Go.RowKit Go.Shelf Go.Sort Proofs.Tryz
def CK:Evt.Batch:=⟨[115],-1,5,1,[⟨[107],[]⟩]⟩
theorem vU:Evt.fits CK=0:=by
 have n1:Txt.name [115]=true:=by simp[Txt.name,Txt.gP,Txt.iF,Txt.named]
 have n2:Txt.name [107]=true:=by simp[Txt.name,Txt.gP,Txt.iF,Txt.named]
 simp[CK,Evt.fits,Evt.tV,n1,n2,Evt.right,Evt.number]
def gG:Evt.Entry:=⟨1,1,CK⟩
theorem Ic:yA [] gG=⟨1,1,0,1⟩:=by rfl
theorem Gh:(bK (dH []).S 5 1).2=0:=by rfl
section
variable {R:(Nat→Prop)→(Nat→Prop)→World→Prop} {a w w':World} {nb lg sb:Nat} {room:Int} {s:Lg.S} {fs:List Dk.ah} {st:Stat} {N:Nd} {xb:Nat} {nv dv v:Value} {kn JX:List (Nat×Obj)} {H Wr:List (Int×Value)} {F:List Int} {O:List (Int×Value)}
theorem d'.less {J J2:List (Nat×Obj)} (h:d' R (J++J2) a nb lg sb room s fs st N O v w) (hR:aB a R):d' R J a nb lg sb room s fs st N O v w:=by
 obtain⟨oa,oc,Ko,rfl,hk,hoff,h⟩:=h
 exact⟨oa,oc,Ko,rfl,hk,fun p hp q hq=>hoff p hp q (aK _ hq),h.less hR fun p hp=>by rw[←List.append_assoc];exact aK _ hp⟩
theorem cu.box {b:Nat} {o:Obj} (h:cu R a nb lg sb room s fs st N xb nv dv kn H Wr F JX w) (hR:aB a R) (hb:Below w.heap.size w w') (hp:w.heap.size≤b) (ho:w'.heap[b]?=some o):cu R a nb lg sb room s fs st N xb nv dv kn H Wr F (JX++[(b,o)]) w':=by
 obtain⟨P,h1,h2,h3⟩:=h
 have h4:=h3.enter (R':=R) (J2:=[(b,o)]) hR hb (fun p hp2=>by rw[aQ.1 hp2];exact⟨hp,ho⟩) (fun _ _ _ e=>e)
 rw[List.append_assoc,List.append_assoc]at h4
 refine⟨P,h1,fun p hp2=>?_,h4⟩
 rw[←List.append_assoc]at hp2
 rcases aO.1 hp2 with hp2|hp2
 ·exact h2 p hp2
 ·rw[aQ.1 hp2]
  rintro ⟨q,hq,e⟩
  have:=(aA.1 (h3.bf q (aK _ hq))).1
  simp only at e
  omega
theorem cu.Hn {p:Nat×Obj} (h:cu R a nb lg sb room s fs st N xb nv dv kn H Wr F JX w) (hp:p∈JX):w.heap[p.1]?=some p.2:=by
 obtain⟨P,h1,h2,h3⟩:=h
 exact h3.bf p (aJ _ (aJ _ hp))
theorem cu.heard (h:cu R a nb lg sb room s fs st N xb nv dv kn H Wr F JX w):∃P,w.heap[xb]?=some (cH nv dv H Wr F P)∧Cells w (.slice P.ha H.length P.hc) 2 H.length (cQ H):=by
 obtain⟨P,h1,h2,h3⟩:=h
 exact⟨P,h3.bf (xb,cH nv dv H Wr F P) (by simp[aU]),ai (h1.h.kI (w:=w) fun p hp=>h3.bf p (aK _ (by simp[aU,hp])))⟩
theorem cu.Jq {na:Option Addr} {nc n1:Nat} (h:cu R a nb lg sb room s fs st N xb (.slice na 1 nc) dv kn H Wr F JX w) (hkn:cW 29 1 (.slice na 1 nc) 1 (dy [n1]) kn):∃kb ko,na=some ⟨kb,ko,none⟩∧w.cell? ⟨xb,0,none⟩=some (.slice (some ⟨kb,ko,none⟩) 1 nc)∧w.cell? ⟨kb,ko,none⟩=some (.pointer (some ⟨n1,0,none⟩)):=by
 obtain⟨P,h1,h2,h3⟩:=h
 have hx:=h3.bf (xb,cH (.slice na 1 nc) dv H Wr F P) (by simp[aU])
 have hr:=ai (hkn.kI (w:=w) fun p hp=>h3.bf p (aJ _ (aK _ hp)))
 rcases hr.2 with⟨h0,_⟩|⟨kb,ko,nc2,hv,hc⟩
 ·omega
 cases hv
 exact⟨kb,ko,rfl,au hx rfl,hc 0 (.pointer (some ⟨n1,0,none⟩)) rfl⟩
end
theorem xQ (d r:Nat) (ls:Int):dV (fX 1 d r (cj 1) ls)=true:=show(decide (0≤place (cj 1) 1)&&(behind (cj 1) 1==0))=true by decide
def yB:Obj:=.cells #[.int .i64 1,.int .i64 0,.int .i64 1,.int .i64 1,.int .i64 0,.int .i64 1] 91 (0,0)
def FZ (id er ve:Int) (va:Option Addr) (n vc:Nat):Obj:=.cells #[.int .i64 id,.int .i64 er,.int .i64 ve,.slice va n vc] 51 (0,0)
def sr:Int×Value:=(1005,.iface 91 (.agg #[.int .i64 1,.int .i64 0,.int .i64 1,.int .i64 1,.int .i64 0,.int .i64 1]))
set_option maxHeartbeats 32000000 in
set_option maxRecDepth 100000 in
theorem Ab (w:World) (hE:Env w):Calls prog 6 #[] w fun e w'=>e=.returned (.bool true)∧Below w.heap.size w w':=by
 have HBG:=ad (show Calls prog 8 #[.int .i64 1,.int .i64 10] w _ from rU 1 (.inl rfl) 10 ⟨by decide,by decide⟩ w hE)
 clear hE
 go_enter func6,ntmps6
 go_wp2_with fail
 refine HBG.out.mono ?_
 rintro e w1 ⟨xb,l,na,nc,dv,kn,rfl,hl,hkn,hko,hch⟩
 obtain⟨n1,rfl⟩:∃n1,l=[n1]:=by
  match l,hl with
  |[n1],_=>exact⟨n1,rfl⟩
 obtain⟨lg,sb,d,r,f,hi,hL⟩:=hch.Kt hko
 obtain⟨kb,ko,rfl,x0,n0⟩:=hL.Jq hkn
 have HL:=ad hL
 have HI:=ad hi
 have HON:=ad (Ew 1 w1)
 clear HBG hl hkn hko hch hL hi
 go_wp2_with fail
 refine HON.out.mono ?_
 rintro e w2 ⟨g,rfl,hg,hev,b2⟩
 have hL2:=HL.out.events b2 hev (fun b hb _=>by cases hb;exact hg)
 obtain⟨R,hR⟩:∃R,Fx (.slice (some ⟨g,0,none⟩) 1 1) [⟨[107],[]⟩]=R:=⟨_,rfl⟩
 have HIN:lf R w (.slice (some ⟨g,0,none⟩) 1 1) [⟨[107],[]⟩]:=by rw[←hR];exact E6 _ _ _
 have HRS:=ad (show aB w R by rw[←hR];exact zV _ _ _)
 rw[hR]at hL2
 obtain⟨P,hk,hap,hN⟩:=hL2
 obtain⟨f2,nx2,nu2,q1,q2⟩:=HI.out.prop (b:=CK) (room:=4194304) (by omega) vU (by simp) (by omega)
 have q2:Lg.ey et 1 1 f2 nx2 nu2 [gG]:=q2
 have hadv:bX (dH []) ((Lg.aI nx2 nu2 [gG]).es.length:Int) (Lg.aI nx2 nu2 [gG]).es=[gG]:=by rfl
 have hpl:(dH []).aP [gG]=([(gG,⟨1,1,0,1⟩)],dH [gG]):=by rw[jR,Ic];rfl
 have HTK:=Ca (S:=⟨#[115]⟩) (id:=1) (ex:=-1) (se:=5) (sq:=1) (es:=[⟨[107],[]⟩]) (now:=0) (st:=dH []) (s':=Lg.aI nx2 nu2 [gG]) (fs':=f2) hN HRS.out (jN (N:=fX 1 d r (cj 1) 10) HI.out (iM 1) (show 0≤place (cj 1) 1 by decide) (show since (cj 1) 1=1 by decide)) (jN (N:=fX 1 d r (cj 1) 10) q2 (iM 1) (show 0≤place (cj 1) 1 by decide) (show since (cj 1) 1=1 by decide)) rfl (xQ d r 10) rfl (by decide) (HI.out.bk 1 (by simp)) (by decide) HIN (by simp) (fun e he=>by rw[aQ.1 he];simp) ⟨by decide,by decide⟩ vU (by simp[Lg.aI]) rfl rfl (by decide) (by decide) q1 Gh (by
  rw[hadv]
  intro k _
  match k with
  |0=>show(dH []).app≤400000;decide
  |k+1=>rw[List.take_of_length_le (by simp),hpl];show(dH [gG]).app≤400000;decide) (by rw[hadv,hpl];intro p hp;rw[aQ.1 hp];decide) (by rw[hadv,hpl];simp)
 rw[hadv,hpl]at HTK
 have hset:dY (fX 1 d r (cj 1) 10) [(gG,⟨1,1,0,1⟩)] (dH [gG]).app=[sr]:=by
  have ha:ahead (fX 1 d r (cj 1) 10).v (fX 1 d r (cj 1) 10).id=0:=show ahead (cj 1) 1=0 by decide
  unfold dY iS
  rw[if_neg (by simp),if_pos ha]
  rfl
 rw[hset]at HTK
 have HTK:=ad (show Calls prog 10 #[.pointer (some ⟨n1,0,none⟩),.int .i64 1005,.iface 42 (.agg #[.int .i64 1,.string ⟨#[115]⟩,.int .i64 (-1),.int .i64 5,.int .i64 1,.slice (some ⟨g,0,none⟩) 1 1]),.int .i64 0] w2 _ from HTK)
 have HK:=ad (aC hk (aC hap q2))
 clear HON hg hev b2 HL HI hR HIN hk hap hN q1 q2 hadv hpl hset x0 n0
 go_wp2_with fail
 refine HTK.out.mono ?_
 rintro e w3 ⟨v3,rfl,b,hoff,hT⟩
 have HSY:=ad (jK 1 (hT.less HRS.out) HK.out.1 HK.out.2.1 HRS.out (fun p hp=>by rw[aQ.1 hp];rfl) ⟨by simp,by simp,by simp⟩)
 clear HTK hoff hT
 go_wp2_with fail
 refine HSY.out.mono ?_
 rintro e w4 ⟨rfl,hL⟩
 have hL:cu R w n1 lg sb 4194304 (Lg.aI nx2 nu2 [gG]) f2 (dH [gG]) (fX 1 d r (cj 1) 10) xb (.slice (some ⟨kb,ko,none⟩) 1 nc) dv kn [sr] [] [] [] w4:=hL
 have HRD:=ad (jN (N:=fX 1 d r (cj 1) 10) HK.out.2.2 (iM 1) (show 0≤place (cj 1) 1 by decide) (show since (cj 1) 1=1 by decide))
 have HCM:=ad (rn (N:=fX 1 d r (cj 1) 10) (st:=dH [gG]) HK.out.2.2 (iM 1) (show 0≤place (cj 1) 1 by decide) (show since (cj 1) 1=1 by decide) rfl (by simp))
 have hnm:Txt.name (⟨#[115]⟩:ByteArray).data.toList=true:=by
  show Txt.name [115]=true
  simp[Txt.name,Txt.gP,Txt.iF,Txt.named]
 have HNM:=ad hnm
 obtain⟨P,hx,hc⟩:=hL.heard
 have HRP:=ad (Ah (H0:=[]) (d:=1005) (id:=1) (er:=0) (c0:=1) (c1:=1) (c2:=0) (c3:=1) (by simp) hx hc)
 have HL:=ad hL
 clear HSY HK hnm hx hc hL
 go_wp2_with fail
 refine HRP.out.mono ?_
 rintro e w5 ⟨rfl,b5⟩
 obtain⟨W5,hW5⟩:∃W5,w5.alloc (.cells #[.int .i64 1,.int .i64 0,.int .i64 1,.int .i64 1,.int .i64 0,.int .i64 1] 91)=W5:=⟨_,rfl⟩
 obtain⟨p3,hp3⟩:∃p3,w5.heap.size=p3:=⟨_,rfl⟩
 have hL5:=HL.out.box (b:=p3) (o:=yB) HRS.out (w':=W5) (by rw[←hW5];exact ay b5 _) (by rw[←hp3];exact b5.size) (by rw[←hW5,←hp3];exact heap_alloc_new w5 _)
 obtain⟨P5,hk,hap,hN⟩:=hL5
 have HTR:=rA (id:=7) (z:=0) (cl:=1005) (now:=9) (S:=⟨#[115]⟩) hN HRS.out HRD.out HCM.out rfl (by decide) (by decide) HNM.out ⟨by decide,by decide⟩ ⟨by decide,by decide⟩ (show(9:Int)<10 by decide) (by decide) (by decide) (by show([gG]:List Evt.Entry).length≤300000;decide) (by decide) (.inl (xQ d r 10))
 have HTR:=ad HTR
 have HW5:=ad (aC hW5 hp3)
 have HK5:=ad (aC hk hap)
 clear HRP b5 hW5 hp3 hk hap hN HL
 go_wp2_with fail
 rw[HW5.out.1,HW5.out.2]
 refine HTR.out.mono ?_
 rintro e w6 ⟨v6,rfl,va,vc,K,_,hT⟩
 obtain⟨m7,hm7⟩:∃m7:Int×Value,((1005:Int),fG 7 0 1 va 1 vc)=m7:=⟨_,rfl⟩
 have hT:d' R (aU xb (.slice (some ⟨kb,ko,none⟩) 1 nc) dv [sr] [] [] P5++(kn++[(p3,yB)])) w n1 lg sb 4194304 (Lg.aI nx2 nu2 [gG]) f2 (dH [gG]) (fX 1 d r (cj 1) 10) [m7] v6 w6:=by rw[←hm7];exact hT.less HRS.out
 have HSY:=ad (jK 1 hT HK5.out.1 HK5.out.2 HRS.out (fun p hp=>by rw[aQ.1 hp,←hm7];rfl) ⟨by simp,by simp,by simp⟩)
 have HM7:=ad hm7
 clear HTR hT hm7 HK5
 go_wp2_with fail
 refine HSY.out.mono ?_
 rintro e w7 ⟨rfl,hL⟩
 have hh7:dm [m7]=[m7]∧cS [m7]=[]:=by rw[←HM7.out];exact⟨by rfl,by rfl⟩
 rw[hh7.1,hh7.2]at hL
 have hL:cu R w n1 lg sb 4194304 (Lg.aI nx2 nu2 [gG]) f2 (dH [gG]) (fX 1 d r (cj 1) 10) xb (.slice (some ⟨kb,ko,none⟩) 1 nc) dv kn ([sr]++[m7]) [] [] [(p3,yB)] w7:=hL
 rw[←HM7.out]at hL
 obtain⟨P,hx,hc⟩:=hL.heard
 have HRP:=ad (mi (H0:=[sr]) (by simp) hx hc)
 have HL:=ad hL
 clear HSY hx hc hL hh7 HM7
 go_wp2_with fail
 refine HRP.out.mono ?_
 rintro e w8 ⟨rfl,b8⟩
 obtain⟨W8,hW8⟩:∃W8,w8.alloc (.cells #[.int .i64 7,.int .i64 0,.int .i64 1,.slice va 1 vc] 51)=W8:=⟨_,rfl⟩
 obtain⟨p5,hp5⟩:∃p5,w8.heap.size=p5:=⟨_,rfl⟩
 have hL8:=HL.out.box (b:=p5) (o:=FZ 7 0 1 va 1 vc) HRS.out (w':=W8) (by rw[←hW8];exact ay b8 _) (by rw[←hp5];exact b8.size) (by rw[←hW8,←hp5];exact heap_alloc_new w8 _)
 obtain⟨P8,hk,hap,hN⟩:=hL8
 have HTR:=ad (s9 (id:=8) (z:=0) (cl:=1005) (now:=10) (S:=⟨#[115]⟩) hN HRS.out HRD.out HCM.out rfl (by decide) (by decide) HNM.out ⟨by decide,by decide⟩ ⟨by decide,by decide⟩ (show(10:Int)≤10 by decide))
 have HW8:=ad (aC hW8 hp5)
 have HK8:=ad (aC hk hap)
 clear HRP b8 hW8 hp5 hk hap hN HL
 go_wp2_with fail
 rw[HW8.out.1,HW8.out.2]
 refine HTR.out.mono ?_
 rintro e w9 ⟨v9,rfl,hT⟩
 have HSY:=ad (jK 1 hT HK8.out.1 HK8.out.2 HRS.out (fun p hp=>by rw[aQ.1 hp];rfl) ⟨by simp,by simp,by simp⟩)
 clear HTR hT HK8
 go_wp2_with fail
 refine HSY.out.mono ?_
 rintro e w10 ⟨rfl,hL⟩
 have hL:cu R w n1 lg sb 4194304 (Lg.aI nx2 nu2 [gG]) f2 (dH [gG]) (fX 1 d r (cj 1) 10) xb (.slice (some ⟨kb,ko,none⟩) 1 nc) dv kn (([sr]++[(1005,fG 7 0 1 va 1 vc)])++[(1005,fG 8 9 0 none 0 0)]) [] [] ([(p3,yB)]++[(p5,FZ 7 0 1 va 1 vc)]) w10:=hL
 obtain⟨P,hx,hc⟩:=hL.heard
 have HRP:=ad (mi (H0:=[sr]++[(1005,fG 7 0 1 va 1 vc)]) (by simp) hx hc)
 have HL:=ad hL
 clear HSY hx hc hL
 go_wp2_with fail
 refine HRP.out.mono ?_
 rintro e w11 ⟨rfl,b11⟩
 have h3:=ax b11 ab (HL.out.Hn (p:=(p3,yB)) (by simp))
 have h5:=ax b11 ab (HL.out.Hn (p:=(p5,FZ 7 0 1 va 1 vc)) (by simp))
 have hbw:Below w.heap.size w w11:=by
  obtain⟨P,_,_,hN⟩:=HL.out
  exact Below.up hN.below ab b11
 have bA:Below w11.heap.size w11 (w11.alloc (.cells #[.int .i64 8,.int .i64 9,.int .i64 0,.slice none 0 0] 51)):=ay (ae _ _) _
 have g3:=ax bA ab h3
 have g5:=ax bA ab h5
 have a0:(w11.alloc (.cells #[.int .i64 8,.int .i64 9,.int .i64 0,.slice none 0 0] 51)).cell? ⟨p3,0,none⟩=some (.int .i64 1):=au g3 rfl
 have a1:(w11.alloc (.cells #[.int .i64 8,.int .i64 9,.int .i64 0,.slice none 0 0] 51)).cell? ⟨p3,1,none⟩=some (.int .i64 0):=au g3 rfl
 have a2:(w11.alloc (.cells #[.int .i64 8,.int .i64 9,.int .i64 0,.slice none 0 0] 51)).cell? ⟨p3,2,none⟩=some (.int .i64 1):=au g3 rfl
 have a3:(w11.alloc (.cells #[.int .i64 8,.int .i64 9,.int .i64 0,.slice none 0 0] 51)).cell? ⟨p3,3,none⟩=some (.int .i64 1):=au g3 rfl
 have a4:(w11.alloc (.cells #[.int .i64 8,.int .i64 9,.int .i64 0,.slice none 0 0] 51)).cell? ⟨p3,4,none⟩=some (.int .i64 0):=au g3 rfl
 have a5:(w11.alloc (.cells #[.int .i64 8,.int .i64 9,.int .i64 0,.slice none 0 0] 51)).cell? ⟨p3,5,none⟩=some (.int .i64 1):=au g3 rfl
 have e0:(w11.alloc (.cells #[.int .i64 8,.int .i64 9,.int .i64 0,.slice none 0 0] 51)).cell? ⟨p5,0,none⟩=some (.int .i64 7):=au g5 rfl
 have e1:(w11.alloc (.cells #[.int .i64 8,.int .i64 9,.int .i64 0,.slice none 0 0] 51)).cell? ⟨p5,1,none⟩=some (.int .i64 0):=au g5 rfl
 have e2:(w11.alloc (.cells #[.int .i64 8,.int .i64 9,.int .i64 0,.slice none 0 0] 51)).cell? ⟨p5,2,none⟩=some (.int .i64 1):=au g5 rfl
 have e3:(w11.alloc (.cells #[.int .i64 8,.int .i64 9,.int .i64 0,.slice none 0 0] 51)).cell? ⟨p5,3,none⟩=some (.slice va 1 vc):=au g5 rfl
 have HB:=ad hbw
 clear HRP h3 h5 hbw bA g3 g5 HL b11
 go_wp2
 go_ret
 exact⟨rfl,ay HB.out _⟩
end Go.Proofs.YtmgmknmaepjnoaaGreatDoor
