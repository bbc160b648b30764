/-
  The law package 21: batches one behind the other.
-/
import Derived.Test.YtmgmknmaepjnoaaGreatDoorLaJ
import Derived.Test.YtmgmknmaepjnoaaGreatDoorLaH
namespace Go.Proofs.YtmgmknmaepjnoaaGreatDoor
open Go.RowKit Go.Shelf Go.Sort Proofs.Tryz
section
variable {R:(Nat→Prop)→(Nat→Prop)→World→Prop} {a w w':World} {nb lg sb:Nat} {room:Int} {s:Lg.S} {fs:List Dk.ah} {st:Stat} {N:Nd} {xb:Nat} {nv dv v:Value} {kn JX:List (Nat×Obj)} {H Wr:List (Int×Value)} {F:List Int} {O:List (Int×Value)} {P:iU}
theorem cu.B8 (hk:iV xb H Wr F P) (hap:∀p∈kn++JX,¬JB (aU xb nv dv H Wr F P) p.1) (hT:d' R (aU xb nv dv H Wr F P++(kn++JX)) a nb lg sb room s fs st N O v w) (hR:aB a R):cu R a nb lg sb room s fs st {N with outs:=[]} xb nv dv kn H Wr F JX w :=
 ⟨P,hk,hap,(hT.drop hR).1⟩
set_option maxHeartbeats 8000000 in
theorem wE (now:Int) (h:cu R a nb lg sb room s fs st N xb nv dv kn H [] [] JX w) (hR:aB a R) :
 Calls prog 11 #[.pointer (some ⟨xb,0,none⟩),.int .i64 now] w fun ed w'=>ed=.returned (.tuple #[])∧cu R a nb lg sb room s fs st N xb nv dv kn H [] [] JX w':=by
 have HF:=ad (h.G8 hR)
 obtain⟨P,h1,h2,h3⟩:=h
 have hx:=h3.bf (xb,cH nv dv H [] [] P) (by simp[aU])
 have c3:w.cell? ⟨xb,3,none⟩=some (.slice P.wa 0 P.wc):=au hx rfl
 have c4:w.cell? ⟨xb,4,none⟩=some (.slice P.fa 0 P.fc):=au hx rfl
 have f3:=az hx 3
 have f4:=az hx 4
 clear h1 h2 h3 hx
 go_enter func11,ntmps11
 go_wp2_with fail
 go_loopw [4] (fun iv wr=>iv=.int .i64 0∧wr=w) (fun _ _=>0)
 case atStart=>exact⟨rfl,rfl⟩
 case round =>
  obtain⟨rfl,rfl⟩:=hrel
  go_wp2
  go_end0
  exact⟨rfl,HF.out⟩
end
section
variable {c:Net} {L:List Evt.Entry} {H:List (Int×Value)} {w:World}
def Fy (c:Net) (L:List Evt.Entry) (H:List (Int×Value)) (w:World):Prop:=(∃H',H'.length≤H.length+1∧Quiet c L H' w)∨∃e,zK c L e H w
theorem Fq (now:Int) (hkn:cW 29 1 c.nv 2 (dy [c.x1.nb,c.x2.nb]) c.kn) (h:Fy c L H w) (hl:L.length≤40) (hH:H.length≤80000) :
 Calls prog 11 #[.pointer (some ⟨c.xb,0,none⟩),.int .i64 now] w fun ed w'=>ed=.returned (.tuple #[])∧∃L' H',L'.length≤L.length+1∧H'.length≤H.length+1∧Quiet c L' H' w':=by
 rcases h with⟨H',h1,y1,y2,h2,h3,h4⟩|⟨e,h⟩
 ·refine(wE now h4 cn).mono ?_
  rintro ed w1 ⟨rfl,hx⟩
  exact⟨rfl,L,H',by omega,h1,y1,y2,h2,h3,hx⟩
 ·refine(DE now hkn h hl hH).mono ?_
  rintro ed w1 ⟨rfl,H',h1,hx⟩
  exact⟨rfl,L++[e],H',by simp,h1,hx⟩
def sQ (c:Net) (kb ko nc:Nat) (w:World):Prop:=w.cell? ⟨c.xb,0,none⟩=some (.slice (some ⟨kb,ko,none⟩) 2 nc)∧w.cell? ⟨kb,ko,none⟩=some (.pointer (some ⟨c.x1.nb,0,none⟩))∧w.cell? ⟨kb,ko+1,none⟩=some (.pointer (some ⟨c.x2.nb,0,none⟩))∧Below c.a.heap.size c.a w
theorem uH {kb ko nc:Nat} {Wr:List (Int×Value)} {F:List Int} {P:iU} (hkn:cW 29 1 c.nv 2 (dy [c.x1.nb,c.x2.nb]) c.kn) (hnv:c.nv=.slice (some ⟨kb,ko,none⟩) 2 nc) (hx:w.heap[c.xb]?=some (cH c.nv c.dv H Wr F P)) (hk:∀p∈c.kn,w.heap[p.1]?=some p.2) (hb:Below c.a.heap.size c.a w):sQ c kb ko nc w:=by
 have hr:=ai (hkn.kI (w:=w) hk)
 rw[hnv]at hr
 rcases hr.2 with⟨h0,_⟩|⟨kb2,ko2,nc2,hv,hc⟩
 ·omega
 cases hv
 exact⟨by rw[aw hx,←hnv];rfl,hc 0 (.pointer (some ⟨c.x1.nb,0,none⟩)) rfl,hc 1 (.pointer (some ⟨c.x2.nb,0,none⟩)) rfl,hb⟩
theorem Net.Fk {kb ko nc:Nat} {y1 y2:ND} {Wr:List (Int×Value)} {F:List Int} {JX:List (Nat×Obj)} (hkn:cW 29 1 c.nv 2 (dy [c.x1.nb,c.x2.nb]) c.kn) (hnv:c.nv=.slice (some ⟨kb,ko,none⟩) 2 nc) (h:c.at y1 y2 H Wr F JX w):sQ c kb ko nc w:=by
 obtain⟨P,h1,h2,h3⟩:=h
 exact uH hkn hnv (h3.bf (c.xb,cH c.nv c.dv H Wr F P) (by simp[aU])) (fun p hp=>h3.bf p (aJ _ (aK _ hp))) h3.below
theorem Quiet.yK {kb ko nc:Nat} (hkn:cW 29 1 c.nv 2 (dy [c.x1.nb,c.x2.nb]) c.kn) (hnv:c.nv=.slice (some ⟨kb,ko,none⟩) 2 nc) (h:Quiet c L H w):sQ c kb ko nc w:=by
 obtain⟨y1,y2,_,_,h⟩:=h
 exact Net.Fk hkn hnv h
theorem Fv.yK {kb ko nc:Nat} {v:Value} (hkn:cW 29 1 c.nv 2 (dy [c.x1.nb,c.x2.nb]) c.kn) (hnv:c.nv=.slice (some ⟨kb,ko,none⟩) 2 nc) (h:Fv c L H v w):sQ c kb ko nc w:=by
 rcases h with⟨y1,y2,P,O,_,_,_,_,_,oa,oc,Ko,_,_,_,h⟩|⟨y1,y2,P,e,b,o,_,_,_,_,_,_,oa,oc,Ko,_,_,_,h⟩
 all_goals exact uH hkn hnv (h.bf (c.xb,cH c.nv c.dv H [] [] P) (by simp[aU])) (fun p hp=>h.bf p (aJ _ (aJ _ (aK _ hp)))) h.below
theorem Fy.yK {kb ko nc:Nat} (hkn:cW 29 1 c.nv 2 (dy [c.x1.nb,c.x2.nb]) c.kn) (hnv:c.nv=.slice (some ⟨kb,ko,none⟩) 2 nc) (h:Fy c L H w):sQ c kb ko nc w:=by
 rcases h with⟨H',_,h⟩|⟨e,y1,y2,b,o,_,_,_,_,h⟩
 ·exact h.yK hkn hnv
 ·exact Net.Fk hkn hnv h
theorem Quiet.row (hkn:cW 29 1 c.nv 2 (dy [c.x1.nb,c.x2.nb]) c.kn) (h:Quiet c L H w):∃kb ko nc,c.nv=.slice (some ⟨kb,ko,none⟩) 2 nc:=by
 obtain⟨y1,y2,_,_,h⟩:=h
 obtain⟨kb,ko,nc,_,_,_,_,e,_⟩:=h.cells hkn
 exact⟨kb,ko,nc,e⟩
theorem Quiet.next {w':World} (h:Quiet c L H w) (hb:Below w.heap.size w w'):Quiet c L H w':=by
 obtain⟨y1,y2,h1,h2,h⟩:=h
 exact⟨y1,y2,h1,h2,h.next cn hb⟩
theorem Dp {S:ByteArray} {nx:Int} {nu:List Int} (h:(dH L).app=(L.length:Int)):og (Lg.aI nx nu L) (dH L) S=false:=by
 unfold og
 have e:(Lg.aI nx nu L).es=L:=rfl
 rw[e,h,Lg.vA ab (by omega)]
 simp
end
section
variable {R:(Nat→Prop)→(Nat→Prop)→World→Prop} {a w w':World} {nb lg sb d r:Nat} {fs fs':List Dk.ah} {nx:Int} {nu:List Int} {L:List Evt.Entry} {V:Vw} {id ls:Int} {xb:Nat} {nv dv v:Value} {kn:List (Nat×Obj)} {H Wr:List (Int×Value)} {F:List Int} {E:Int} {k:Nat}
structure Good (fs:List Dk.ah) (nx:Int) (nu:List Int) (L:List Evt.Entry) (V:Vw) (id E:Int) (k:Nat):Prop where
 i:Lg.ey et E k fs nx nu L
 v:gp V
 p:0≤place V id
 s:since V id=1
 l:L.length≤40
theorem Good.calm (h:Good fs nx nu L V id E k) (d r:Nat) (ls:Int):Calm (fX id d r V ls) (Lg.aI nx nu L) fs (dH L):=rn (N:=fX id d r V ls) h.i h.v h.p h.s (ji h.i.kH) (by have:=h.l;omega)
theorem Good.J8 (h:Good fs nx nu L V id E k) (d r:Nat) (ls:Int):fQ (fX id d r V ls) fs:=jN (N:=fX id d r V ls) h.i h.v h.p h.s
def Fr (R:(Nat→Prop)→(Nat→Prop)→World→Prop) (a:World) (nb lg sb d r:Nat) (fs:List Dk.ah) (nx:Int) (nu:List Int) (L:List Evt.Entry) (V:Vw) (id ls:Int) (xb:Nat) (nv dv:Value) (kn:List (Nat×Obj)) (H Wr:List (Int×Value)) (F:List Int) (w:World):Prop :=
 cu R a nb lg sb 4194304 (Lg.aI nx nu L) fs (dH L) (fX id d r V ls) xb nv dv kn H Wr F [] w
theorem zf (x1 now:Int) (h1:0≤x1∧x1≤274877906944) (h:Fr R a nb lg sb d r fs nx nu L V id ls xb nv dv kn H Wr F w) (hR:aB a R) (hg:Good fs nx nu L V id E k) :
 Calls prog 10 #[.pointer (some ⟨nb,0,none⟩),.int .i64 0,.iface 45 (.agg #[.int .i64 V.ep,.int .i64 x1]),.int .i64 now] w fun e w'=>∃v,e=.returned v∧Fr R a nb lg sb d r fs nx nu L V id (max ls x1) xb nv dv kn H Wr F w':=by
 obtain⟨P,g1,g2,g3⟩:=h
 refine(pM x1 now h1 g3 hR hg.v (hg.calm d r (max ls x1)) rfl).mono ?_
 rintro e w1 ⟨v,rfl,hT⟩
 exact⟨v,rfl,cu.B8 g1 g2 hT hR⟩
theorem AT (x0 x1 now:Int) (h0:0≤x0∧x0≤274877906944) (h1:0≤x1∧x1≤274877906944) (hne:x0≠V.ep) (h:Fr R a nb lg sb d r fs nx nu L V id ls xb nv dv kn H Wr F w) (hR:aB a R) (hg:Good fs nx nu L V id E k) :
 Calls prog 10 #[.pointer (some ⟨nb,0,none⟩),.int .i64 0,.iface 45 (.agg #[.int .i64 x0,.int .i64 x1]),.int .i64 now] w fun e w'=>∃v,e=.returned v∧Fr R a nb lg sb d r fs nx nu L V id ls xb nv dv kn H Wr F w'∧∃oa oc,v=.slice oa 0 oc:=by
 obtain⟨P,g1,g2,g3⟩:=h
 refine(zO x0 x1 now h0 h1 hne g3 hR (hg.calm d r ls) rfl).mono ?_
 rintro e w1 ⟨v,rfl,hT⟩
 exact⟨v,rfl,cu.B8 g1 g2 hT hR,(hT.drop hR).2⟩
theorem EY (fr x0 x1 now:Int) (hf:1≤fr∧fr≤100) (h0:0≤x0∧x0≤274877906944) (h1:0≤x1∧x1≤274877906944) (hno:(x0≠V.ep∨place V fr<0)∨(x0=V.ep∧0≤place V fr)) (h:Fr R a nb lg sb d r fs nx nu L V id ls xb nv dv kn H Wr F w) (hR:aB a R) (hg:Good fs nx nu L V id E k) :
 Calls prog 10 #[.pointer (some ⟨nb,0,none⟩),.int .i64 fr,.iface 45 (.agg #[.int .i64 x0,.int .i64 x1]),.int .i64 now] w fun e w'=>∃v,e=.returned v∧Fr R a nb lg sb d r fs nx nu L V id ls xb nv dv kn H Wr F w'∧∃oa oc,v=.slice oa 0 oc:=by
 obtain⟨P,g1,g2,g3⟩:=h
 refine(DV fr x0 x1 now hf h0 h1 g3 hR hg.v hg.p hno (hg.calm d r ls) rfl).mono ?_
 rintro e w1 ⟨v,rfl,hT⟩
 exact⟨v,rfl,cu.B8 g1 g2 hT hR,(hT.drop hR).2⟩
theorem ID (V2:Vw) (A:iy) (now:Int) (hA:gD w V2 A) (hV:gp V2) (hep:V.ep<V2.ep) (hE:E<V2.ep) (hk:k≤8) (hp:0≤place V2 id) (hs:since V2 id=1) (hb:(dB V2.ch&&dB V2.si&&dB V2.bo)=true) (h:Fr R a nb lg sb d r fs nx nu L V id ls xb nv dv kn H Wr F w) (hR:aB a R) (hg:Good fs nx nu L V id E k) :
 Calls prog 10 #[.pointer (some ⟨nb,0,none⟩),.int .i64 0,.iface 47 (dS V2 A),.int .i64 now] w fun e w'=>∃v,e=.returned v∧∃f2,Good f2 nx nu L V2 id V2.ep (k+1)∧Fr R a nb lg sb d r f2 nx nu L V2 id 0 xb nv dv kn H Wr F w':=by
 obtain⟨P,g1,g2,g3⟩:=h
 obtain⟨f2,q1,q2⟩:=hg.i.raise (room:=4194304) (e:=V2.ep) hk hE hV.2.1 (by have:=hg.l;omega) (by omega)
 have hg2:Good f2 nx nu L V2 id V2.ep (k+1):=⟨q2,hV,hp,hs,hg.l⟩
 refine(Bh V2 A now hA hV hep (by rw[hg.i.xv];omega) (by decide) q1 g3 hR (hg2.calm d r 0) rfl hb).mono ?_
 rintro e w1 ⟨v,rfl,hT⟩
 exact⟨v,rfl,f2,hg2,cu.B8 g1 g2 hT hR⟩
def Ka (R:(Nat→Prop)→(Nat→Prop)→World→Prop) (a:World) (nb lg sb d r:Nat) (fs:List Dk.ah) (nx:Int) (nu:List Int) (L:List Evt.Entry) (V:Vw) (id ls:Int) (xb:Nat) (nv dv:Value) (kn:List (Nat×Obj)) (H Wr:List (Int×Value)) (F:List Int) (m:Int×Value) (v:Value) (w:World):Prop :=
 ∃P,iV xb H Wr F P∧(∀p∈kn++[],¬JB (aU xb nv dv H Wr F P) p.1)∧d' R (aU xb nv dv H Wr F P++(kn++[])) a nb lg sb 4194304 (Lg.aI nx nu L) fs (dH L) (fX id d r V ls) [m] v w
theorem IE (q now:Int) (hq:0≤q∧q≤274877906944) (h:Fr R a nb lg sb d r fs nx nu L V id ls xb nv dv kn H Wr F w) (hR:aB a R) (hg:Good fs nx nu L V id E k) :
 Calls prog 10 #[.pointer (some ⟨nb,0,none⟩),.int .i64 1005,.iface 49 (.agg #[.int .i64 q,.string ⟨#[115]⟩,.int .i64 0]),.int .i64 now] w fun e w'=>∃v,e=.returned v∧∃er ve va n vc,((er=0∧now<ls)∨(er=9∧ls≤now∧ve=0∧n=0))∧Ka R a nb lg sb d r fs nx nu L V id ls xb nv dv kn H Wr F (1005,fG q er ve va n vc) v w':=by
 obtain⟨P,g1,g2,g3⟩:=h
 have hnm:Txt.name (⟨#[115]⟩:ByteArray).data.toList=true:=by
  show Txt.name [115]=true
  simp[Txt.name,Txt.gP,Txt.iF,Txt.named]
 have hb:=pY hg.i.kH hg.l
 have ha:=ji hg.i.kH
 have hl:=hg.l
 by_cases hlt:now<ls
 ·refine(rA (id:=q) (z:=0) (cl:=1005) (now:=now) (S:=⟨#[115]⟩) g3 hR (hg.J8 d r ls) (hg.calm d r ls) rfl (by decide) (by decide) hnm ⟨by decide,by decide⟩ hq hlt hb.1 hb.2.1 (by show L.length≤300000;omega) (by rw[ha];omega) (.inr (Dp ha))).mono ?_
  rintro e w1 ⟨v,rfl,va,vc,K,_,hT⟩
  exact⟨v,rfl,0,_,va,_,vc,.inl ⟨rfl,hlt⟩,P,g1,g2,hT.less hR⟩
 ·refine(s9 (id:=q) (z:=0) (cl:=1005) (now:=now) (S:=⟨#[115]⟩) g3 hR (hg.J8 d r ls) (hg.calm d r ls) rfl (by decide) (by decide) hnm ⟨by decide,by decide⟩ hq (show ls≤now by omega)).mono ?_
  rintro e w1 ⟨v,rfl,hT⟩
  exact⟨v,rfl,9,0,none,0,0,.inr ⟨rfl,by omega,rfl,rfl⟩,P,g1,g2,hT⟩
theorem Jl (fr:Int) {q er ve:Int} {va:Option Addr} {n vc:Nat} (h:Ka R a nb lg sb d r fs nx nu L V id ls xb nv dv kn [] [] [] (1005,fG q er ve va n vc) v w) (hR:aB a R) :
 Calls prog 9 #[.pointer (some ⟨xb,0,none⟩),.int .i64 fr,v] w fun e w'=>e=.returned (.tuple #[])∧Fr R a nb lg sb d r fs nx nu L V id ls xb nv dv kn [(1005,fG q er ve va n vc)] [] [] w':=by
 obtain⟨P,g1,g2,hT⟩:=h
 refine(jK fr hT g1 g2 hR (fun p hp=>by rw[aQ.1 hp];rfl) ⟨by simp,by simp,by simp⟩).mono ?_
 rintro e w1 ⟨rfl,hL⟩
 exact⟨rfl,hL⟩
end
end Go.Proofs.YtmgmknmaepjnoaaGreatDoor
