/-
  The law package 21's reply, result.
-/
import Derived.Test.YtmgmknmaepjnoaaGreatDoorLaC
namespace Go.Proofs.YtmgmknmaepjnoaaGreatDoor
open Go.RowKit Go.Shelf Go.Sort Proofs.Tryz
theorem Dw:(prog.info? 91).map (·.size)=some 6:=by kernel_rfl
theorem Be:(prog.info? 51).map (·.size)=some 4:=by kernel_rfl
section
variable {w:World} {xb:Nat} {nv dv:Value} {H0 Wr:List (Int×Value)} {F:List Int} {P:jc}
theorem CF {p:Int×Value} (hx:w.heap[xb]?=some (dt nv dv (H0++[p]) Wr F P)) (hc:Cells w (.slice P.ha (H0++[p]).length P.hc) 2 (H0++[p]).length (cU (H0++[p]))) :
 ∃b o,∀Z,Below w.heap.size w Z->Z.cell? ⟨xb,2,none⟩=some (.slice (some ⟨b,o,none⟩) (H0.length+1) P.hc)/\Z.cell? ⟨b,o+H0.length*2+1,none⟩=some p.2:=by
 have hl:(H0++[p]).length=H0.length+1:=by simp
 obtain⟨b,o,c,hv,_,e1⟩:=yu hc H0.length (by omega);have hg:(H0++[p])[H0.length]'(by omega)=p:=by simp
 rw[hg]at e1;simp only[Value.slice.injEq]at hv;obtain⟨hv,_,_⟩:=hv;refine⟨b,o,fun Z hZ=>⟨?_,cell_kept hZ ab e1⟩⟩;rw[aw (au hZ ab hx)];show some (Value.slice P.ha (H0++[p]).length P.hc)=_;rw[hv,hl]
set_option maxHeartbeats 8000000 in
theorem Bf {d id er c0 c1 c2 c3:Int} (hn:H0.length<=100000) (hx:w.heap[xb]?=some (dt nv dv (H0++[(d,.iface 91 (.agg #[.int .i64 id,.int .i64 er,.int .i64 c0,.int .i64 c1,.int .i64 c2,.int .i64 c3]))]) Wr F P)) (hc:Cells w (.slice P.ha (H0++[(d,(.iface 91 (.agg #[.int .i64 id,.int .i64 er,.int .i64 c0,.int .i64 c1,.int .i64 c2,.int .i64 c3]):Value))]).length P.hc) 2 (H0++[(d,(.iface 91 (.agg #[.int .i64 id,.int .i64 er,.int .i64 c0,.int .i64 c1,.int .i64 c2,.int .i64 c3]):Value))]).length (cU (H0++[(d,.iface 91 (.agg #[.int .i64 id,.int .i64 er,.int .i64 c0,.int .i64 c1,.int .i64 c2,.int .i64 c3]))]))) :
 Calls prog 28 #[.pointer (some ⟨xb,0,none⟩)] w fun e w'=>e=.returned (.tuple #[.agg #[.int .i64 id,.int .i64 er,.int .i64 c0,.int .i64 c1,.int .i64 c2,.int .i64 c3],.bool true])/\Below w.heap.size w w':=by
 obtain⟨b,o,hz⟩:=CF hx hc;have a1:=fun (v:Value) (w:World)=>IG 91 v w;simp only[if_true,decide_true]at a1;obtain⟨n,hn2⟩:∃n,H0.length=n:=⟨_,rfl⟩;rw[hn2]at hz hn;have z1:=hz w (ae _ w);obtain⟨m,hm⟩:∃m,n+1=m:=⟨_,rfl⟩;rw[hm]at hz z1;have hw1:IntKind.i64.wrap ((m:Int)-1)=(n:Int):=by rw[IntKind.wrap_i64];omega
 have hn0:(0:Int)<=(n:Int):=by omega
 have hnm:(n:Int)<(m:Int):=by omega
 have HZ:=ad hz;have bW:Below w.heap.size w (w.alloc (.cells #[.int .i64 0,.int .i64 0,.int .i64 0,.int .i64 0,.int .i64 0,.int .i64 0] 91)):=an (ae _ w) _;have HB:=ad bW;have HR:=ad (heap_alloc_new w (.cells #[.int .i64 0,.int .i64 0,.int .i64 0,.int .i64 0,.int .i64 0,.int .i64 0] 91));obtain⟨y1,y2⟩:=hz _ bW;have hmz:(m:Int)≠0:=by omega
 clear hx hc hz z1 hn2 bW hm;go_enter func28,ntmps28;go_upto_region 3 with fail;go_cut [4,5] (fun pv bv wx=>bv=.bool true/\∃q,pv=.pointer (some ⟨q,0,none⟩)/\Hid (wx.heap[q]?=some (.cells #[.int .i64 id,.int .i64 er,.int .i64 c0,.int .i64 c1,.int .i64 c2,.int .i64 c3] 91 (0,0)))/\Hid (Below (w.alloc (.cells #[.int .i64 0,.int .i64 0,.int .i64 0,.int .i64 0,.int .i64 0,.int .i64 0] 91)).heap.size (w.alloc (.cells #[.int .i64 0,.int .i64 0,.int .i64 0,.int .i64 0,.int .i64 0,.int .i64 0] 91)) wx))
 case first =>
  go_region_held3 (fun Z=>Z.cell? ⟨xb,2,none⟩=some (.slice (some ⟨b,o,none⟩) m P.hc)/\Z.cell? ⟨b,o+n*2+1,none⟩=some (.iface 91 (.agg #[.int .i64 id,.int .i64 er,.int .i64 c0,.int .i64 c1,.int .i64 c2,.int .i64 c3])))
   (first|exact⟨y1,y2⟩|(refine HZ.out _ ?_;repeat (first|exact ae _ _|refine an ?_ _|refine fY ?_ _|refine Below.drew ?_))) (fail)
  all_goals go_wp2
  all_goals go_meet
  all_goals exact⟨rfl,_,rfl,ad (newAt (heap_alloc_new _ _) (by simp[World.size_alloc])),ad (by repeat (first|exact ae _ _|refine an ?_ _|refine fY ?_ _|refine Below.drew ?_))⟩
 case rest =>
  obtain⟨rfl,q,rfl,hq,hbq⟩:=hcut;have hr:=au hbq.out ab HR.out;have hg:wc.grownBy ((((((wc.setCell ⟨w.heap.size,0,none⟩ (.int .i64 id)).setCell ⟨w.heap.size,1,none⟩ (.int .i64 er)).setCell ⟨w.heap.size,2,none⟩ (.int .i64 c0)).setCell ⟨w.heap.size,3,none⟩ (.int .i64 c1)).setCell ⟨w.heap.size,4,none⟩ (.int .i64 c2)).setCell ⟨w.heap.size,5,none⟩ (.int .i64 c3)) (some w.heap.size):=(aF (aF (aF (aF (aF (az _ _ _ _) (az _ _ _ _)) (az _ _ _ _)) (az _ _ _ _)) (az _ _ _ _)) (az _ _ _ _));have HP:=ad (show(((((((wc.setCell ⟨w.heap.size,0,none⟩ (.int .i64 id)).setCell ⟨w.heap.size,1,none⟩ (.int .i64 er)).setCell ⟨w.heap.size,2,none⟩ (.int .i64 c0)).setCell ⟨w.heap.size,3,none⟩ (.int .i64 c1)).setCell ⟨w.heap.size,4,none⟩ (.int .i64 c2)).setCell ⟨w.heap.size,5,none⟩ (.int .i64 c3))).heap[w.heap.size]?=some (.cells #[.int .i64 id,.int .i64 er,.int .i64 c0,.int .i64 c1,.int .i64 c2,.int .i64 c3] 91 (0,0))by rw[(av (i:=5) (av (i:=4) (av (i:=3) (av (i:=2) (av (i:=1) (av (i:=0) hr (.int .i64 id)) (.int .i64 er)) (.int .i64 c0)) (.int .i64 c1)) (.int .i64 c2)) (.int .i64 c3))];simp);have hb2:=Below.up HB.out ab hbq.out;have hls:=hb2.size;have HF:=ad (hb2.trans (aU hg ab hls));have q0:wc.cell? ⟨q,0,none⟩=some (.int .i64 id):=aq hq.out rfl;have r0:wc.cell? ⟨w.heap.size,0,none⟩=some (.int .i64 0):=aq hr rfl;have f0:=ay hr 0;have q1:wc.cell? ⟨q,1,none⟩=some (.int .i64 er):=aq hq.out rfl;have r1:wc.cell? ⟨w.heap.size,1,none⟩=some (.int .i64 0):=aq hr rfl;have f1:=ay hr 1;have q2:wc.cell? ⟨q,2,none⟩=some (.int .i64 c0):=aq hq.out rfl;have r2:wc.cell? ⟨w.heap.size,2,none⟩=some (.int .i64 0):=aq hr rfl;have f2:=ay hr 2;have q3:wc.cell? ⟨q,3,none⟩=some (.int .i64 c1):=aq hq.out rfl;have r3:wc.cell? ⟨w.heap.size,3,none⟩=some (.int .i64 0):=aq hr rfl;have f3:=ay hr 3;have q4:wc.cell? ⟨q,4,none⟩=some (.int .i64 c2):=aq hq.out rfl;have r4:wc.cell? ⟨w.heap.size,4,none⟩=some (.int .i64 0):=aq hr rfl;have f4:=ay hr 4;have q5:wc.cell? ⟨q,5,none⟩=some (.int .i64 c3):=aq hq.out rfl;have r5:wc.cell? ⟨w.heap.size,5,none⟩=some (.int .i64 0):=aq hr rfl;have f5:=ay hr 5;clear y1 y2 hq hbq hr hg hb2 hls HZ HB HR;go_wp2;refine bodyPost_ret (aO rfl _ _ w.heap.size _ _ _ _ rfl HP.out underlying91 rfl Dw) rfl ?_;exact⟨rfl,HF.out⟩
set_option maxHeartbeats 8000000 in
theorem qD {d id er ve:Int} {sa:Option Addr} {sl sc:Nat} (hn:H0.length<=100000) (hx:w.heap[xb]?=some (dt nv dv (H0++[(d,.iface 51 (.agg #[.int .i64 id,.int .i64 er,.int .i64 ve,.slice sa sl sc]))]) Wr F P)) (hc:Cells w (.slice P.ha (H0++[(d,(.iface 51 (.agg #[.int .i64 id,.int .i64 er,.int .i64 ve,.slice sa sl sc]):Value))]).length P.hc) 2 (H0++[(d,(.iface 51 (.agg #[.int .i64 id,.int .i64 er,.int .i64 ve,.slice sa sl sc]):Value))]).length (cU (H0++[(d,.iface 51 (.agg #[.int .i64 id,.int .i64 er,.int .i64 ve,.slice sa sl sc]))]))) :
 Calls prog 12 #[.pointer (some ⟨xb,0,none⟩)] w fun e w'=>e=.returned (.tuple #[.agg #[.int .i64 id,.int .i64 er,.int .i64 ve,.slice sa sl sc],.bool true])/\Below w.heap.size w w':=by
 obtain⟨b,o,hz⟩:=CF hx hc;have a1:=fun (v:Value) (w:World)=>GD 51 v w;simp only[if_true,decide_true]at a1;obtain⟨n,hn2⟩:∃n,H0.length=n:=⟨_,rfl⟩;rw[hn2]at hz hn;have z1:=hz w (ae _ w);obtain⟨m,hm⟩:∃m,n+1=m:=⟨_,rfl⟩;rw[hm]at hz z1;have hw1:IntKind.i64.wrap ((m:Int)-1)=(n:Int):=by rw[IntKind.wrap_i64];omega
 have hn0:(0:Int)<=(n:Int):=by omega
 have hnm:(n:Int)<(m:Int):=by omega
 have HZ:=ad hz;have bW:Below w.heap.size w (w.alloc (.cells #[.int .i64 0,.int .i64 0,.int .i64 0,.slice none 0 0] 51)):=an (ae _ w) _;have HB:=ad bW;have HR:=ad (heap_alloc_new w (.cells #[.int .i64 0,.int .i64 0,.int .i64 0,.slice none 0 0] 51));obtain⟨y1,y2⟩:=hz _ bW;have hmz:(m:Int)≠0:=by omega
 clear hx hc hz z1 hn2 bW hm;go_enter func12,ntmps12;go_upto_region 3 with fail;go_cut [4,5] (fun pv bv wx=>bv=.bool true/\∃q,pv=.pointer (some ⟨q,0,none⟩)/\Hid (wx.heap[q]?=some (.cells #[.int .i64 id,.int .i64 er,.int .i64 ve,.slice sa sl sc] 51 (0,0)))/\Hid (Below (w.alloc (.cells #[.int .i64 0,.int .i64 0,.int .i64 0,.slice none 0 0] 51)).heap.size (w.alloc (.cells #[.int .i64 0,.int .i64 0,.int .i64 0,.slice none 0 0] 51)) wx))
 case first =>
  go_region_held3 (fun Z=>Z.cell? ⟨xb,2,none⟩=some (.slice (some ⟨b,o,none⟩) m P.hc)/\Z.cell? ⟨b,o+n*2+1,none⟩=some (.iface 51 (.agg #[.int .i64 id,.int .i64 er,.int .i64 ve,.slice sa sl sc])))
   (first|exact⟨y1,y2⟩|(refine HZ.out _ ?_;repeat (first|exact ae _ _|refine an ?_ _|refine fY ?_ _|refine Below.drew ?_))) (fail)
  all_goals go_wp2
  all_goals go_meet
  all_goals exact⟨rfl,_,rfl,ad (newAt (heap_alloc_new _ _) (by simp[World.size_alloc])),ad (by repeat (first|exact ae _ _|refine an ?_ _|refine fY ?_ _|refine Below.drew ?_))⟩
 case rest =>
  obtain⟨rfl,q,rfl,hq,hbq⟩:=hcut;have hr:=au hbq.out ab HR.out;have hg:wc.grownBy ((((wc.setCell ⟨w.heap.size,0,none⟩ (.int .i64 id)).setCell ⟨w.heap.size,1,none⟩ (.int .i64 er)).setCell ⟨w.heap.size,2,none⟩ (.int .i64 ve)).setCell ⟨w.heap.size,3,none⟩ (.slice sa sl sc)) (some w.heap.size):=(aF (aF (aF (az _ _ _ _) (az _ _ _ _)) (az _ _ _ _)) (az _ _ _ _));have HP:=ad (show(((((wc.setCell ⟨w.heap.size,0,none⟩ (.int .i64 id)).setCell ⟨w.heap.size,1,none⟩ (.int .i64 er)).setCell ⟨w.heap.size,2,none⟩ (.int .i64 ve)).setCell ⟨w.heap.size,3,none⟩ (.slice sa sl sc))).heap[w.heap.size]?=some (.cells #[.int .i64 id,.int .i64 er,.int .i64 ve,.slice sa sl sc] 51 (0,0))by rw[(av (i:=3) (av (i:=2) (av (i:=1) (av (i:=0) hr (.int .i64 id)) (.int .i64 er)) (.int .i64 ve)) (.slice sa sl sc))];simp);have hb2:=Below.up HB.out ab hbq.out;have hls:=hb2.size;have HF:=ad (hb2.trans (aU hg ab hls));have q0:wc.cell? ⟨q,0,none⟩=some (.int .i64 id):=aq hq.out rfl;have r0:wc.cell? ⟨w.heap.size,0,none⟩=some (.int .i64 0):=aq hr rfl;have f0:=ay hr 0;have q1:wc.cell? ⟨q,1,none⟩=some (.int .i64 er):=aq hq.out rfl;have r1:wc.cell? ⟨w.heap.size,1,none⟩=some (.int .i64 0):=aq hr rfl;have f1:=ay hr 1;have q2:wc.cell? ⟨q,2,none⟩=some (.int .i64 ve):=aq hq.out rfl;have r2:wc.cell? ⟨w.heap.size,2,none⟩=some (.int .i64 0):=aq hr rfl;have f2:=ay hr 2;have q3:wc.cell? ⟨q,3,none⟩=some (.slice sa sl sc):=aq hq.out rfl;have r3:wc.cell? ⟨w.heap.size,3,none⟩=some (.slice none 0 0):=aq hr rfl;have f3:=ay hr 3;clear y1 y2 hq hbq hr hg hb2 hls HZ HB HR;go_wp2;refine bodyPost_ret (aO rfl _ _ w.heap.size _ _ _ _ rfl HP.out underlying51 rfl Be) rfl ?_;exact⟨rfl,HF.out⟩
end
theorem Lg.vM {L:List Evt.Entry} (h:Evt.follows L 0 0=true):0<=Lg.dd L:=by
 have key:∀(M:List Evt.Entry) (p ep:Int),Evt.follows M p ep=true->0<=ep->0<=(af.dX p ep M).2:=by
  intro M
  induction M with
  |nil=>intro p ep _ h;exact h
  |cons e M ih =>
   intro p ep h1 h2;obtain⟨_,h3,_,h4⟩:=af.dh.1 h1;exact ih _ _ h4 (by omega)
 exact key L 0 0 h (Int.le_refl _)
def dI (L:List Evt.Entry):Stat:=(Stat.new.aS L).2
theorem FH (l:List Evt.Entry) (e:Evt.Entry):∀st:Stat,(st.aS (l++[e])).2=((st.aS l).2.aS [e]).2:=by
 induction l with
 |nil=>intro st;rfl
 |cons x l ih=>intro st;exact ih _
theorem GY (L:List Evt.Entry) (e:Evt.Entry):dI (L++[e])=((dI L).aS [e]).2:=FH L e _
theorem j9 {L:List Evt.Entry} (h:Evt.follows L 0 0=true):(dI L).app=(L.length:Int):=by
 have:=Stat.oX L Stat.new 0 h;have h0:Stat.new.app=0:=rfl;unfold dI;omega
theorem lq {st:Stat} {L:List Evt.Entry} {e:Evt.Entry} (h:st.app=(L.length:Int)):cj st ((L++[e]).length:Int) (L++[e])=[e]:=by
 unfold cj;have hl:((L++[e]).length:Int)=(L.length:Int)+1:=by simp
 rw[if_neg (by omega),h,hl];have:=Lg.wO (L:=L++[e]) (k:=L.length) (m:=1) (by simp) (by omega);rw[show(L.length:Int)+1-(L.length:Int)=1 by omega,this];simp
theorem IK {st:Stat} {L:List Evt.Entry} {n:Int} (h:n<=st.app):cj st n L=[]:=by
 unfold cj;rw[if_pos h]
theorem JS {L:List Evt.Entry} {e:Evt.Entry}:(cR (L++[e]) (L.length:Int)).1=(cR L (L.length:Int)).1:=by
 rw[Lg.rW (by simp),Lg.rW ab];simp
def zw (L:List Evt.Entry) (e:Evt.Entry):cI:=((dI L).apply e).1.1
theorem kq (L:List Evt.Entry) (e:Evt.Entry):(dI L).aS [e]=([(e,zw L e)],dI (L++[e])):=by
 rw[GY];rfl
theorem uf {L:List Evt.Entry} {e:Evt.Entry} (h:Evt.follows (L++[e]) 0 0=true) (hL:Evt.follows L 0 0=true) (hl:L.length<=100):∀k:Nat,((dI L).aS ([e].take k)).2.app<=400000:=by
 intro k;have h1:=j9 hL;have h2:=j9 h;have h3:(L++[e]).length=L.length+1:=by simp
 match k with
 |0=>show(dI L).app<=400000;omega
 |k+1 =>
  rw[List.take_of_length_le (by simp),kq];show(dI (L++[e])).app<=400000;omega
structure NS where
 nb:Nat
 lg:Nat
 sb:Nat
 d:Nat
 r:Nat
structure Net where
 a:World
 xb:Nat
 nv:Value
 dv:Value
 kn:List (Nat×Obj)
 x1:NS
 x2:NS
 ls:Int
 ak:Int
def Net.n1 (c:Net):Nd:=⟨1,1,c.x1.d,c.x1.r,cy 2,c.ls,none,c.ak,0,[]⟩
def Net.n2 (c:Net):Nd:=gr 2 c.x2.d c.x2.r (cy 2) c.ls
structure ND where
 fs:List Dk.ai
 nx:Int
 nu:List Int
 L:List Evt.Entry
 Lp:List Evt.Entry
def ND.s (y:ND):Lg.S:=Lg.aL y.nx y.nu y.L
def ND.ok (y:ND) (L Lp:List Evt.Entry):Prop:=Lg.eK eG 1 1 y.fs y.nx y.nu L/\y.L=L/\y.Lp=Lp
def Net.rO (c:Net) (y:ND):(Nat->Prop)->(Nat->Prop)->World->Prop:=iE c.a c.x2.nb c.x2.lg c.x2.sb 4194304 y.s y.fs (dI y.Lp) c.n2
def Net.Dg (c:Net) (y:ND):(Nat->Prop)->(Nat->Prop)->World->Prop:=iE c.a c.x1.nb c.x1.lg c.x1.sb 4194304 y.s y.fs (dI y.Lp) c.n1
def Net.at (c:Net) (y1 y2:ND) (H Wr:List (Int×Value)) (F:List Int) (JX:List (Nat×Obj)) (w:World):Prop :=
 bB (c.rO y2) c.a c.x1.nb c.x1.lg c.x1.sb 4194304 y1.s y1.fs (dI y1.Lp) c.n1 c.xb c.nv c.dv c.kn H Wr F JX w
def Quiet (c:Net) (L:List Evt.Entry) (H:List (Int×Value)) (w:World):Prop:=∃y1 y2:ND,y1.ok L L/\y2.ok L L/\c.at y1 y2 H [] [] [] w
def IT (a:World) (L:List Evt.Entry) (e:Evt.Entry) (o:Obj):Prop:=∃S ex se sq sa sl sc es,e=⟨(L.length:Int)+1,1,⟨S.data.toList,ex,se,sq,es⟩⟩/\o=pC ((L.length:Int)+1) 1 S ex se sq sa sl sc/\dp a (.slice sa sl sc) es/\S.size<=1000000/\Small es/\es.length<=1000000/\Evt.fits ⟨S.data.toList,ex,se,sq,es⟩=0
def ic (L:List Evt.Entry) (b:Nat):Value:=.iface 77 (.agg #[.int .i64 1,.int .i64 1,.int .i64 (L.length:Int),.int .i64 (cR L (L.length:Int)).1,.int .i64 ((L.length:Int)+1+1),.int .i64 (L.length:Int),.slice (some ⟨b,0,none⟩) 1 1])
def wg (c:Net) (L:List Evt.Entry) (e:Evt.Entry) (H:List (Int×Value)) (w:World):Prop:=∃(y1 y2:ND) (b:Nat) (o:Obj),y1.ok (L++[e]) L/\y2.ok L L/\IT c.a L e o/\rJ c.kn b/\c.at y1 y2 H [(2,ic L b)] [1] [(b,o)] w
def KQ (S:List UInt8) (c:Net) (L:List Evt.Entry) (H:List (Int×Value)) (v:Value) (w:World):Prop :=
 (∃(y1 y2:ND) (P:jc) (O:List (Int×Value)),y1.ok L L/\y2.ok L L/\js c.xb H [] [] P/\(∀p∈c.kn++[],¬JB (bn c.xb c.nv c.dv H [] [] P) p.1)/\(O=[]\/∃d T V,O=[(d,(.iface T V:Value))]/\1000<d)/\dH (c.rO y2) (bn c.xb c.nv c.dv H [] [] P++(c.kn++[])) c.a c.x1.nb c.x1.lg c.x1.sb 4194304 y1.s y1.fs (dI y1.Lp) c.n1 O v w) \/
 (∃(y1 y2:ND) (P:jc) (e:Evt.Entry) (b:Nat) (o:Obj),y1.ok (L++[e]) L/\y2.ok L L/\IT c.a L e o/\e.b.stream=S/\rJ c.kn b/\js c.xb H [] [] P/\(∀p∈c.kn++[(b,o)],¬JB (bn c.xb c.nv c.dv H [] [] P) p.1)/\dH (c.rO y2) (bn c.xb c.nv c.dv H [] [] P++(c.kn++[(b,o)])) c.a c.x1.nb c.x1.lg c.x1.sb 4194304 y1.s y1.fs (dI y1.Lp) c.n1 [(2,ic L b)] v w)
def GK (c:Net) (L:List Evt.Entry) (H:List (Int×Value)) (v:Value) (w:World):Prop:=∃S,KQ S c L H v w
theorem Net.Hg (c:Net) {fs:List Dk.ai} {nx:Int} {nu:List Int} {L:List Evt.Entry} (h:Lg.eK eG 1 1 fs nx nu L):gq c.n1 fs:=kY (N:=c.n1) h (iT 2) (show 0<=place (cy 2) 1 by decide) (show since (cy 2) 1=1 by decide)
theorem Net.Kk (c:Net) {fs:List Dk.ai} {nx:Int} {nu:List Int} {L:List Evt.Entry} (h:Lg.eK eG 1 1 fs nx nu L):gq c.n2 fs:=kY (N:=c.n2) h (iT 2) (show 0<=place (cy 2) 2 by decide) (show since (cy 2) 2=1 by decide)
theorem Net.IX (c:Net):d' c.n1=false:=show(decide (0<=place (cy 2) 1)&&(behind (cy 2) 1==0))=false by decide
theorem Net.K8 (c:Net):d' c.n2=true:=show(decide (0<=place (cy 2) 2)&&(behind (cy 2) 2==0))=true by decide
section
variable {c:Net} {L:List Evt.Entry} {H:List (Int×Value)} {w:World}
theorem Quiet.l9 (h:Quiet c L H w):Evt.follows L 0 0=true:=by obtain⟨y1,y2,h1,_⟩:=h;exact h1.1.l9
set_option maxHeartbeats 1000000 in
theorem AV {S:ByteArray} {id ex se sq fr now:Int} {sa:Option Addr} {sl sc:Nat} {es:List Evt.Event} (h:Quiet c L H w) (hl:L.length<=40) (hS:S.size<=1000000) (hc:dp c.a (.slice sa sl sc) es) (hn:es.length<=1000000) (hx:Small es) (hid:0<=id/\id<=274877906944) (hfr:Evt.fits ⟨S.data.toList,ex,se,sq,es⟩=0->fr=1000+se) :
 Calls prog 10 #[.pointer (some ⟨c.x1.nb,0,none⟩),.int .i64 fr,.iface 42 (.agg #[.int .i64 id,.string S,.int .i64 ex,.int .i64 se,.int .i64 sq,.slice sa sl sc]),.int .i64 now] w fun e w'=>∃v,e=.returned v/\KQ S.data.toList c L H v w':=by
 have hfol:=h.l9;obtain⟨y1,y2,⟨h1,h1L,h1p⟩,⟨h2,h2L,h2p⟩,P,hk,hap,hN⟩:=h;have hR:aC c.a (c.rO y2):=cu;have hy1:y1.s=Lg.aL y1.nx y1.nu L:=by unfold ND.s;rw[h1L]
 rw[hy1,h1p]at hN;by_cases hf:Evt.fits ⟨S.data.toList,ex,se,sq,es⟩=0
 ·obtain⟨f2,n2,nums2,q1,q2⟩:=h1.prop (b:=⟨S.data.toList,ex,se,sq,es⟩) (room:=4194304) (by omega) hf (by omega) (by omega);have hb:=zr hfol hl;have hfe:dz y1.fs=1:=h1.uQ;rw[hfr hf];refine(E4 (id:=id) (now:=now) hN hR (c.Hg h1) (c.Hg q2) rfl c.IX rfl (by decide) (h1.bk 1 (by omega)) hS (lG.of hc) hn hx hid hf (by show L.length<=100;omega) (by show(L++[_]).length=L.length+1;simp) (j9 hfol) hb.1 hb.2.1 q1).mono ?_;rintro e w1 ⟨v,rfl,hv⟩;refine⟨v,rfl,?_⟩;rcases hv with⟨_,hv⟩|⟨_,b,hoff,hv⟩
  ·exact .inl ⟨y1,y2,P,_,⟨h1,h1L,h1p⟩,⟨h2,h2L,h2p⟩,hk,hap,.inr ⟨1000+se,_,_,rfl,by have:=(Evt.fw se).1 (Evt.iI hf).2.2.1;omega⟩,by rw[hy1,h1p];exact hv⟩
  ·rw[hfe]at hv;have hoff2:∀p∈bn c.xb c.nv c.dv H [] [] P++(c.kn++[]),p.1≠b:=hoff;refine .inr ⟨⟨f2,n2,nums2,L++[⟨(L.length:Int)+1,1,⟨S.data.toList,ex,se,sq,es⟩⟩],L⟩,y2,P,_,b,_,⟨q2,rfl,rfl⟩,⟨h2,h2L,h2p⟩,⟨S,ex,se,sq,sa,sl,sc,es,rfl,rfl,hc,hS,hx,hn,hf⟩,rfl,fun p hp=>hoff2 p (aD _ (aH _ hp)),hk,fun p hp=>?_,?_⟩
   ·rcases aK.1 hp with hp|hp
    ·exact hap p (aH _ hp)
    ·rw[aN.1 hp];exact fun ⟨q,hq,e⟩=>hoff2 q (aH _ hq) e
   ·rw[List.append_nil,List.append_assoc]at hv;have hd:eW c.n1 L.length (cR (L++[(⟨(L.length:Int)+1,1,⟨S.data.toList,ex,se,sq,es⟩⟩:Evt.Entry)]) (L.length:Int)).1 ((L++[(⟨(L.length:Int)+1,1,⟨S.data.toList,ex,se,sq,es⟩⟩:Evt.Entry)]).length:Int) (dI L).app (some ⟨b,0,none⟩) 1 1=[(2,ic L b)]:=by
     have e1:behind c.n1.v c.n1.id=2:=show behind (cy 2) 1=2 by decide
     unfold eW;rw[if_neg (by rw[e1];decide),e1,JS,j9 hfol];have e2:((L++[(⟨(L.length:Int)+1,1,⟨S.data.toList,ex,se,sq,es⟩⟩:Evt.Entry)]).length:Int)=(L.length:Int)+1:=by simp
     rw[e2];rfl
    rw[<-hd];exact hv
 ·have HR:=vY (x0:=id) (ex:=ex) (se:=se) (sq:=sq) hN.env hS (Cells.next hc hN.below) hn hx hid;rw[decide_eq_false hf]at HR;refine(E0 fr now HR hN hR rfl).mono ?_;rintro e w1 ⟨v,rfl,hv⟩;exact⟨v,rfl,.inl ⟨y1,y2,P,[],⟨h1,h1L,h1p⟩,⟨h2,h2L,h2p⟩,hk,hap,.inl rfl,by rw[hy1,h1p];exact hv⟩⟩
theorem C8 {S:ByteArray} {id ex se sq fr now:Int} {sa:Option Addr} {sl sc:Nat} {es:List Evt.Event} (h:Quiet c L H w) (hl:L.length<=40) (hS:S.size<=1000000) (hc:dp c.a (.slice sa sl sc) es) (hn:es.length<=1000000) (hx:Small es) (hid:0<=id/\id<=274877906944) (hfr:Evt.fits ⟨S.data.toList,ex,se,sq,es⟩=0->fr=1000+se) :
 Calls prog 10 #[.pointer (some ⟨c.x1.nb,0,none⟩),.int .i64 fr,.iface 42 (.agg #[.int .i64 id,.string S,.int .i64 ex,.int .i64 se,.int .i64 sq,.slice sa sl sc]),.int .i64 now] w fun e w'=>∃v,e=.returned v/\GK c L H v w' :=
 (AV h hl hS hc hn hx hid hfr).mono fun _ _ ⟨v,e,q⟩=>⟨v,e,_,q⟩
theorem Fk {v:Value} {S:List UInt8} (h:KQ S c L H v w) (hH:H.length<=90000):Calls prog 9 #[.pointer (some ⟨c.xb,0,none⟩),.int .i64 1,v] w fun e w'=>e=.returned (.tuple #[])/\((∃H',H'.length<=H.length+1/\Quiet c L H' w')\/∃e,e.b.stream=S/\wg c L e H w'):=by
 rcases h with⟨y1,y2,P,O,h1,h2,hk,hap,hO,hT⟩|⟨y1,y2,P,e,b,o,h1,h2,he,heS,hoff,hk,hap,hT⟩
 ·have hOl:O.length<=1/\(∀p∈O,p.2.oneCell'=true)/\dy O=O/\cV O=[]:=by
   rcases hO with rfl|⟨d,T,V,rfl,hd⟩
   ·exact⟨by simp,(fun p hp=>by cases hp),rfl,rfl⟩
   ·exact⟨by simp,(fun p hp=>by rw[aN.1 hp];rfl),by simp[dy,hd],by simp[cV,hd]⟩
  refine(kX 1 hT hk hap cu hOl.2.1 ⟨by omega,by simp;omega,by simp;omega⟩).mono ?_;rintro e w1 ⟨rfl,hL⟩;rw[hOl.2.2.1,hOl.2.2.2]at hL;exact⟨rfl,.inl ⟨_,by simp;omega,y1,y2,h1,h2,hL⟩⟩
 ·refine(kX 1 hT hk hap cu (fun p hp=>by rw[aN.1 hp];rfl) ⟨by simp;omega,by simp,by simp⟩).mono ?_;rintro e1 w1 ⟨rfl,hL⟩;have e2:dy [((2:Int),ic L b)]=[]:=by simp[dy]
  have e3:cV [((2:Int),ic L b)]=[(2,ic L b)]:=by simp[cV]
  rw[e2,e3,List.append_nil]at hL;exact⟨rfl,.inr ⟨e,heS,y1,y2,b,o,h1,h2,he,hoff,hL⟩⟩
theorem G6 {v:Value} (h:GK c L H v w) (hH:H.length<=90000):Calls prog 9 #[.pointer (some ⟨c.xb,0,none⟩),.int .i64 1,v] w fun e w'=>e=.returned (.tuple #[])/\((∃H',H'.length<=H.length+1/\Quiet c L H' w')\/∃e,wg c L e H w'):=by
 obtain⟨S,h⟩:=h;exact(Fk h hH).mono fun _ _ ⟨e,q⟩=>⟨e,q.imp id fun ⟨e,_,q⟩=>⟨e,q⟩⟩
end
end Go.Proofs.YtmgmknmaepjnoaaGreatDoor
