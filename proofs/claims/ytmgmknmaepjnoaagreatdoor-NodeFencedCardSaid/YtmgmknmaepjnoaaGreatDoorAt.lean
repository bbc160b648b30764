/-
  append of whatever row onto a row of the call's own, of elements of whatever size.
-/
import Derived.Deep.Upon
import Derived.Sort.KeysCollected
import Derived.Test.YtmgmknmaepjnoaaGreatDoorCut
namespace Go.Proofs.YtmgmknmaepjnoaaGreatDoor
open Go.RowKit Go.Shelf Proofs.Tryz
section
theorem uK (w:World) (r:Option Nat):w.grownBy w r:=⟨rfl,rfl,rfl,ab,fun _ _ _=>rfl⟩
theorem vt {P:Program} {t e:TypeId} {sz:Nat} (E:fh P t e sz) (w:World) (base:Nat) (ty:TypeId) (v:Value) (n:Nat) (xs:List Value) (hown:w.ownsRow base e sz v n xs) (x:Value) (m:Nat) (news:List Value) (hx:Cells w x sz m news) (h1:∀u∈news,u.oneCell'=true)
 (hn:n+m<=1000000) (hbase:base<=w.heap.size) :
 ∃v' w',(Builtin.append_ #[t,t] ty #[v,x]).run P w=.ok v' w'/\w'.ownsRow base e sz v' (n+m) (xs++news)/\w.grownBy w' v.ownBlock/\(v≠.slice none 0 0->v'≠.slice none 0 0):=by
 obtain⟨i,z,bytes,h2,h3,h4,h5,h6,h7⟩:=E.info;rcases hx.2 with⟨rfl,a,c,rfl⟩|⟨b,o,c,rfl,hx2⟩
 ·have hnn:news=[]:=aP (by have:=hx.1;omega);subst hnn;obtain⟨bs,sl,sc,rfl,hle⟩:∃bs sl sc,v=.slice bs sl sc/\sl<=sc:=by
   rcases hown.2 with⟨rfl,_⟩|⟨g,cap,cur,rfl,_,_,hc,_⟩
   ·exact⟨_,_,_,rfl,ab⟩
   ·exact⟨_,_,_,rfl,hc⟩
  have hs:Src P i.size t (.slice a 0 c) 0 [] w:=by
   cases a with
   |none=>exact Src.ofNil w E.und c
   |some a=>exact Src.ofSlice w E.und a 0 c [] (by simp) (fun j u h=>by simp at h) (fun u h=>by cases h)
  exact⟨_,_,run_append_nothing w t t ty e i E.und h2 bs sl sc hle _ hs,by simpa using hown,uK _ _,fun h=>h⟩
 ·have hb:(n+m)*bytes<=(n+m)*128:=Nat.mul_le_mul_left _ h7;obtain⟨v',w',hr,h8,h9,h10⟩:=run_append_own (P:=P) w base t ty e i z sz bytes E.und h2 h3 h4 h5 h6 E.pos v n xs hown ⟨b,o,none⟩ m c news hx.1
   (fun j u hj=>by rw[show((⟨b,o,none⟩:Addr).add j)=⟨b,o+j,none⟩by unfold Addr.add;split <;> simp_all];exact hx2 j u hj) h1 (by unfold maxLen;omega) (by omega) hbase
  exact⟨v',w',hr,h8,h9,fun h g=>h (h10.1 g).1⟩
theorem pO {P:Program} {o:Oper} {a:Act} {w:World} {K:Act->World->Prop} {Q:Exit->Act->World->Prop} (s x:Operand) {t e:TypeId} {sz:Nat}
 (ho:o.op=.call {callee:=.builtin .append,args:=#[s,x],argTypes:=#[t,t]}) (E:fh P t e sz) (base:Nat) (v:Value) (n:Nat) (xs:List Value) (hs:a.eval s=v) (hown:w.ownsRow base e sz v n xs) (y:Value) (m:Nat) (news:List Value) (hy:a.eval x=y) (hx:Cells w y sz m news)
 (h1:∀u∈news,u.oneCell'=true) (hn:n+m<=1000000) (hbase:base<=w.heap.size)
 (h:∀v' w',w'.ownsRow base e sz v' (n+m) (xs++news)->w.grownBy w' v.ownBlock->(v≠.slice none 0 0->v'≠.slice none 0 0)->K (a.put o.dst v') w'):Oper.wp P o a w K Q:=by
 obtain⟨v',w',hr,h2,h3,h4⟩:=vt E w base o.type v n xs hown y m news hx h1 hn hbase;unfold Oper.wp execOp;simp only[ho,resolve,invoke,builtin,Sem.run_bind,Sem.run_pure,Result.andThen_ok,List.map_toArray,List.map_cons,List.map_nil,hs,hy,hr];exact h v' w' h2 h3 h4
theorem fG {P:Program} {ops:Array Oper} {rest:List Oper} {o:Oper} {a:Act} {w:World} {Q:Exit->Act->World->Prop} (hwd:Region.wanted o (yielded ops a.tmps)=true) (s x:Operand) {t e:TypeId} {sz:Nat}
 (ho:o.op=.call {callee:=.builtin .append,args:=#[s,x],argTypes:=#[t,t]}) (E:fh P t e sz) (base:Nat) (v:Value) (n:Nat) (xs:List Value) (hs:a.eval s=v) (hown:w.ownsRow base e sz v n xs) (y:Value) (m:Nat) (news:List Value) (hy:a.eval x=y) (hx:Cells w y sz m news)
 (h1:∀u∈news,u.oneCell'=true) (hn:n+m<=1000000) (hbase:base<=w.heap.size)
 (h:∀v' w',w'.ownsRow base e sz v' (n+m) (xs++news)->w.grownBy w' v.ownBlock->(v≠.slice none 0 0->v'≠.slice none 0 0)->wpList P ops Q rest (a.put o.dst v') w') :
 wpList P ops Q (o::rest) a w:=by
 refine wpList_step fun K hK=>?_;rw[if_pos hwd];exact pO s x ho E base v n xs hs hown y m news hy hx h1 hn hbase (fun v' w' a b c=>hK _ _ (h v' w' a b c))
theorem tS {P:Program} {ops:Array Oper} {o:Oper} {a:Act} {w:World} {K:Act->World->Prop} {Q:Exit->Act->World->Prop} {EE:Prop} (hwd:Region.wanted o (yielded ops a.tmps)=true) (s x:Operand) {t e:TypeId} {sz:Nat}
 (ho:o.op=.call {callee:=.builtin .append,args:=#[s,x],argTypes:=#[t,t]}) (E:fh P t e sz) (base:Nat) (v:Value) (n:Nat) (xs:List Value) (hs:a.eval s=v) (hown:w.ownsRow base e sz v n xs) (y:Value) (m:Nat) (news:List Value) (hy:a.eval x=y) (hx:Cells w y sz m news)
 (h1:∀u∈news,u.oneCell'=true) (hn:n+m<=1000000) (hbase:base<=w.heap.size)
 (h:∀v' w',w'.ownsRow base e sz v' (n+m) (xs++news)->w.grownBy w' v.ownBlock->(v≠.slice none 0 0->v'≠.slice none 0 0)->K (a.put o.dst v') w') :
 if Region.wanted o (yielded ops a.tmps)=true then Oper.wp P o a w K Q else EE:=by
 rw[if_pos hwd];exact pO s x ho E base v n xs hs hown y m news hy hx h1 hn hbase h
theorem me (w:World) (B:Nat) (e:TypeId) (sz:Nat) (hB:B<=w.heap.size):(w.alloc (.cells #[] e)).ownsRow B e sz (.slice (some ⟨w.heap.size,0,none⟩) 0 0) 0 [] :=
 ⟨by simp,.inr ⟨w.heap.size,0,#[],rfl,hB,Array.getElem?_push_size,ab,Nat.zero_le _,by simp,by simp⟩⟩
theorem od (ps:List bu) (h:∀p∈ps,∃sa sl sc,p.2=.slice sa sl sc):∀u∈aM ps,u.oneCell'=true:=by
 intro u hu;simp only[aM,List.mem_flatMap]at hu;obtain⟨p,hp,hu⟩:=hu;obtain⟨sa,sl,sc,e⟩:=h p hp;rw[e]at hu;simp only[List.mem_cons,List.not_mem_nil,or_false]at hu;rcases hu with rfl|rfl|rfl|rfl|rfl|rfl|rfl <;> rfl
def IS (u:Int) (w:World) (d:Nat) (room:Int) (fs:List Dk.ai) (ft:Nat->Prop) (bm:Nat) (D:DataW Unit) (g:List UInt8->Nat):Prop :=
 w.heap[d]?=some (.cells #[.int .i64 room,.int .i64 u,.map (some bm)] 129 (0,0)) /\
 w.ownsMap prog 9 fu bm fs.length D/\Maps.size D=fs.length/\fs.length<=40/\Dk.Sorted fs/\(1<=room/\room<=1073741824/\(Dk.total fs:Int)<=room)/\ft d/\ft bm /\
 (∀k,Dk.look fs k=none->Maps.has D (.string k)=false) /\
 (∀k x,Dk.look fs k=some x->Maps.has D (.string k)=true/\(∀z,D.atKey (.string k) z=.lit (.int .i64 (g k:Nat)))/\eh (g k) x.bytes x.synced w/\ft (g k)/\x.synced<=x.bytes.size) /\
 (∀k k' x x',Dk.look fs k=some x->Dk.look fs k'=some x'->g k=g k'->k=k')
variable {u:Int} {w w':World} {d:Nat} {room:Int} {fs:List Dk.ai} {ft:Nat->Prop} {bm:Nat} {D:DataW Unit} {g:List UInt8->Nat}
theorem DQ (h:IS u w d room fs ft bm D g):(fs.map (·.name)).Perm (strKeys D):=by
 obtain⟨h1,h2,h3,h4,h5,h6,h7,h8,h9,h10,h11⟩:=h;refine Collected.perm (left:=fun _=>false) ⟨?_,fun k=>?_⟩ h2 dP underlying9 (fun _=>rfl)
 ·refine List.pairwise_map.2 (h5.imp fun {a b} hab e=>?_);rw[e]at hab;exact Std.lt_irrefl hab
 ·constructor
  ·intro hk;obtain⟨x,hx,rfl⟩:=List.mem_map.1 hk;refine⟨?_,rfl⟩;cases e:Dk.look fs x.name with
   |none=>exact absurd rfl (Dk.wZ e x hx)
   |some z=>exact(h10 _ z e).1
  ·rintro ⟨hk,_⟩;cases e:Dk.look fs k with
   |none=>rw[h9 _ e]at hk;cases hk
   |some z =>
    have:=Dk.ib e;exact List.mem_map.2 ⟨z,this.2,this.1⟩
theorem zO (h:IS u w d room fs ft bm D g) {ss:List (List UInt8)} (hp:ss.Perm (strKeys D)):ss.mergeSort (fun x y=>decide (x<=y))=fs.map (·.name):=by
 have e:=mergeSort_of_perm (hp.trans (DQ h).symm);refine e.trans (List.mergeSort_of_pairwise ?_);refine List.pairwise_map.2 (h.2.2.2.2.1.imp fun {a b} hab=>?_);simp only[leB,decide_eq_true_eq];exact List.le_of_lt hab
set_option maxHeartbeats 1000000 in
theorem Aw (w:World) (h:IS u w d room fs ft bm D g) :
 Calls prog 148 #[.pointer (some ⟨d,0,none⟩)] w fun e w'=>∃sa sc,e=.returned (.slice sa fs.length sc)/\Hid (w'.ownsRow w.heap.size 9 1 (.slice sa fs.length sc) fs.length (strCells (fs.map (·.name))))/\Below w.heap.size w w':=by
 have H:=ad h;obtain⟨h1,h2,h3,h4,_⟩:=h;have d2:w.cell? ⟨d,2,none⟩=some (.map (some bm)):=aq h1 rfl;have HK:=ad (callsIn_wide.1 (Tryz.yg (some bm) w));have HS:=ad (callsIn_wide.1 (Tryz.lT bm fs.length D fu w h2 (by unfold maxLen;omega) (by omega)));clear h1 h2 h3;go_enter func148,ntmps148;go_wp2_with fail;refine HK.out.mono ?_;rintro e w1 ⟨rfl,rfl⟩;go_wp2_with fail;refine HS.out.mono ?_;rintro e w2 ⟨v,ss,rfl,hp,hrow,_,hb⟩;have hss:=zO H.out hp;have hl:ss.length=fs.length:=by
  have:=congrArg List.length hss;simpa using this
 rw[hss,hl]at hrow;have HB:=ad (((ae _ w).alloc ab (.cells #[.map (some bm)] 127)).trans (hb.mono (by simp)));have HC:=ad (bV hrow (show w.heap.size<=_ by simp));rcases hrow.2 with⟨rfl,h0⟩|⟨gg,cap,cur,rfl,_⟩
 ·clear hss hl hp hrow HK HS hb;go_wp2;go_ret;refine⟨none,0,by rw[h0];rfl,ad ?_,HB.out⟩;have:=HC.out;rw[h0]at this ⊢;simp only[strCells,List.map_map]at this ⊢;exact this
 ·clear hss hl hp hrow HK HS hb;go_wp2;go_ret;refine⟨_,_,rfl,ad ?_,HB.out⟩;have:=HC.out;simp only[strCells,List.map_map]at this ⊢;exact this
theorem ax.wide {f1 f2:Nat->Prop} (h:ax f1 w w') (hf:∀j,f1 j->f2 j):ax f2 w w':=⟨h.os,h.tape,h.output,h.size,fun j hj hn=>h.block j hj (fun h=>hn (hf j h))⟩
end
section
set_option maxHeartbeats 4000000 in
set_option maxRecDepth 100000 in
theorem Fm (p ep:Int) (S:ByteArray) (ex se sq:Int) (va vb:Value) (es:List Evt.Event) (w:World) (ha:dp w va es) (hb:dp w vb es) (hn:es.length<=1000000) :
 Calls prog 48 #[.agg #[.int .i64 p,.int .i64 ep,.string S,.int .i64 ex,.int .i64 se,.int .i64 sq,va],.agg #[.int .i64 p,.int .i64 ep,.string S,.int .i64 ex,.int .i64 se,.int .i64 sq,vb]] w fun e w'=>e=.returned (.bool true)/\Below w.heap.size w w':=by
 obtain⟨sa,la,ca,rfl⟩:=ee ha;obtain⟨sb,lb,cb,rfl⟩:=ee hb;have hla:la=es.length:=by
  rcases cC ha with⟨h,a',c',e⟩|⟨b',o',c',e⟩
  ·cases e;omega
  ·cases e;rfl
 have hlb:lb=es.length:=by
  rcases cC hb with⟨h,a',c',e⟩|⟨b',o',c',e⟩
  ·cases e;omega
  ·cases e;rfl
 subst hla hlb;obtain⟨W,hW⟩:∃W,W=(((w.alloc (.cells #[.int .i64 p,.int .i64 ep,.string S,.int .i64 ex,.int .i64 se,.int .i64 sq,.slice sa es.length ca] 95)).alloc (.cells #[.int .i64 p,.int .i64 ep,.string S,.int .i64 ex,.int .i64 se,.int .i64 sq,.slice sb es.length cb] 95)).alloc
  (.cells #[.string S,.int .i64 ex,.int .i64 se,.int .i64 sq,.slice sa es.length ca] 38)).alloc (.cells #[.string S,.int .i64 ex,.int .i64 se,.int .i64 sq,.slice sb es.length cb] 38):=⟨_,rfl⟩
 have hB:Below w.heap.size w W:=by rw[hW];exact((((ae _ w).alloc ab _).alloc (by simp) _).alloc (by simp;omega) _).alloc (by simp;omega) _
 have ca4:W.cell? ⟨w.heap.size+1+1,4,none⟩=some (.slice sa es.length ca):=by
  rw[hW];refine cell_kept ((ae _ _).alloc ab _) ab ?_;have h:=heap_alloc_new ((w.alloc (.cells #[.int .i64 p,.int .i64 ep,.string S,.int .i64 ex,.int .i64 se,.int .i64 sq,.slice sa es.length ca] 95)).alloc (.cells #[.int .i64 p,.int .i64 ep,.string S,.int .i64 ex,.int .i64 se,.int .i64 sq,.slice sb es.length cb] 95)) (.cells #[.string S,.int .i64 ex,.int .i64 se,.int .i64 sq,.slice sa es.length ca] 38);simp only[World.size_alloc]at h;rw[aw h];rfl
 have cb4:W.cell? ⟨w.heap.size+1+1+1,4,none⟩=some (.slice sb es.length cb):=by
  rw[hW];have h:=heap_alloc_new (((w.alloc (.cells #[.int .i64 p,.int .i64 ep,.string S,.int .i64 ex,.int .i64 se,.int .i64 sq,.slice sa es.length ca] 95)).alloc (.cells #[.int .i64 p,.int .i64 ep,.string S,.int .i64 ex,.int .i64 se,.int .i64 sq,.slice sb es.length cb] 95)).alloc (.cells #[.string S,.int .i64 ex,.int .i64 se,.int .i64 sq,.slice sa es.length ca] 38)) (.cells #[.string S,.int .i64 ex,.int .i64 se,.int .i64 sq,.slice sb es.length cb] 38);simp only[World.size_alloc]at h;rw[aw h];rfl
 have HA:=ad (Cells.next ha hB);have HB:=ad (Cells.next hb hB);have HW:=ad hW;have HBW:=ad hB;clear ha hb hW hB;go_enter func48,ntmps48;go_wp2;rw[<-HW.out];have C0:=ad (aB ca4 cb4);clear ca4 cb4
 go_loopw [7] (fun lv wr=>∃i:Nat,lv=.int .i64 i/\i<=es.length/\Below W.heap.size W wr) (fun lv _=>es.length-(intOf lv).toNat)
 case atStart=>exact⟨0,rfl,by omega,ae _ _⟩
 case round =>
  obtain⟨i,rfl,hi,hbr⟩:=hrel;have ca4:=cell_kept hbr ab C0.out.1;have cb4:=cell_kept hbr ab C0.out.2;by_cases hp:i<es.length
  ·obtain⟨b1,o1,c1,hv1,p1,p2⟩:=vL (Cells.next HA.out hbr) i hp;obtain⟨b2,o2,c2,hv2,q1,q2⟩:=vL (Cells.next HB.out hbr) i hp;cases hv1;cases hv2;obtain⟨x,hx⟩:∃x,es[i]=x:=⟨_,rfl⟩;rw[hx]at p1 p2 q1 q2;obtain⟨K,hK,_,_⟩:=bf x.kind;obtain⟨Dd,hDd,_,_⟩:=bf x.data;rw[hK]at p1 q1;rw[hDd]at p2 q2;clear hx hK hDd;go_wp2;go_quiet (fail);go_wp2;exact⟨⟨i+1,by go_num,by omega,below_drewN hbr _⟩,by simp[intOf];omega⟩
  ·go_wp2;go_ret;exact⟨rfl,Below.up HBW.out ab hbr⟩
theorem sR {w w':World} {b o:Nat} {u0 u1 u2 u3 u4 u5 u6:Value} (hb:Below w.heap.size w w') (h:w.cell? ⟨b,o,none⟩=some u0/\w.cell? ⟨b,o+1,none⟩=some u1/\w.cell? ⟨b,o+2,none⟩=some u2/\w.cell? ⟨b,o+3,none⟩=some u3/\w.cell? ⟨b,o+4,none⟩=some u4/\w.cell? ⟨b,o+5,none⟩=some u5/\w.cell? ⟨b,o+6,none⟩=some u6) :
 w'.cell? ⟨b,o,none⟩=some u0/\w'.cell? ⟨b,o+1,none⟩=some u1/\w'.cell? ⟨b,o+2,none⟩=some u2/\w'.cell? ⟨b,o+3,none⟩=some u3/\w'.cell? ⟨b,o+4,none⟩=some u4/\w'.cell? ⟨b,o+5,none⟩=some u5/\w'.cell? ⟨b,o+6,none⟩=some u6:=by
 obtain⟨h0,h1,h2,h3,h4,h5,h6⟩:=h;exact⟨cell_kept hb ab h0,cell_kept hb ab h1,cell_kept hb ab h2,cell_kept hb ab h3,cell_kept hb ab h4,cell_kept hb ab h5,cell_kept hb ab h6⟩
set_option maxHeartbeats 8000000 in
set_option maxRecDepth 100000 in
theorem qz (va vb:Value) (ps qs:List (Evt.Entry×Value)) (w:World) (ha:dk w va ps) (hb:dk w vb qs) (he:ag ps=ag qs) (hn:ps.length<=1000000) :
 Calls prog 26 #[va,vb] w fun e w'=>e=.returned (.bool true)/\Below w.heap.size w w':=by
 have hlen:qs.length=ps.length:=by have:=congrArg List.length he;simpa[ag]using this.symm
 obtain⟨sa,ca,rfl⟩:∃sa ca,va=.slice sa ps.length ca:=by
  rcases cC ha.1 with⟨h,a',c',e⟩|⟨b',o',c',e⟩
  ·exact⟨_,_,by rw[h];exact e⟩
  ·exact⟨_,_,e⟩
 obtain⟨sb,cb,rfl⟩:∃sb cb,vb=.slice sb qs.length cb:=by
  rcases cC hb.1 with⟨h,a',c',e⟩|⟨b',o',c',e⟩
  ·exact⟨_,_,by rw[h];exact e⟩
  ·exact⟨_,_,e⟩
 rw[hlen]at hb ⊢;have HA:=ad ha;have HB:=ad hb;have HE:=ad he;have HL:=ad hlen;clear ha hb he hlen;go_enter func26,ntmps26;go_wp2
 go_loopw [5] (fun lv wr=>∃i:Nat,lv=.int .i64 i/\i<=ps.length/\Below w.heap.size w wr) (fun lv _=>ps.length-(intOf lv).toNat)
 case atStart=>exact⟨0,rfl,by omega,ae _ _⟩
 case round =>
  obtain⟨i,rfl,hi,hbr⟩:=hrel;by_cases hp:i<ps.length
  ·obtain⟨b1,o1,c1,p,ep,S,ex,se,sq,sa1,sl1,sc1,es,hv,k0,k1,k2,k3,k4,k5,k6,hev,hS,hsm,hes,hpe,_⟩:=jI (HA.out.next hbr) i hp;obtain⟨b2,o2,c2,p',ep',S',ex',se',sq',sa2,sl2,sc2,es',hv',j0,j1,j2,j3,j4,j5,j6,hev',_,_,_,hpe',_⟩:=jI (HB.out.next hbr) i (by rw[HL.out];exact hp);cases hv;rw[HL.out]at hv';cases hv';have hiq:i<qs.length:=by rw[HL.out];exact hp
   have hq:=hpe'.out;have e:ps[i].1=qs[i].1:=by
    have h:(ag ps)[i]?=(ag qs)[i]?:=by rw[HE.out]
    simpa[ag,hp,hiq]using h
   rw[<-e,hpe.out]at hq;simp only[Evt.Entry.mk.injEq,Evt.Batch.mk.injEq]at hq;obtain⟨rfl,rfl,hSS,rfl,rfl,rfl,rfl⟩:=hq;obtain rfl:S=S':=by apply ByteArray.ext;exact Array.toList_inj.1 hSS
   have HSM:=ad (Fm p ep S ex se sq _ _ es wr.drew (Cells.next hev (ae _ _).drew) (Cells.next hev' (ae _ _).drew) hes);have hc0:=aB (aB k0 (aB k1 (aB k2 (aB k3 (aB k4 (aB k5 k6)))))) (aB j0 (aB j1 (aB j2 (aB j3 (aB j4 (aB j5 j6))))));clear e hpe hpe' hSS hsm hS hiq;go_wp2
   go_region_held3 (fun X=>(X.cell? ⟨b1,o1+i*7,none⟩=some (.int .i64 p)/\X.cell? ⟨b1,o1+i*7+1,none⟩=some (.int .i64 ep)/\X.cell? ⟨b1,o1+i*7+2,none⟩=some (.string S)/\X.cell? ⟨b1,o1+i*7+3,none⟩=some (.int .i64 ex)/\X.cell? ⟨b1,o1+i*7+4,none⟩=some (.int .i64 se)/\X.cell? ⟨b1,o1+i*7+5,none⟩=some (.int .i64 sq)/\X.cell? ⟨b1,o1+i*7+6,none⟩=some (.slice sa1 sl1 sc1))/\X.cell? ⟨b2,o2+i*7,none⟩=some (.int .i64 p)/\X.cell? ⟨b2,o2+i*7+1,none⟩=some (.int .i64 ep)/\X.cell? ⟨b2,o2+i*7+2,none⟩=some (.string S)/\X.cell? ⟨b2,o2+i*7+3,none⟩=some (.int .i64 ex)/\X.cell? ⟨b2,o2+i*7+4,none⟩=some (.int .i64 se)/\X.cell? ⟨b2,o2+i*7+5,none⟩=some (.int .i64 sq)/\X.cell? ⟨b2,o2+i*7+6,none⟩=some (.slice sa2 sl2 sc2))
    (first|exact hc0|exact⟨sR hb hc0.1,sR hb hc0.2⟩)
    (first|(go_at_call 48;refine HSM.out.mono ?_;rintro e w' ⟨rfl,hb⟩))
   go_wp2;exact⟨⟨i+1,by go_num,by omega,Below.up hbr.drew ab hb⟩,by simp[intOf];omega⟩
  ·go_wp2;go_ret;exact⟨rfl,hbr⟩
variable {a w w':World} {P d:Nat} {mv:Value} {room:Int} {fs fs':List Dk.ai} {ft:Nat->Prop}
theorem gl.cJ {base:Nat} {v:Value} {ps:List bu} (h:gl base w v ps) (hf:∀j,ft j->j<base) (ht:ax ft w w'):gl base w' v ps:=by
 have key:∀{e sz n:Nat} {v:Value} {xs:List Value},w.ownsRow base e sz v n xs->w'.ownsRow base e sz v n xs:=fun {e sz n v xs} h=>by
  obtain⟨h1,h2⟩:=h;refine⟨h1,?_⟩;rcases h2 with h2|⟨g,cap,cur,hv,hg,hw,hr⟩
  ·exact .inl h2
  ·refine .inr ⟨g,cap,cur,hv,hg,?_,hr⟩;rw[ht.block g (aA.1 hw).1 (fun h=>by have:=hf g h;omega)];exact hw
 exact⟨key h.1,fun p hp=>⟨key (h.2 p hp).1,(h.2 p hp).2⟩⟩
theorem SB.cJ {b:Nat} {f:Int} {v:Value} {t:Bool} (h:SB b f v t w) (hf:¬ft b) (ht:ax ft w w'):SB b f v t w' :=
 (ht.block b (aA.1 h).1 hf).trans h
end
namespace al
def file:List UInt8:=[109,97,110,105,102,101,115,116]
def dM:Int->List Int->Option Int
 |last,[]=>some last
 |last,n::l=>if n<=last then none else dM n l
def right (next:Int) (segs:List Int):Bool :=
 match dM 0 segs with
 |none=>false
 |some last=>decide (last<next)&&decide (next<=1073741824)&&decide (segs.length<=30)
def body (next:Int) (segs:List Int):List UInt8:=Num.put (Num.held next)++(Num.put (Num.held segs.length)++segs.flatMap fun n=>Num.put (Num.held n))
def fT (room:Int) (k:List UInt8) (s:ByteArray) (fs:List Dk.ai):List Dk.ai×Nat :=
 if (Dk.append room af.bQ s (Dk.delete af.bQ fs).1).2=0 then Dk.rename af.bQ k (Dk.sync af.bQ (Dk.append room af.bQ s (Dk.delete af.bQ fs).1).1).1
 else ((Dk.delete af.bQ (Dk.append room af.bQ s (Dk.delete af.bQ fs).1).1).1,(Dk.append room af.bQ s (Dk.delete af.bQ fs).1).2)
def bytes (next:Int) (segs:List Int):ByteArray:=⟨(Frm.bH (body next segs)).toArray⟩
def save (room next:Int) (segs:List Int) (fs:List Dk.ai):List Dk.ai×Nat:=if right next segs then fT room file (bytes next segs) fs else (fs,1)
def tk (st:List UInt8×Nat):Nat×(List UInt8×Nat):=((Num.take st.1).1,(Num.take st.1).2.1,if st.2=0 then (Num.take st.1).2.2 else st.2)
def iU:Nat->List UInt8×Nat->List Int×(List UInt8×Nat)
 |0,st=>([],st)
 |n+1,st=>if st.2≠0 then ([],st) else (((tk st).1:Int)::(iU n (tk st).2).1,(iU n (tk st).2).2)
def parse (s:List UInt8):(Int×List Int)×Nat :=
 let a:=tk ((Frm.take s).1,(Frm.take s).2.2)
 let b:=tk a.2
 let c:=iU b.1 b.2
 if c.2.2=0/\c.2.1=[]/\(Frm.take s).2.1=[]/\right a.1 c.1=true then ((a.1,c.1),0) else ((0,[]),2)
def load (fs:List Dk.ai):(Int×List Int)×Nat:=if (Dk.read file fs).2=0 then parse (Dk.read file fs).1.data.toList else ((1,[]),0)
theorem qZ:∀(l:List Int) (a b:Int),dM a l=some b->a<=b/\∀n∈l,a<n/\n<=b
 |[],a,b,h=>by simp only[dM,Option.some.injEq]at h;subst h;simp
 |n::l,a,b,h=>by
  rw[dM]at h;split at h
  ·cases h
  ·obtain⟨h1,h2⟩:=qZ l n b h;refine⟨by omega,fun m hm=>?_⟩;rcases List.mem_cons.1 hm with rfl|hm
   ·omega
   ·have:=h2 m hm;omega
theorem re:∀(l:List Int) (a b n:Int),dM a l=some b->b<n->dM a (l++[n])=some n
 |[],a,b,n,h,hn=>by
  simp only[dM,Option.some.injEq]at h;subst h;rw[List.nil_append,dM,if_neg (by omega)];rfl
 |m::l,a,b,n,h,hn=>by
  rw[dM]at h;split at h
  ·cases h
  ·rename_i g;rw[List.cons_append,dM,if_neg g];exact re l m b n h hn
theorem nz {next:Int} {segs:List Int}:right next segs=true↔∃last,dM 0 segs=some last/\last<next/\next<=1073741824/\segs.length<=30:=by
 unfold right;cases h:dM 0 segs with
 |none=>simp
 |some last=>simp[and_assoc]
theorem dC {next:Int} {segs:List Int} (h:right next segs=true):1<=next/\next<=1073741824/\segs.length<=30/\∀n∈segs,1<=n/\n<next:=by
 obtain⟨last,h1,h2,h3,h4⟩:=nz.1 h;obtain⟨g1,g2⟩:=qZ _ _ _ h1;exact⟨by omega,h3,h4,fun n hn=>by have:=g2 n hn;omega⟩
theorem y9 {next:Int} {segs:List Int} (h:right next segs=true) (h1:next<1073741824) (h2:segs.length<30):right (next+1) (segs++[next])=true:=by
 obtain⟨last,g1,g2,g3,g4⟩:=nz.1 h;exact nz.2 ⟨next,re _ _ _ _ g1 g2,by omega,by omega,by simp;omega⟩
theorem yI (n:Nat) (r:List UInt8) (h:n<=1099511627776):tk (Num.put n++r,0)=(n,r,0):=by
 unfold tk;simp only;rw[Num.gI n h r];simp
theorem Ci:∀(l:List Int) (r:List UInt8),(∀n∈l,0<=n/\n<=1099511627776)->iU l.length ((l.flatMap fun n=>Num.put (Num.held n))++r,0)=(l,r,0)
 |[],r,_=>by simp[iU]
 |n::l,r,h=>by
  have hn:=h n (by simp);have e:Num.held n=n.toNat:=by unfold Num.held;split <;> (try split) <;> omega
  rw[List.length_cons,iU,if_neg (by simp),List.flatMap_cons,List.append_assoc,yI _ _ (Num.cB n)];simp only;rw[Ci l r (fun m hm=>h m (by simp[hm])),e];simp only[Prod.mk.injEq,List.cons.injEq,and_true];omega
theorem pM (next:Int) (segs:List Int):(body next segs).length<=12+6*segs.length/\body next segs≠[]:=by
 have h1:=Num.ct _ (Num.cB next);have h2:=Num.ct _ (Num.cB segs.length);have h3:∀l:List Int,(l.flatMap fun n=>Num.put (Num.held n)).length<=6*l.length:=by
  intro l
  induction l with
  |nil=>simp
  |cons n l ih =>
   have:=Num.ct _ (Num.cB n);rw[List.flatMap_cons,List.length_append,List.length_cons];omega
 have h4:=h3 segs;refine⟨by simp only[body,List.length_append];omega,fun h=>?_⟩;have:=Num.FB (Num.held next);simp[body]at h;exact this h.1
theorem Bo {next:Int} {segs:List Int} (h:right next segs=true):parse (bytes next segs).data.toList=((next,segs),0):=by
 obtain⟨h1,h2,h3,h4⟩:=dC h;obtain⟨b1,b2⟩:=pM next segs
 have ht:=Frm.nI (body next segs) [] b2 (by omega);rw[List.append_nil]at ht;have e:Num.held next=next.toNat:=by unfold Num.held;split <;> (try split) <;> omega
 have e2:Num.held (segs.length:Int)=segs.length:=Num.jz _ (by omega);unfold parse;rw[show(bytes next segs).data.toList=Frm.bH (body next segs)from rfl,ht];simp only;have q1:tk (body next segs,0)=(next.toNat,Num.put (Num.held segs.length)++(segs.flatMap fun n=>Num.put (Num.held n)),0):=by
  unfold body;rw[e];exact yI _ _ (by omega)
 rw[q1];simp only;have q2:tk (Num.put (Num.held segs.length)++(segs.flatMap fun n=>Num.put (Num.held n)),0)=(segs.length,(segs.flatMap fun n=>Num.put (Num.held n)),0):=by
  rw[e2];exact yI _ _ (by omega)
 rw[q2];simp only;have q3:=Ci segs [] (fun n hn=>by have:=h4 n hn;omega);rw[List.append_nil]at q3;rw[q3];simp only;have hn:((next.toNat:Nat):Int)=next:=by omega
 rw[hn,if_pos (by simp[h])]
theorem Ju {next:Int} {segs:List Int} {fs:List Dk.ai} {sy:Nat} (h:right next segs=true) (hl:Dk.look fs file=some ⟨file,bytes next segs,sy⟩):load fs=((next,segs),0):=by
 have hr:Dk.read file fs=(bytes next segs,0):=by rw[Dk.read,hl]
 unfold load;rw[hr,if_pos rfl];exact Bo h
theorem F7 {fs:List Dk.ai} (hl:Dk.look fs file=none):load fs=((1,[]),0):=by
 have hr:Dk.read file fs=(⟨#[]⟩,6):=by rw[Dk.read,hl]
 unfold load;rw[hr,if_neg (by simp)]
theorem Ei:Txt.name file=true:=by simp[file,Txt.name,Txt.iM,Txt.jh,Txt.named]
theorem rp:file≠af.bQ:=by decide
theorem lE (n:Int):af.nameOf n≠file:=by
 unfold af.nameOf file;split
 ·intro h;simp at h
 ·simp
theorem yA {room:Int} {k:List UInt8} {s:ByteArray} {fs:List Dk.ai} (hs:Dk.Sorted fs) (hk:Txt.name k=true) (hkt:k≠af.bQ) (ht:Dk.look fs af.bQ=none) (h40:fs.length<40) (hr:(Dk.total fs:Int)+s.size<=room) :
 fT room k s fs=(Dk.put ⟨k,s,s.size⟩ fs,0):=by
 have hw:=af.wF (k:=af.bQ) (s:=s) hs af.tN ht h40 hr;unfold af.dY at hw;unfold fT;rw[Dk.uV,Dk.pG _ _ ht];have ha:(Dk.append room af.bQ s fs).2=0:=by
  unfold Dk.append;rw[if_neg (by rw[af.tN];simp),if_neg (by omega),if_neg (by omega)]
 rw[if_pos ha]at hw ⊢;rw[hw];have hl:=Dk.a8 ⟨af.bQ,s,s.size⟩ fs;simp only at hl;unfold Dk.rename;rw[hl];simp only;rw[if_neg (by rw[hk];simp),if_neg (fun e=>hkt e.symm)];simp only[Prod.mk.injEq,and_true];have q1:=Dk.sorted_put ⟨af.bQ,s,s.size⟩ fs hs;have q2:=Dk.sorted_del k _ q1;have q3:=Dk.sorted_del af.bQ _ q2;refine Dk.kB _ _ (Dk.sorted_put _ _ q3) (Dk.sorted_put _ _ hs) (fun j=>?_);by_cases e:j=k
 ·subst e;have e1:=Dk.a8 ⟨j,s,s.size⟩ (Dk.del af.bQ (Dk.del j (Dk.put ⟨af.bQ,s,s.size⟩ fs)));have e2:=Dk.a8 ⟨j,s,s.size⟩ fs;simp only at e1 e2;rw[e1,e2]
 ·rw[Dk.aG ⟨k,s,s.size⟩ e,Dk.aG ⟨k,s,s.size⟩ e];by_cases e2:j=af.bQ
  ·subst e2;rw[Dk.eT _ _ q2,ht]
  ·rw[Dk.cP _ e2,Dk.cP _ e,Dk.aG ⟨af.bQ,s,s.size⟩ e2]
def mark:List UInt8:=[101,112,111,99,104]
def qP (last:Int) (p:List UInt8):Bool:=(Num.take p).2.2==0&&(Num.take p).2.1.isEmpty&&decide (last<((Num.take p).1:Int))&&decide (((Num.take p).1:Int)<=274877906944)
def ig:Int->List (List UInt8)->Int×Nat×Bool
 |last,[]=>(last,0,true)
 |last,p::l=>if qP last p=true then ((ig ((Num.take p).1:Int) l).1,(ig ((Num.take p).1:Int) l).2.1+1,(ig ((Num.take p).1:Int) l).2.2) else (last,0,false)
def rq (s:List UInt8):Int×Nat×Bool:=((ig 0 (Frm.scan s).1).1,(ig 0 (Frm.scan s).1).2.1,(ig 0 (Frm.scan s).1).2.2&&(Frm.scan s).2.isEmpty)
def cx (fs:List Dk.ai):Int×Nat×Bool:=rq (Dk.read mark fs).1.data.toList
def ey (e:Int):ByteArray:=⟨(Frm.bH (Num.put (Num.held e))).toArray⟩
def lC (room e:Int) (fs:List Dk.ai):List Dk.ai×Nat :=
 if (cx fs).2.2=true/\(cx fs).2.1<=20 then Dk.append room mark (ey e) fs else fT room mark (ey e) fs
def jj (room e:Int) (fs:List Dk.ai):List Dk.ai×Nat :=
 if e<1\/274877906944<e then (fs,1) else
 if e<(cx fs).1 then (fs,10) else
 if e=(cx fs).1 then Dk.sync mark fs else
 if (lC room e fs).2=0 then Dk.sync mark (lC room e fs).1 else lC room e fs
theorem Ap {last:Int} {p:List UInt8} {l:List (List UInt8)} (h:qP last p=false):ig last (p::l)=(last,0,false):=by rw[ig,if_neg (by rw[h];simp)]
theorem Ar {last:Int} {p:List UInt8} {l:List (List UInt8)} (h:qP last p=true):ig last (p::l)=((ig ((Num.take p).1:Int) l).1,(ig ((Num.take p).1:Int) l).2.1+1,(ig ((Num.take p).1:Int) l).2.2):=by rw[ig,if_pos h]
theorem Gq:∀(l:List (List UInt8)) (last:Int),0<=last->last<=274877906944->0<=(ig last l).1/\(ig last l).1<=274877906944/\(ig last l).2.1<=l.length
 |[],last,h1,h2=>⟨h1,h2,ab⟩
 |p::l,last,h1,h2=>by
  by_cases h:qP last p=true
  ·rw[Ar h];simp only[qP,Bool.and_eq_true,decide_eq_true_eq]at h;have:=Gq l ((Num.take p).1:Int) (by omega) h.2;simp only[List.length_cons];exact⟨this.1,this.2.1,by omega⟩
  ·rw[Ap (Bool.not_eq_true _▸h)];exact⟨h1,h2,Nat.zero_le _⟩
def gx:Int->List Int->Prop
 |last,[]=>last<=274877906944
 |last,e::l=>last<e/\gx e l
theorem sZ:∀(l:List Int) (a:Int),gx a l->a<=274877906944
 |[],_,h=>h
 |e::l,a,h=>by have:=sZ l e h.2;have:=h.1;omega
def iu:Int->List Int->Int
 |a,[]=>a
 |_,e::l=>iu e l
theorem tZ:∀(l:List Int) (a e:Int),gx a l->iu a l<e->e<=274877906944->gx a (l++[e])
 |[],_,_,_,h1,h2=>⟨h1,h2⟩
 |x::l,_,e,h,h1,h2=>⟨h.1,tZ l x e h.2 h1 h2⟩
theorem uD:∀(l:List Int) (a e:Int),iu a (l++[e])=e
 |[],_,_=>rfl
 |x::l,_,e=>uD l x e
theorem tu:∀(l:List Int) (a:Int),0<=a->gx a l->a<=iu a l/\iu a l<=274877906944
 |[],a,_,h=>⟨Int.le_refl _,h⟩
 |e::l,a,h0,h=>by
  have:=tu l e (by have:=h.1;omega) h.2;have:=h.1;exact⟨by rw[iu];omega,by rw[iu];omega⟩
def gj (es:List Int):List UInt8:=es.flatMap fun e=>Frm.bH (Num.put (Num.held e))
def eO (es:List Int):Dk.ai:=⟨mark,⟨(gj es).toArray⟩,(⟨(gj es).toArray⟩:ByteArray).size⟩
theorem jz {e:Int} (h1:0<=e) (h2:e<=274877906944):((Num.held e:Nat):Int)=e/\Num.held e<=1099511627776:=by
 unfold Num.held;split
 ·omega
 ·split <;> omega
theorem jk {e:Int} (h1:0<=e) (h2:e<=274877906944):Frm.pt (Num.put (Num.held e)):=by
 have:=Num.ct (Num.held e) (jz h1 h2).2;refine⟨fun h=>?_,by omega⟩;rw[Num.put]at h;split at h <;> cases h
theorem Aq:∀(es:List Int) (a:Int),0<=a->gx a es->ig a (es.map fun e=>Num.put (Num.held e))=(iu a es,es.length,true)
 |[],_,_,_=>rfl
 |e::l,a,h0,h=>by
  have h1:=h.1;have h2:=sZ l e h.2;obtain⟨g1,g2⟩:=jz (e:=e) (by omega) h2;have ht:=Num.gI (Num.held e) g2 [];rw[List.append_nil]at ht;have hok:qP a (Num.put (Num.held e))=true:=by
   simp only[qP,ht,g1,beq_self_eq_true,List.isEmpty_nil,Bool.and_true,Bool.true_and,Bool.and_eq_true,decide_eq_true_eq];exact⟨h1,h2⟩
  rw[List.map_cons,Ar hok,ht];simp only[g1];rw[Aq l e (by omega) h.2];rfl
theorem Ht (es:List Int):gj es=(es.map fun e=>Num.put (Num.held e)).flatMap Frm.bH:=by
 simp[gj,List.flatMap_map]
theorem qB:∀(es:List Int) (a:Int),0<=a->gx a es->∀e∈es,0<=e/\e<=274877906944
 |[],_,_,_,e,he=>by cases he
 |x::l,a,h0,h,e,he=>by
  have h1:=h.1;rcases List.mem_cons.1 he with rfl|he
  ·exact⟨by omega,sZ l _ h.2⟩
  ·exact qB l x (by omega) h.2 e he
theorem BY {es:List Int} (h:gx 0 es):rq (gj es)=(iu 0 es,es.length,true):=by
 have hg:∀p∈es.map (fun e=>Num.put (Num.held e)),Frm.pt p:=fun p hp=>by
  obtain⟨e,he,rfl⟩:=List.mem_map.1 hp;have:=qB es 0 (by omega) h e he;exact jk this.1 this.2
 have hs:Frm.scan (gj es)=(es.map (fun e=>Num.put (Num.held e)),[]):=by
  have:=Frm.yZ _ [] hg;rw[List.append_nil,Frm.G4,List.append_nil,<-Ht]at this;exact this
 unfold rq;rw[hs,Aq es 0 (by omega) h];rfl
theorem wW {es:List Int} (h:gx 0 es):(gj es).length<=14*es.length:=by
 have key:∀l:List Int,(∀e∈l,0<=e/\e<=274877906944)->(gj l).length<=14*l.length:=by
  intro l
  induction l with
  |nil=>intro _;simp[gj]
  |cons e l ih =>
   intro hl;have h1:=ih (fun x hx=>hl x (List.mem_cons_of_mem _ hx));have h2:=hl e List.mem_cons_self;have h3:=Num.ct (Num.held e) (jz h2.1 h2.2).2;rw[gj,List.flatMap_cons,List.length_append,Frm.gy,List.length_cons];unfold gj at h1;omega
 exact key es (qB es 0 (by omega) h)
theorem DR (es:List Int) (e:Int):gj (es++[e])=gj es++Frm.bH (Num.put (Num.held e)):=by simp[gj]
theorem Gn {es:List Int} {fs:List Dk.ai} (h:gx 0 es) (hl:Dk.look fs mark=some (eO es)):cx fs=(iu 0 es,es.length,true):=by
 unfold cx Dk.read;rw[hl];exact BY h
theorem BX {fs:List Dk.ai} (hl:Dk.look fs mark=none):cx fs=(0,0,true):=by
 unfold cx Dk.read;rw[hl];rfl
theorem uu:Txt.name mark=true:=by simp[mark,Txt.name,Txt.iM,Txt.jh,Txt.named]
theorem zQ:mark≠af.bQ:=by decide
theorem zR:mark≠file:=by decide
end al
end Go.Proofs.YtmgmknmaepjnoaaGreatDoor
