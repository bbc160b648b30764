/-
  A disk in memory: its block, its map, its files' blocks; the walks of disk.New, Read, Synced, Used, Sync.
-/
import Derived.Test.YtmgmknmaepjnoaaGreatDoorEvts
import Derived.Maps.OwnSet
namespace Go.Proofs.YtmgmknmaepjnoaaGreatDoor
open Go.RowKit Go.Shelf Proofs.Tryz
def fu:Value->Option (DataW Unit×List MemPlace)
 |.pointer none=>some (.nil,[])
 |.pointer (some ⟨b,0,none⟩)=>some (.lit (.int .i64 b),[])
 |_=>none
theorem ta {v:Value} {ps:List MemPlace} (h:fu v=some (.nil,ps)):v=.pointer none:=by
 unfold fu at h;split at h
 ·rfl
 ·cases h
 ·cases h
theorem vx {v:Value} {b:Nat} {ps:List MemPlace} (h:fu v=some (.lit (.int .i64 b),ps)):v=.pointer (some ⟨b,0,none⟩):=by
 unfold fu at h;split at h
 ·cases h
 ·rename_i c;simp only[Option.some.injEq,Prod.mk.injEq,DataW.lit.injEq,Lit.int.injEq,true_and]at h;obtain⟨h,_⟩:=h;have:c=b:=by omega
  rw[this]
 ·cases h
structure ax (ft:Nat->Prop) (w w':World):Prop where
 os:w'.os=w.os
 tape:w'.tape=w.tape
 output:w'.output=w.output
 size:w.heap.size<=w'.heap.size
 block:∀j,j<w.heap.size->¬ft j->w'.heap[j]?=w.heap[j]?
theorem ax.refl (ft:Nat->Prop) (w:World):ax ft w w:=⟨rfl,rfl,rfl,ab,fun _ _ _=>rfl⟩
theorem ax.aI {ft:Nat->Prop} {w w':World} (h:Below w.heap.size w w'):ax ft w w':=⟨h.os,h.tape,h.output,h.size,fun j hj _=>h.block j hj⟩
theorem ax.cq {ft:Nat->Prop} {w w':World} {b:Nat} (h:w.grownBy w' (some b)) (hb:ft b):ax ft w w' :=
 ⟨h.os,h.tape,h.output,h.size,fun j hj hn=>h.block j hj (fun e=>by cases e;exact hn hb)⟩
theorem ax.trans {f1 f2:Nat->Prop} {w w1 w2:World} (h:ax f1 w w1) (k:ax f2 w1 w2) (hf:∀j,f2 j->f1 j\/w.heap.size<=j):ax f1 w w2 :=
 ⟨k.os.trans h.os,k.tape.trans h.tape,k.output.trans h.output,Nat.le_trans h.size k.size,fun j hj hn=>(k.block j (Nat.lt_of_lt_of_le hj h.size) (fun hf2=>by
  rcases hf j hf2 with h3|h3
  ·exact hn h3
  ·omega)).trans (h.block j hj hn)⟩
theorem ax.below {ft:Nat->Prop} {w w':World} {B:Nat} (h:ax ft w w') (hB:∀j,ft j->B<=j) (hs:B<=w.heap.size):Below B w w' :=
 ⟨h.os,h.tape,h.output,Nat.le_trans hs h.size |> fun _=>h.size,fun j hj=>h.block j (Nat.lt_of_lt_of_le hj hs) (fun hf=>by have:=hB j hf;omega)⟩
def eh (b:Nat) (bs:ByteArray) (sy:Nat) (w:World):Prop:=w.heap[b]?=some (.cells #[.string bs,.int .i64 (sy:Int)] 251 (0,0))
def bw (w:World) (d:Nat) (room:Int) (fs:List Dk.ai) (ft:Nat->Prop):Prop :=
 ∃(bm:Nat) (D:DataW Unit) (g:List UInt8->Nat),
  w.heap[d]?=some (.cells #[.int .i64 room,.int .i64 (Dk.total fs:Int),.map (some bm)] 129 (0,0)) /\
  w.ownsMap prog 9 fu bm fs.length D/\Maps.size D=fs.length/\fs.length<=40/\Dk.Sorted fs/\(1<=room/\room<=1073741824/\(Dk.total fs:Int)<=room)/\ft d/\ft bm /\
  (∀k,Dk.look fs k=none->Maps.has D (.string k)=false) /\
  (∀k x,Dk.look fs k=some x->Maps.has D (.string k)=true/\(∀z,D.atKey (.string k) z=.lit (.int .i64 (g k:Nat)))/\eh (g k) x.bytes x.synced w/\ft (g k)/\x.synced<=x.bytes.size) /\
  (∀k k' x x',Dk.look fs k=some x->Dk.look fs k'=some x'->g k=g k'->k=k')
theorem ownsMap_at {w w':World} {bm n:Nat} {D:DataW Unit} (h:w.ownsMap prog 9 fu bm n D) (he:w'.heap[bm]?=w.heap[bm]?):w'.ownsMap prog 9 fu bm n D:=by
 obtain⟨es,clock,hb,F,hs,hD⟩:=h;exact⟨es,clock,he.trans hb,F,hs,hD⟩
theorem bw.kept {w w':World} {d:Nat} {room:Int} {fs:List Dk.ai} {ft:Nat->Prop} (h:bw w d room fs ft) (hk:∀j,j<w.heap.size->ft j->w'.heap[j]?=w.heap[j]?):bw w' d room fs ft:=by
 obtain⟨bm,D,g,h1,h2,h3,h4,h5,h6,h7,h8,h9,h10,h11⟩:=h;refine⟨bm,D,g,(hk d (aA.1 h1).1 h7).trans h1,ownsMap_at h2 (hk bm h2.lt h8),h3,h4,h5,h6,h7,h8,h9,fun k x hx=>?_,h11⟩;obtain⟨a,b,c,e,f⟩:=h10 k x hx;exact⟨a,b,(hk _ (aA.1 c).1 e).trans c,e,f⟩
theorem bw.next {w w':World} {d:Nat} {room:Int} {fs:List Dk.ai} {ft:Nat->Prop} (h:bw w d room fs ft) (hb:Below w.heap.size w w'):bw w' d room fs ft :=
 h.kept fun j hj _=>hb.block j hj
theorem bw.other {w w':World} {d:Nat} {room:Int} {fs:List Dk.ai} {ft f2:Nat->Prop} (h:bw w d room fs ft) (ht:ax f2 w w') (hd:∀j,ft j->¬f2 j):bw w' d room fs ft :=
 h.kept fun j hj hf=>ht.block j hj (hd j hf)
theorem ER (w:World):(zeroValue 249).run prog w=.ok (.pointer none) w:=by kernel_rfl
theorem dP:Maps.Keyed prog 9:=Maps.string_keyed underlying9
theorem mN {w:World} {bm n:Nat} {D:DataW Unit} (h:w.ownsMap prog 9 fu bm n D) (nm:ByteArray) (hs:nm.size<=1000000000000) :
 ∃v ps,(Instr.lookup 127 (.map (some bm)) (.string nm) false).run prog w=.ok v w/\fu v=some (D.atKey (.string nm.data.toList) .nil,ps) :=
 h.lookup dP underlying127 (ER w) (zd:=.nil) (zp:=[]) rfl (WideMaps.keyOf_string_mk underlying9 (by unfold maxLen;omega))
set_option maxHeartbeats 1000000 in
set_option maxRecDepth 100000 in
theorem gO (d:Nat) (room:Int) (fs:List Dk.ai) (ft:Nat->Prop) (nm:ByteArray) (w:World) (h:bw w d room fs ft) (hn:nm.size<=1000000000000) :
 Calls prog 99 #[.pointer (some ⟨d,0,none⟩),.string nm] w fun e w'=>e=.returned (.tuple #[.string (Dk.read nm.data.toList fs).1,.int .i64 ((Dk.read nm.data.toList fs).2:Nat)])/\w=w':=by
 obtain⟨bm,D,g,h1,h2,h3,h4,h5,h6,h7,h8,h9,h10,h11⟩:=h;obtain⟨v,ps,hrun,hR⟩:=mN h2 nm hn;have d2:w.cell? ⟨d,2,none⟩=some (.map (some bm)):=aq h1 rfl;have HR:=ad h1;clear h1 h3 h4 h5 h6 h7 h8 h11;cases hl:Dk.look fs nm.data.toList with
 |none =>
  have hv:=h9 _ hl;rw[Maps.atKey_of_not_has hv]at hR;obtain rfl:=ta hR;have HQ:=ad (show Dk.read nm.data.toList fs=(⟨#[]⟩,6)by rw[Dk.read,hl]);clear hR hv hl h9 h10 h2;go_enter func99,ntmps99;go_wp2
  go_ret2
  exact⟨by rw[HQ.out];rfl,rfl⟩
 |some x =>
  obtain⟨_,ha,hF,_,_⟩:=h10 _ x hl;rw[ha .nil]at hR;obtain rfl:=vx hR;have HQ:=ad (show Dk.read nm.data.toList fs=(x.bytes,0)by rw[Dk.read,hl]);have f0:w.cell? ⟨g nm.data.toList,0,none⟩=some (.string x.bytes):=aq hF rfl;obtain⟨gb,hgb⟩:∃gb,g nm.data.toList=gb:=⟨_,rfl⟩;rw[hgb]at hrun f0;clear hR hl h9 h10 h2 ha hF hgb;go_enter func99,ntmps99;go_wp2
  go_ret2
  exact⟨by rw[HQ.out];rfl,rfl⟩
def DStep (d:Nat) (room:Int) (fs:List Dk.ai) (ft:Nat->Prop) (w w':World):Prop:=∃ft',bw w' d room fs ft'/\(∀j,ft' j->ft j\/w.heap.size<=j)/\ax ft w w'
theorem DStep.refl {d:Nat} {room:Int} {fs:List Dk.ai} {ft:Nat->Prop} {w:World} (h:bw w d room fs ft):DStep d room fs ft w w:=⟨ft,h,fun _ hj=>.inl hj,ax.refl _ _⟩
theorem DStep.aI {d:Nat} {room:Int} {fs:List Dk.ai} {ft:Nat->Prop} {w w':World} (h:bw w d room fs ft) (hb:Below w.heap.size w w'):DStep d room fs ft w w':=⟨ft,h.next hb,fun _ hj=>.inl hj,ax.aI hb⟩
theorem bw.write {w w':World} {d bm:Nat} {room:Int} {fs:List Dk.ai} {ft:Nat->Prop} {D:DataW Unit} {g:List UInt8->Nat}
 (h1:w.heap[d]?=some (.cells #[.int .i64 room,.int .i64 (Dk.total fs:Int),.map (some bm)] 129 (0,0))) (h2:w.ownsMap prog 9 fu bm fs.length D) (h3:Maps.size D=fs.length) (h4:fs.length<=40) (h5:Dk.Sorted fs) (h7:ft d) (h8:ft bm)
 (h9:∀k,Dk.look fs k=none->Maps.has D (.string k)=false)
 (h10:∀k x,Dk.look fs k=some x->Maps.has D (.string k)=true/\(∀z,D.atKey (.string k) z=.lit (.int .i64 (g k:Nat)))/\eh (g k) x.bytes x.synced w/\ft (g k)/\x.synced<=x.bytes.size)
 (h11:∀k k' x x',Dk.look fs k=some x->Dk.look fs k'=some x'->g k=g k'->k=k')
 {x:Dk.ai} (y:Dk.ai) (hl:Dk.look fs y.name=some x) (hr:1<=room/\room<=1073741824/\(Dk.total (Dk.put y fs):Int)<=room) (hy:y.synced<=y.bytes.size)
 (hd:w'.heap[d]?=some (.cells #[.int .i64 room,.int .i64 (Dk.total (Dk.put y fs):Int),.map (some bm)] 129 (0,0))) (hF:eh (g y.name) y.bytes y.synced w')
 (hk:∀j,j<w.heap.size->j≠g y.name->j≠d->w'.heap[j]?=w.heap[j]?):bw w' d room (Dk.put y fs) ft:=by
 have hlen:(Dk.put y fs).length=fs.length:=by rw[Dk.gE y fs h5,hl];rfl
 have hx:=h10 _ x hl;have hb1:bm≠g y.name:=by
  rintro e;obtain⟨es,clock,hb,_⟩:=h2;have:=hx.2.2.1;rw[eh,<-e,hb]at this;cases this
 have hb2:bm≠d:=by
  rintro e;obtain⟨es,clock,hb,_⟩:=h2;rw[<-e,hb]at h1;cases h1
 refine⟨bm,D,g,hd,by rw[hlen];exact ownsMap_at h2 (hk bm h2.lt hb1 hb2),by rw[hlen];exact h3,by rw[hlen];exact h4,Dk.sorted_put y fs h5,hr,h7,h8,?_,?_,?_⟩
 ·intro k hk';by_cases e:k=y.name
  ·subst e;rw[Dk.a8]at hk';cases hk'
  ·rw[Dk.aG y e]at hk';exact h9 k hk'
 ·intro k z hz;by_cases e:k=y.name
  ·subst e;rw[Dk.a8]at hz;cases hz;exact⟨hx.1,hx.2.1,hF,hx.2.2.2.1,hy⟩
  ·rw[Dk.aG y e]at hz;obtain⟨a,b,c,f,q⟩:=h10 k z hz;refine⟨a,b,?_,f,q⟩;have c1:g k≠g y.name:=fun e2=>e (h11 _ _ _ _ hz hl e2);have c2:g k≠d:=by
    rintro e2;rw[eh,e2,h1]at c;simp at c
   exact(hk _ (aA.1 c).1 c1 c2).trans c
 ·intro k k' z z' hz hz' hg;have q:∀k z,Dk.look (Dk.put y fs) k=some z->∃u,Dk.look fs k=some u:=fun k z hz=>by
   by_cases e:k=y.name
   ·subst e;exact⟨x,hl⟩
   ·rw[Dk.aG y e]at hz;exact⟨z,hz⟩
  obtain⟨u,hu⟩:=q k z hz;obtain⟨u',hu'⟩:=q k' z' hz';exact h11 _ _ _ _ hu hu' hg
set_option maxHeartbeats 1000000 in
set_option maxRecDepth 100000 in
theorem gN (d:Nat) (room:Int) (fs:List Dk.ai) (ft:Nat->Prop) (nm:ByteArray) (w:World) (h:bw w d room fs ft) (hn:nm.size<=1000000000000) :
 Calls prog 94 #[.pointer (some ⟨d,0,none⟩),.string nm] w fun e w'=>e=.returned (.int .i64 ((Dk.sync nm.data.toList fs).2:Nat))/\DStep d room (Dk.sync nm.data.toList fs).1 ft w w':=by
 have hID:=ad h;obtain⟨bm,D,g,h1,h2,h3,h4,h5,h6,h7,h8,h9,h10,h11⟩:=h;obtain⟨v,ps,hrun,hR⟩:=mN h2 nm hn;have d2:w.cell? ⟨d,2,none⟩=some (.map (some bm)):=aq h1 rfl;cases hl:Dk.look fs nm.data.toList with
 |none =>
  have hv:=h9 _ hl;rw[Maps.atKey_of_not_has hv]at hR;obtain rfl:=ta hR;have HQ:=ad (show Dk.sync nm.data.toList fs=(fs,6)by rw[Dk.sync,hl]);clear hR hv hl h9 h10 h2 h1 h3 h4 h5 h6 h7 h8 h11;go_enter func94,ntmps94;go_wp2;go_ret;rw[HQ.out];exact⟨rfl,DStep.refl hID.out⟩
 |some x =>
  have hx:=h10 _ x hl;rw[hx.2.1 .nil]at hR;obtain rfl:=vx hR;have HQ:=ad (show Dk.sync nm.data.toList fs=(Dk.put ⟨nm.data.toList,x.bytes,x.bytes.size⟩ fs,0)by rw[Dk.sync,hl]);have f0:w.cell? ⟨g nm.data.toList,0,none⟩=some (.string x.bytes):=aq hx.2.2.1 rfl;have f1:w.cell? ⟨g nm.data.toList,1,none⟩=some (.int .i64 (x.synced:Int)):=aq hx.2.2.1 rfl;have fz:=ay hx.2.2.1 1;have htot:Dk.total (Dk.put ⟨nm.data.toList,x.bytes,x.bytes.size⟩ fs)=Dk.total fs:=by
   have:=Dk.kj ⟨nm.data.toList,x.bytes,x.bytes.size⟩ fs h5;simp only[hl]at this;omega
  have hF2:=av (i:=1) hx.2.2.1 (.int .i64 (x.bytes.size:Int));have hne:d≠g nm.data.toList:=by
   rintro e;have:=hx.2.2.1;rw[eh,<-e,h1]at this;simp at this
  have HW:=ad (bw.write (w':=w.setCell ⟨g nm.data.toList,1,none⟩ (.int .i64 (x.bytes.size:Int))) h1 h2 h3 h4 h5 h7 h8 h9 h10 h11 ⟨nm.data.toList,x.bytes,x.bytes.size⟩ hl (by rw[htot];exact h6) ab
   (by rw[htot,Below.heap_setCell _ _ _ d hne];exact h1) hF2 (fun j _ hj _=>Below.heap_setCell _ _ _ j hj))
  have HT:=ad (ax.cq (az w (g nm.data.toList) 1 (.int .i64 (x.bytes.size:Int))) hx.2.2.2.1);obtain⟨gb,hgb⟩:∃gb,g nm.data.toList=gb:=⟨_,rfl⟩;rw[hgb]at hrun f0 f1 fz HW HT;clear hR hl h9 h10 h2 h1 h3 h4 h5 h6 h7 h8 h11 hx hgb hF2 hne htot;go_enter func94,ntmps94;go_wp2;go_ret;rw[HQ.out];exact⟨rfl,ft,HW.out,fun _ hj=>.inl hj,HT.out⟩
theorem bw.insert {w w':World} {d bm:Nat} {room:Int} {fs:List Dk.ai} {ft:Nat->Prop} {D:DataW Unit} {g:List UInt8->Nat}
 (h2:w.ownsMap prog 9 fu bm fs.length D) (h3:Maps.size D=fs.length) (h5:Dk.Sorted fs) (h7:ft d) (h8:ft bm)
 (h1:w.heap[d]?=some (.cells #[.int .i64 room,.int .i64 (Dk.total fs:Int),.map (some bm)] 129 (0,0)))
 (h9:∀k,Dk.look fs k=none->Maps.has D (.string k)=false)
 (h10:∀k x,Dk.look fs k=some x->Maps.has D (.string k)=true/\(∀z,D.atKey (.string k) z=.lit (.int .i64 (g k:Nat)))/\eh (g k) x.bytes x.synced w/\ft (g k)/\x.synced<=x.bytes.size)
 (h11:∀k k' x x',Dk.look fs k=some x->Dk.look fs k'=some x'->g k=g k'->k=k')
 (y:Dk.ai) (hl:Dk.look fs y.name=none) (h4:fs.length<40) (hr:1<=room/\room<=1073741824/\(Dk.total (Dk.put y fs):Int)<=room) (hy:y.synced<=y.bytes.size) (nb:Nat) (hnb:w.heap.size<=nb)
 (hown:w'.ownsMap prog 9 fu bm (fs.length+1) (D.put (.string y.name) (.lit (.int .i64 (nb:Nat)))))
 (hd:w'.heap[d]?=some (.cells #[.int .i64 room,.int .i64 (Dk.total (Dk.put y fs):Int),.map (some bm)] 129 (0,0))) (hF:eh nb y.bytes y.synced w')
 (hk:∀j,j<w.heap.size->j≠bm->j≠d->w'.heap[j]?=w.heap[j]?):bw w' d room (Dk.put y fs) (fun j=>ft j\/j=nb):=by
 have hlen:(Dk.put y fs).length=fs.length+1:=by rw[Dk.gE y fs h5,hl];rfl
 have htidy:=h2.tidy dP;have hmap:=h2.isMap;have hkl:WideAt.IsKeyLit (.string y.name):=trivial;have glt:∀k x,Dk.look fs k=some x->g k<w.heap.size:=fun k x hx=>(aA.1 (h10 k x hx).2.2.1).1;refine⟨bm,D.put (.string y.name) (.lit (.int .i64 (nb:Nat))),fun k=>if k=y.name then nb else g k,hd,by rw[hlen];exact hown,?_,by omega,Dk.sorted_put y fs h5,hr,.inl h7,.inl h8,?_,?_,?_⟩
 ·rw[Maps.size_put htidy,h9 _ hl,hlen,h3];simp
 ·intro k hk';by_cases e:k=y.name
  ·subst e;rw[Dk.a8]at hk';cases hk'
  ·rw[Dk.aG y e]at hk';rw[Maps.has_put_other (by simpa using e)];exact h9 k hk'
 ·intro k z hz;by_cases e:k=y.name
  ·subst e;rw[Dk.a8]at hz;cases hz;simp only[if_true];exact⟨Maps.has_put_same hmap hkl _,fun z=>Maps.atKey_put_same hmap hkl _ z,hF,.inr trivial,hy⟩
  ·rw[Dk.aG y e]at hz;obtain⟨a,b,c,f,q⟩:=h10 k z hz;simp only[if_neg e];refine⟨by rw[Maps.has_put_other (by simpa using e)];exact a,fun z=>by rw[Maps.atKey_put_other (by simpa using e)];exact b z,?_,.inl f,q⟩;have c1:g k≠bm:=by
    rintro e2;obtain⟨es,clock,hb,_⟩:=h2;rw[eh,e2,hb]at c;cases c
   have c2:g k≠d:=by
    rintro e2;rw[eh,e2,h1]at c;simp at c
   exact(hk _ (aA.1 c).1 c1 c2).trans c
 ·intro k k' z z' hz hz' hg;simp only at hg;by_cases e:k=y.name
  ·by_cases e':k'=y.name
   ·rw[e,e']
   ·rw[if_pos e,if_neg e']at hg;rw[Dk.aG y e']at hz';have:=glt k' z' hz';omega
  ·by_cases e':k'=y.name
   ·rw[if_neg e,if_pos e']at hg;rw[Dk.aG y e]at hz;have:=glt k z hz;omega
   ·rw[if_neg e,if_neg e']at hg;rw[Dk.aG y e]at hz;rw[Dk.aG y e']at hz';exact h11 _ _ _ _ hz hz' hg
def J6 (room:Int) (w:World) (e:Ending) (w':World):Prop :=
 (¬ (1 ≤ room ∧ room ≤ 1073741824) ∧ e = .returned (.tuple #[.pointer none, .int .i64 1]) ∧ w = w') ∨
     ((1 <= room /\ room <= 1073741824) /\ ∃ d, e = .returned (.tuple #[.pointer (some ⟨d, 0, none⟩), .int .i64 0]) /\ bw w' d room [] (fun j => w.heap.size <= j) /\ Below w.heap.size w w')
theorem Ca (room:Int) (w:World) :
 Calls prog 29 #[.int .i64 room] w (J6 room w):=by
 by_cases h1:room<1
 ·go_enter func29,ntmps29;go_wp2
  go_ret2
  exact .inl ⟨by omega,rfl,rfl⟩
 ·by_cases h2:1073741824<room
  ·go_enter func29,ntmps29;go_wp2
   go_ret2
   exact .inl ⟨by omega,rfl,rfl⟩
  ·have hmm:=@run_makeMap prog;go_enter func29,ntmps29;go_wp2
   go_ret2
   refine .inr ⟨by omega,w.heap.size+1,rfl,?_,?_⟩
   ·have hm:=World.ownsMap_made w prog 9 fu;have ha:=heap_alloc_new (w.alloc (.map #[] 0)) (.cells #[.int .i64 room,.int .i64 0,.map (some w.heap.size)] 129);rw[World.size_alloc]at ha;exact⟨w.heap.size,.map [],fun _=>0,ha,hm.alloc _,rfl,by simp,by simp[Dk.Sorted],⟨by omega,by omega,by simp[Dk.total];omega⟩,by simp,by simp,(fun k _=>rfl),(fun k x hx=>by cases hx),(fun k k' x x' hx=>by cases hx)⟩
   ·exact((ae _ _).alloc ab _).alloc (by simp) _
theorem tr {fs:List Dk.ai} {D:DataW Unit} {g:List UInt8->Nat} {k:List UInt8} {v:Value} {ps:List MemPlace} (hR:fu v=some (D.atKey (.string k) .nil,ps))
 (h9:∀k,Dk.look fs k=none->Maps.has D (.string k)=false)
 (h10:∀k x,Dk.look fs k=some x->∀z,D.atKey (.string k) z=.lit (.int .i64 (g k:Nat))) :
 (Dk.look fs k=none/\v=.pointer none)\/∃x,Dk.look fs k=some x/\v=.pointer (some ⟨g k,0,none⟩):=by
 cases hl:Dk.look fs k with
 |none =>
  rw[Maps.atKey_of_not_has (h9 _ hl)]at hR;exact .inl ⟨rfl,ta hR⟩
 |some x =>
  rw[h10 _ x hl .nil]at hR;exact .inr ⟨x,rfl,vx hR⟩
theorem Gu (s:ByteArray) (hs:s.size<=1000000000000) (w:World):(Op.stringOp .add ⟨#[]⟩ s).run prog w=.ok (.string s) w :=
 cK w ⟨#[]⟩ s s (by have:(⟨#[]⟩:ByteArray).size=0:=rfl;omega) (by simp)
set_option maxHeartbeats 2000000 in
set_option maxRecDepth 100000 in
theorem iD (d:Nat) (room:Int) (fs:List Dk.ai) (ft:Nat->Prop) (nm s:ByteArray) (w:World) (hE:Env w) (h:bw w d room fs ft) (hn:nm.size<=1000000000) (hs:s.size<=1000000000000) :
 Calls prog 93 #[.pointer (some ⟨d,0,none⟩),.string nm,.string s] w fun e w'=>e=.returned (.int .i64 ((Dk.append room nm.data.toList s fs).2:Nat))/\DStep d room (Dk.append room nm.data.toList s fs).1 ft w w':=by
 have hID:=ad h;obtain⟨bm,D,g,h1,h2,h3,h4,h5,h6,h7,h8,h9,h10,h11⟩:=h;obtain⟨v,ps,hrun,hR⟩:=mN h2 nm (by omega);have d2:w.cell? ⟨d,2,none⟩=some (.map (some bm)):=aq h1 rfl;have hlv:=tr hR h9 (fun k x hx=>(h10 k x hx).2.1);have HLV:=ad hlv;have H1:=ad h1;have H2:=ad h2;have H3:=ad h3;have H5:=ad h5;have H9:=ad h9;have H10:=ad h10;have H11:=ad h11;obtain⟨hr1,hr2,hr3⟩:=h6;clear hR hlv h1 h3 h5 h9 h10 h11;go_enter func93,ntmps93;go_wp2_with fail;refine(mL nm w hE (by omega)).mono ?_;rintro e w1 ⟨rfl,b1⟩;have HD:=ad (hID.out.next b1);have HS0:=ad (DStep.aI hID.out b1);clear hrun d2 h2;cases hnm:Txt.name nm.data.toList with
 |false =>
  have HQ:=ad (show Dk.append room nm.data.toList s fs=(fs,1)by rw[Dk.append,if_pos hnm]);clear hnm;go_wp2;go_ret;rw[HQ.out];exact⟨rfl,HS0.out⟩
 |true =>
  have HQ:=ad (show Dk.append room nm.data.toList s fs=if Dk.look fs nm.data.toList=none/\40<=fs.length then (fs,4) else if room-(Dk.total fs:Int)<(s.size:Int) then (fs,8) else
   (Dk.put (Dk.more nm.data.toList s (Dk.look fs nm.data.toList)) fs,0)by rw[Dk.append,if_neg (by rw[hnm];simp)])
  have h1:=au b1 ab H1.out;have d0:w1.cell? ⟨d,0,none⟩=some (.int .i64 room):=aq h1 rfl;have d1:w1.cell? ⟨d,1,none⟩=some (.int .i64 (Dk.total fs:Int)):=aq h1 rfl;have d2:w1.cell? ⟨d,2,none⟩=some (.map (some bm)):=aq h1 rfl;have df:=ay h1 1;have Q1:=ad h1;have q2:=ownsMap_at H2.out (b1.block bm H2.out.lt);have Q10:=ad (show ∀k x,Dk.look fs k=some x->Maps.has D (.string k)=true/\(∀z,D.atKey (.string k) z=.lit (.int .i64 (g k:Nat)))/\eh (g k) x.bytes x.synced w1/\ft (g k)/\x.synced<=x.bytes.size from fun k x hx=>by
   obtain⟨a,b,c,e,f⟩:=H10.out k x hx;exact⟨a,b,au b1 ab c,e,f⟩)
  have hwr:IntKind.i64.wrap (room-(Dk.total fs:Int))=room-(Dk.total fs:Int):=by rw[IntKind.wrap_i64];omega
  have hsz:(s.size:Int)<=1000000000000:=by omega
  clear hnm H1 H10 H2;rcases HLV.out with⟨hl,rfl⟩|⟨x,hl,rfl⟩
  ·have HL:=ad hl;have hlen:∀ty,(Builtin.len_ #[127] ty #[.map (some bm)]).run prog w1=.ok (.int .i64 (fs.length:Int)) w1:=fun ty=>by rw[<-H3.out];exact q2.len underlying127 ty
   have Q2:=ad q2;clear hl q2 HLV;by_cases h40:(40:Int)<=fs.length
   ·have HQ2:=ad (show Dk.append room nm.data.toList s fs=(fs,4)by rw[HQ.out,if_pos ⟨HL.out,by omega⟩]);go_wp2;go_ret;rw[HQ2.out];exact⟨rfl,HS0.out⟩
   ·by_cases hfull:room-(Dk.total fs:Int)<(s.size:Int)
    ·have HQ2:=ad (show Dk.append room nm.data.toList s fs=(fs,8)by rw[HQ.out,if_neg (by intro h;omega),if_pos hfull]);go_wp2;go_quiet (fail);go_wp2;go_ret;rw[HQ2.out];exact⟨rfl,DStep.aI hID.out (below_drewN b1 _)⟩
    ·have HQ2:=ad (show Dk.append room nm.data.toList s fs=(Dk.put ⟨nm.data.toList,s,0⟩ fs,0)by rw[HQ.out,if_neg (by intro h;omega),if_neg hfull,HL.out];rfl);go_wp2;go_quiet (fail);obtain⟨W,hW⟩:∃W,w1.drewN nq=W:=⟨_,rfl⟩;have hbW:Below w.heap.size w W:=by rw[<-hW];exact below_drewN b1 _
     have hHW:W.heap=w1.heap:=by rw[<-hW];rfl
     have r1:=(show W.heap[d]?=w1.heap[d]? by rw[hHW]).trans Q1.out;have r2:W.ownsMap prog 9 fu bm fs.length D:=ownsMap_at Q2.out (by rw[hHW]);have r10:∀k x,Dk.look fs k=some x->Maps.has D (.string k)=true/\(∀z,D.atKey (.string k) z=.lit (.int .i64 (g k:Nat)))/\eh (g k) x.bytes x.synced W/\ft (g k)/\x.synced<=x.bytes.size:=fun k x hx=>by
      obtain⟨a,b,c,e,f⟩:=Q10.out k x hx;exact⟨a,b,by rw[eh,hHW];exact c,e,f⟩
     rw[hW];have hdl:d<W.heap.size:=(aA.1 r1).1;have hbl:bm<W.heap.size:=r2.lt;have hbd:bm≠d:=by
      rintro e;obtain⟨es,clock,hb,_⟩:=r2;rw[e,r1]at hb;cases hb
     have hZd:(W.alloc (.cells #[.string ⟨#[]⟩,.int .i64 0] 251)).heap[d]?=_:=(Below.heap_alloc W _ d hdl).trans r1;have z2:(W.alloc (.cells #[.string ⟨#[]⟩,.int .i64 0] 251)).cell? ⟨d,2,none⟩=some (.map (some bm)):=aq hZd rfl;have hZn:(W.alloc (.cells #[.string ⟨#[]⟩,.int .i64 0] 251)).heap[W.heap.size]?=some (.cells #[.string ⟨#[]⟩,.int .i64 0] 251 (0,0)):=heap_alloc_new W _;have hown:=r2.alloc (.cells #[.string ⟨#[]⟩,.int .i64 0] 251);have HRR:=ad (aB r1 (aB r2 r10));have HZd:=ad hZd;have HZn:=ad hZn;have HW:=ad hW;have HHW:=ad hHW;clear hW hHW r1 r2 r10 hZd hZn d0 d1 d2 df h1 hlen;go_wp2_with (at_mapUpdate;refine wpList_mapUpdate_own _ rfl _ _ _ 127 rfl 9 249 dP underlying127 fu bm fs.length D rfl hown (by unfold maxLen;omega) _ _ (.string nm.data.toList) rfl rfl (WideMaps.keyOf_string_mk underlying9 (by unfold maxLen;omega)) (.lit (.int .i64 (W.heap.size:Nat))) [] rfl ?_);intro w2 hown2 hg2;have hsz2:=hg2.size;rw[World.size_alloc]at hsz2;have k1:=(hg2.block d (by simp;omega) (by simp;omega)).trans HZd.out;have k2:=(hg2.block W.heap.size (by simp) (by simp;omega)).trans HZn.out;have n0:w2.cell? ⟨W.heap.size,0,none⟩=some (.string ⟨#[]⟩):=aq k2 rfl;have nf:=ay k2 0;have hadd:=Gu s hs;have k3:=av (i:=0) k2 (.string s);have k4:=(Below.heap_setCell w2 ⟨W.heap.size,0,none⟩ (.string s) d (by simp;omega)).trans k1;have e1:(w2.setCell ⟨W.heap.size,0,none⟩ (.string s)).cell? ⟨d,1,none⟩=some (.int .i64 (Dk.total fs:Int)):=aq k4 rfl;have ef:=ay k4 1;have htot:(Dk.total (Dk.put ⟨nm.data.toList,s,0⟩ fs):Int)=(Dk.total fs:Int)+(s.size:Int):=by
      have:=Dk.kj ⟨nm.data.toList,s,0⟩ fs H5.out;simp only[HL.out]at this;omega
     have k5:=av (i:=1) k4 (.int .i64 ((Dk.total fs:Int)+(s.size:Int)));have k6:=(Below.heap_setCell (w2.setCell ⟨W.heap.size,0,none⟩ (.string s)) ⟨d,1,none⟩ (.int .i64 ((Dk.total fs:Int)+(s.size:Int))) W.heap.size (by simp;omega)).trans k3;have kb:=(Below.heap_setCell (w2.setCell ⟨W.heap.size,0,none⟩ (.string s)) ⟨d,1,none⟩ (.int .i64 ((Dk.total fs:Int)+(s.size:Int))) bm (by simp;omega)).trans (Below.heap_setCell w2 ⟨W.heap.size,0,none⟩ (.string s) bm (by simp;omega));have HF:=ad (bw.insert (w:=W) (w':=(w2.setCell ⟨W.heap.size,0,none⟩ (.string s)).setCell ⟨d,1,none⟩ (.int .i64 ((Dk.total fs:Int)+(s.size:Int)))) HRR.out.2.1 H3.out H5.out h7 h8 HRR.out.1 H9.out HRR.out.2.2 H11.out ⟨nm.data.toList,s,0⟩ HL.out (by omega) (by rw[htot];omega) (Nat.zero_le _) W.heap.size ab
      (ownsMap_at hown2 kb) (by rw[htot];exact k5) k6 (fun j hj h1 h2=>by
       rw[Below.heap_setCell _ _ _ j (by simpa using h2),Below.heap_setCell _ _ _ j (by simp;omega),hg2.block j (by simp;omega) (by simpa using h1),Below.heap_alloc _ _ _ hj]))
     have HT:=ad (((((ax.aI hbW:ax ft w W).trans (ax.aI ((ae _ W).alloc ab (.cells #[.string ⟨#[]⟩,.int .i64 0] 251)):ax ft W _) (fun j hj=>.inl hj)).trans (ax.cq hg2 h8) (fun j hj=>.inl hj)).trans (ax.cq (ft:=fun j=>j=W.heap.size) (az w2 W.heap.size 0 (.string s)) rfl) (fun j hj=>.inr (by have:=hbW.size;omega))).trans (ax.cq (ft:=ft) (az _ d 1 (.int .i64 ((Dk.total fs:Int)+(s.size:Int)))) h7) (fun j hj=>.inl hj));have hws:=hbW.size;clear k1 k2 k3 k4 k5 k6 kb hown2 hg2 HRR HZd HZn hown htot;go_wp2;go_ret;rw[HQ2.out];exact⟨rfl,_,HF.out,fun j hj=>hj.imp id (fun h=>by omega),HT.out⟩
  ·have HL:=ad hl;have hx:=Q10.out _ x hl;have hpt:=Dk.kj (Dk.more nm.data.toList s (some x)) fs H5.out;obtain⟨gb,hgb⟩:∃gb,g nm.data.toList=gb:=⟨_,rfl⟩;have HGB:=ad hgb;rw[hgb]at hx ⊢;have hne:d≠gb:=by
    rintro e;have:=hx.2.2.1;rw[eh,<-e,h1]at this;simp at this
   have f0:w1.cell? ⟨gb,0,none⟩=some (.string x.bytes):=aq hx.2.2.1 rfl;have ff:=ay hx.2.2.1 0;have hxs:=Dk.vD hl;have HX:=ad hx;have HPT:=ad hpt;have Q2:=ad q2;clear hgb hl q2 HLV hx hpt;by_cases hfull:room-(Dk.total fs:Int)<(s.size:Int)
   ·have HQ2:=ad (show Dk.append room nm.data.toList s fs=(fs,8)by rw[HQ.out,if_neg (by rw[HL.out];simp),if_pos hfull]);go_wp2;go_quiet (fail);go_wp2;go_ret;rw[HQ2.out];exact⟨rfl,DStep.aI hID.out (below_drewN b1 _)⟩
   ·have HQ2:=ad (show Dk.append room nm.data.toList s fs=(Dk.put (Dk.more nm.data.toList s (some x)) fs,0)by rw[HQ.out,if_neg (by rw[HL.out];simp),if_neg hfull,HL.out]);obtain⟨r,hr,hr2',hr3'⟩:=bf (x.bytes.data.toList++s.data.toList);rw[List.length_append,<-Lib.size_eq,<-Lib.size_eq]at hr3';have hrr:x.bytes++s=r:=by
     rw[<-hr];apply ByteArray.ext;rw[ByteArray.data_append];apply Array.toList_inj.1;simp
    have HM:=ad (show Dk.more nm.data.toList s (some x)=⟨nm.data.toList,r,x.synced⟩by rw[Dk.more,hrr]);have hadd:∀w,(Op.stringOp .add x.bytes s).run prog w=.ok (.string r) w:=fun w=>cK w x.bytes s r (by omega) hr2'.symm;have hrs:r.size=x.bytes.size+s.size:=hr3';have HRS:=ad hrs;clear hr hr2' hr3' hrr hrs;go_wp2;go_quiet (fail);obtain⟨W,hW⟩:∃W,w1.drewN nq=W:=⟨_,rfl⟩;have hbW:Below w.heap.size w W:=by rw[<-hW];exact below_drewN b1 _
    have hHW:W.heap=w1.heap:=by rw[<-hW];rfl
    have r1:=(show W.heap[d]?=w1.heap[d]? by rw[hHW]).trans Q1.out;have r2:W.ownsMap prog 9 fu bm fs.length D:=ownsMap_at Q2.out (by rw[hHW]);have r10:∀k x,Dk.look fs k=some x->Maps.has D (.string k)=true/\(∀z,D.atKey (.string k) z=.lit (.int .i64 (g k:Nat)))/\eh (g k) x.bytes x.synced W/\ft (g k)/\x.synced<=x.bytes.size:=fun k x hx=>by
     obtain⟨a,b,c,e,f⟩:=Q10.out k x hx;exact⟨a,b,by rw[eh,hHW];exact c,e,f⟩
    have hxW:=(show W.heap[gb]?=w1.heap[gb]? by rw[hHW]).trans HX.out.2.2.1;rw[hW];have f0:W.cell? ⟨gb,0,none⟩=some (.string x.bytes):=aq hxW rfl;have ff:=ay hxW 0;have k3:=av (i:=0) hxW (.string r);have k4:=(Below.heap_setCell W ⟨gb,0,none⟩ (.string r) d (by simpa using hne)).trans r1;have e1:(W.setCell ⟨gb,0,none⟩ (.string r)).cell? ⟨d,1,none⟩=some (.int .i64 (Dk.total fs:Int)):=aq k4 rfl;have ef:=ay k4 1;have htot:(Dk.total (Dk.put ⟨nm.data.toList,r,x.synced⟩ fs):Int)=(Dk.total fs:Int)+(s.size:Int):=by
     have:=HPT.out;rw[HM.out]at this;simp only[HL.out]at this;have h2:=HRS.out;omega
    have k5:=av (i:=1) k4 (.int .i64 ((Dk.total fs:Int)+(s.size:Int)));have k6:=(Below.heap_setCell (W.setCell ⟨gb,0,none⟩ (.string r)) ⟨d,1,none⟩ (.int .i64 ((Dk.total fs:Int)+(s.size:Int))) gb (by simpa using hne.symm)).trans k3;have HF:=ad (bw.write (w:=W) (w':=(W.setCell ⟨gb,0,none⟩ (.string r)).setCell ⟨d,1,none⟩ (.int .i64 ((Dk.total fs:Int)+(s.size:Int)))) r1 r2 H3.out h4 H5.out h7 h8 H9.out r10 H11.out ⟨nm.data.toList,r,x.synced⟩ HL.out (by rw[htot];omega)
     (by have h2:=HRS.out;have h3:=HX.out.2.2.2.2;simp only;omega) (by rw[htot];exact k5) (by rw[HGB.out];exact k6) (fun j hj h1 h2=>by
      rw[Below.heap_setCell _ _ _ j (by simpa using h2),Below.heap_setCell _ _ _ j (by rw[HGB.out]at h1;simpa using h1)]))
    have HT:=ad (((ax.aI hbW:ax ft w W).trans (ax.cq (ft:=ft) (az W gb 0 (.string r)) HX.out.2.2.2.1) (fun j hj=>.inl hj)).trans (ax.cq (ft:=ft) (az _ d 1 (.int .i64 ((Dk.total fs:Int)+(s.size:Int)))) h7) (fun j hj=>.inl hj));have HM2:=ad (HQ2.out.trans (by rw[HM.out]));clear hW hHW r1 r2 r10 hxW k3 k4 k5 k6 htot HPT HQ2 d0 d1 d2 df h1;have hgl:gb<W.heap.size:=World.block_lt_of_cell? _ _ f0;go_wp2;go_ret;rw[HM2.out];exact⟨rfl,ft,HF.out,fun j hj=>.inl hj,HT.out⟩
def CT (w:World) (d:Nat) (room:Int) (fs:List Dk.ai) (ft:Nat->Prop) (bm:Nat) (D:DataW Unit) (g:List UInt8->Nat):Prop :=
 w.heap[d]?=some (.cells #[.int .i64 room,.int .i64 (Dk.total fs:Int),.map (some bm)] 129 (0,0)) /\
 w.ownsMap prog 9 fu bm fs.length D/\Maps.size D=fs.length/\fs.length<=40/\Dk.Sorted fs/\(1<=room/\room<=1073741824/\(Dk.total fs:Int)<=room)/\ft d/\ft bm /\
 (∀k,Dk.look fs k=none->Maps.has D (.string k)=false) /\
 (∀k x,Dk.look fs k=some x->Maps.has D (.string k)=true/\(∀z,D.atKey (.string k) z=.lit (.int .i64 (g k:Nat)))/\eh (g k) x.bytes x.synced w/\ft (g k)/\x.synced<=x.bytes.size) /\
 (∀k k' x x',Dk.look fs k=some x->Dk.look fs k'=some x'->g k=g k'->k=k')
theorem bw.remove {w w':World} {d bm:Nat} {room:Int} {fs:List Dk.ai} {ft:Nat->Prop} {D:DataW Unit} {g:List UInt8->Nat}
 (h2:w.ownsMap prog 9 fu bm fs.length D) (h3:Maps.size D=fs.length) (h4:fs.length<=40) (h5:Dk.Sorted fs) (hr:1<=room/\room<=1073741824/\(Dk.total fs:Int)<=room) (h7:ft d) (h8:ft bm)
 (h1:w.heap[d]?=some (.cells #[.int .i64 room,.int .i64 (Dk.total fs:Int),.map (some bm)] 129 (0,0)))
 (h9:∀k,Dk.look fs k=none->Maps.has D (.string k)=false)
 (h10:∀k x,Dk.look fs k=some x->Maps.has D (.string k)=true/\(∀z,D.atKey (.string k) z=.lit (.int .i64 (g k:Nat)))/\eh (g k) x.bytes x.synced w/\ft (g k)/\x.synced<=x.bytes.size)
 (h11:∀k k' x x',Dk.look fs k=some x->Dk.look fs k'=some x'->g k=g k'->k=k')
 (k0:List UInt8) {x:Dk.ai} (hl:Dk.look fs k0=some x) {n:Nat}
 (hown:w'.ownsMap prog 9 fu bm n (D.del (.string k0)))
 (hd:w'.heap[d]?=some (.cells #[.int .i64 room,.int .i64 (Dk.total (Dk.del k0 fs):Int),.map (some bm)] 129 (0,0)))
 (hk:∀j,j<w.heap.size->j≠bm->j≠d->w'.heap[j]?=w.heap[j]?):CT w' d room (Dk.del k0 fs) ft bm (D.del (.string k0)) g:=by
 have hlen:=Dk.rY k0 fs;rw[hl]at hlen;simp only[Option.isSome_some,if_true]at hlen;have htidy:=h2.tidy dP;have hsz:=Maps.size_del (k:=.string k0) htidy;rw[(h10 _ x hl).1,h3]at hsz;simp only[if_true]at hsz;have htot:=Dk.lP k0 fs;have hown':w'.ownsMap prog 9 fu bm (Dk.del k0 fs).length (D.del (.string k0)):=by
  obtain⟨es,clock,hb,F,hs,hD⟩:=hown;refine⟨es,clock,hb,F,?_,hD⟩;have:Maps.size (D.del (.string k0))=es.size:=by rw[hD,Maps.size_eq];exact length_read es
  omega
 refine⟨hd,hown',by omega,by omega,Dk.sorted_del k0 fs h5,⟨hr.1,hr.2.1,by omega⟩,h7,h8,?_,?_,?_⟩
 ·intro k hk';by_cases e:k=k0
  ·subst e;exact Maps.has_del_same
  ·rw[Dk.cP k0 e]at hk';rw[Maps.has_del_other (by simpa using e)];exact h9 k hk'
 ·intro k z hz;by_cases e:k=k0
  ·subst e;rw[Dk.eT k fs h5]at hz;cases hz
  ·rw[Dk.cP k0 e]at hz;obtain⟨a,b,c,f,q⟩:=h10 k z hz;refine⟨by rw[Maps.has_del_other (by simpa using e)];exact a,fun z=>by rw[Maps.atKey_del_other (by simpa using e)];exact b z,?_,f,q⟩;have c1:g k≠bm:=by
    rintro e2;obtain⟨es,clock,hb,_⟩:=h2;rw[eh,e2,hb]at c;cases c
   have c2:g k≠d:=by
    rintro e2;rw[eh,e2,h1]at c;simp at c
   exact(hk _ (aA.1 c).1 c1 c2).trans c
 ·intro k k' z z' hz hz' hg;have q:∀k z,Dk.look (Dk.del k0 fs) k=some z->∃u,Dk.look fs k=some u:=fun k z hz=>by
   by_cases e:k=k0
   ·subst e;rw[Dk.eT k fs h5]at hz;cases hz
   ·rw[Dk.cP k0 e]at hz;exact⟨z,hz⟩
  obtain⟨u,hu⟩:=q k z hz;obtain⟨u',hu'⟩:=q k' z' hz';exact h11 _ _ _ _ hu hu' hg
set_option maxHeartbeats 2000000 in
set_option maxRecDepth 100000 in
theorem oD (d:Nat) (room:Int) (fs:List Dk.ai) (ft:Nat->Prop) (bm:Nat) (D:DataW Unit) (g:List UInt8->Nat) (nm:ByteArray) (w:World) (h:CT w d room fs ft bm D g) (hn:nm.size<=1000000000) :
 Calls prog 92 #[.pointer (some ⟨d,0,none⟩),.string nm] w fun e w'=>e=.returned (.int .i64 ((Dk.delete nm.data.toList fs).2:Nat))/\(∃D',CT w' d room (Dk.delete nm.data.toList fs).1 ft bm D' g)/\ax ft w w':=by
 have hID:=ad h;obtain⟨h1,h2,h3,h4,h5,h6,h7,h8,h9,h10,h11⟩:=h;obtain⟨v,ps,hrun,hR⟩:=mN h2 nm (by omega);have d1:w.cell? ⟨d,1,none⟩=some (.int .i64 (Dk.total fs:Int)):=aq h1 rfl;have d2:w.cell? ⟨d,2,none⟩=some (.map (some bm)):=aq h1 rfl;have df:=ay h1 1;have hlv:=tr hR h9 (fun k x hx=>(h10 k x hx).2.1);obtain⟨hr1,hr2,hr3⟩:=h6;rcases hlv with⟨hl,rfl⟩|⟨x,hl,rfl⟩
 ·have HQ:=ad (show Dk.delete nm.data.toList fs=(fs,6)by rw[Dk.delete,hl]);clear hR hl h9 h10 h2 h1 h3 h4 h5 h7 h8 h11;go_enter func92,ntmps92;go_wp2;go_ret;rw[HQ.out];exact⟨rfl,⟨D,hID.out⟩,ax.refl _ _⟩
 ·have hx:=h10 _ x hl;have HQ:=ad (show Dk.delete nm.data.toList fs=(Dk.del nm.data.toList fs,0)by rw[Dk.delete,hl]);have f0:w.cell? ⟨g nm.data.toList,0,none⟩=some (.string x.bytes):=aq hx.2.2.1 rfl;have hxs:=Dk.vD hl;have htot:(Dk.total (Dk.del nm.data.toList fs):Int)=(Dk.total fs:Int)-(x.bytes.size:Int):=by
   have:=Dk.lP nm.data.toList fs;simp only[hl]at this;omega
  have hwr:IntKind.i64.wrap ((Dk.total fs:Int)-(x.bytes.size:Int))=(Dk.total fs:Int)-(x.bytes.size:Int):=by rw[IntKind.wrap_i64];omega
  obtain⟨gb,hgb⟩:∃gb,g nm.data.toList=gb:=⟨_,rfl⟩;rw[hgb]at hrun f0;have H1:=ad h1;have H2:=ad h2;have H3:=ad h3;have H5:=ad h5;have H9:=ad h9;have H10:=ad h10;have H11:=ad h11;have HL:=ad hl;have HT:=ad htot;clear hR hl h9 h10 h2 h1 h3 h5 h11 hx hgb htot;go_enter func92,ntmps92;go_wp2
  go_region
  have k1:=av (i:=1) H1.out (.int .i64 ((Dk.total fs:Int)-(x.bytes.size:Int)));have hbd:bm≠d:=by
   rintro e;obtain⟨es,clock,hb,_⟩:=H2.out;rw[e,H1.out]at hb;cases hb
  have k2:=ownsMap_at H2.out (Below.heap_setCell w ⟨d,1,none⟩ (.int .i64 ((Dk.total fs:Int)-(x.bytes.size:Int))) bm (by simpa using hbd));obtain⟨W,hW⟩:∃W,(w.setCell ⟨d,1,none⟩ (.int .i64 ((Dk.total fs:Int)-(x.bytes.size:Int)))).drew=W:=⟨_,rfl⟩;have hH:W.heap=(w.setCell ⟨d,1,none⟩ (.int .i64 ((Dk.total fs:Int)-(x.bytes.size:Int)))).heap:=by rw[<-hW];rfl
  have m1:=(show W.heap[d]?=(w.setCell ⟨d,1,none⟩ (.int .i64 ((Dk.total fs:Int)-(x.bytes.size:Int)))).heap[d]? by rw[hH]).trans k1;have m2:=ownsMap_at k2 (w':=W) (by rw[hH]);have g1:w.grownBy W (some d):=by rw[<-hW];exact uL (az _ _ _ _)
  rw[hW];have dd2:W.cell? ⟨d,2,none⟩=some (.map (some bm)):=aq m1 rfl;have M1:=ad m1;clear hW hH k1 k2 m1 d1 d2 df f0 hrun;go_wp2_with (at_delete;refine wpList_delete_own _ rfl _ _ 127 9 rfl 249 dP underlying127 fu bm fs.length D rfl m2 (.string nm) (.string nm.data.toList) rfl (WideMaps.keyOf_string_mk underlying9 (by unfold maxLen;omega)) ?_);intro w2 hown2 ht2;have g2:=ht2.grown;have HF:=ad (bw.remove (w':=w2) H2.out H3.out h4 H5.out ⟨hr1,hr2,hr3⟩ h7 h8 H1.out H9.out H10.out H11.out nm.data.toList HL.out hown2
   (by rw[HT.out];exact(g2.block d (by have:=g1.size;have:=(aA.1 H1.out).1;omega) (by simpa using hbd.symm)).trans M1.out)
   (fun j hj h1 h2=>by rw[g2.block j (by have:=g1.size;omega) (by simpa using h1),g1.block j hj (by simpa using h2)]))
  have HTN:=ad ((ax.cq (ft:=ft) g1 h7).trans (ax.cq (ft:=ft) g2 h8) (fun j hj=>.inl hj));clear hown2 ht2 g2 g1 m2;go_wp2;go_ret;rw[HQ.out];exact⟨rfl,⟨_,HF.out⟩,HTN.out⟩
theorem dO (d:Nat) (room:Int) (fs:List Dk.ai) (ft:Nat->Prop) (nm:ByteArray) (w:World) (h:bw w d room fs ft) (hn:nm.size<=1000000000) :
 Calls prog 92 #[.pointer (some ⟨d,0,none⟩),.string nm] w fun e w'=>e=.returned (.int .i64 ((Dk.delete nm.data.toList fs).2:Nat))/\DStep d room (Dk.delete nm.data.toList fs).1 ft w w':=by
 obtain⟨bm,D,g,h⟩:=h;refine(oD d room fs ft bm D g nm w h hn).mono ?_;rintro e w' ⟨rfl,⟨D',h'⟩,ht⟩;exact⟨rfl,ft,⟨bm,D',g,h'⟩,fun j hj=>.inl hj,ht⟩
end Go.Proofs.YtmgmknmaepjnoaaGreatDoor
