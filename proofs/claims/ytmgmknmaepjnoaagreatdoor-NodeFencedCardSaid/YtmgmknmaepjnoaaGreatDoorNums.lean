/-
  The frame of a text law: what the listed variables give a walk; a world that lays them.
-/
import Derived.Test.YtmgmknmaepjnoaaGreatDoorPln
import Derived.Test.YtmgmknmaepjnoaaGreatDoorRows
import Derived.Lib.LaidIn
import Derived.Lib.LaidU8
import Derived.Stop.LaidErr
import Derived.Deep.DeepHandedRow
import Derived.Deep.DeepWitnessRowRef
import Derived.ProofKit
import Derived.SizedLaws
import Derived.Lib.LaidTab
import Derived.IntWalk
import Derived.Laws.BitsLemmas
import Derived.Lib.ConvBytes
import Derived.BigQuiet
namespace Go.Proofs.YtmgmknmaepjnoaaGreatDoor
open Go.RowKit Go.Shelf Proofs.Tryz
theorem own:ownKnob prog.godebug=none:=by kernel_rfl
def vF:List (String×DataW Unit):=Rows.nodeLeasesRow.laid
theorem Cf:Rows.laid_unicode_utf8_acceptRanges (H:=Unit)=Lib.acceptData:=by kernel_rfl
theorem Eh:Rows.laid_unicode_utf8_first=Lib.firstData:=by kernel_rfl
def Ge:DataW Unit->String
 |.iface n _=>n
 |_=> ""
theorem Cr (u:TypeId) (h:prog.typeName? 3 u=some (Ge Rows.laid_strconv_ErrRange)):u=428 :=
 typeName_ptr_named (nm:= "errors.errorString") (by kernel_rfl) (by kernel_rfl) (by decide) u (h.trans (by kernel_rfl))
theorem xx:prog.cellsOf 430=1:=by kernel_rfl
theorem xw:prog.cellsOf 9=1:=by kernel_rfl
theorem Gi:prog.globalNamed "strconv.ErrRange" = some 3:=by kernel_rfl
theorem CG:prog.globalNamed "strconv.ErrSyntax" = some 2:=by kernel_rfl
theorem JN:(prog.globals[3]?).map (·.type)=some 171:=by kernel_rfl
theorem Iu:(prog.globals[2]?).map (·.type)=some 171:=by kernel_rfl
theorem Hj:Rows.laid_internal_strconv_uint64pow10 (H:=Unit)=Lib.tabData .u64 Lib.pow10Tab:=by kernel_rfl
theorem KH:prog.globalNamed (Rows.nodeLeasesRow.laid.map (·.1))[2]! = some 4:=by kernel_rfl
theorem Lk:(prog.globals[4]?).map (·.type)=some 437:=by kernel_rfl
theorem AB {nm:String} {w:World} (hg:prog.globalNamed nm=some 4) (h:Lib.TabIs prog w nm .u64 Lib.pow10Tab):∃t fr,w.heap[4]?=some (.cells (Lib.pow10Tab.map fun z=>Value.int .u64 z).toArray t fr):=by
 unfold Lib.TabIs World.var? at h;rw[hg]at h;simp only[Option.bind_some]at h;split at h
 ·rename_i cs t fr hb;injection h with h
  subst h;exact⟨t,fr,hb⟩
 ·cases h
theorem AX {W:World} {rest:List (String×DataW Unit)} (h:laidMet prog (((Rows.nodeLeasesRow.laid.map (·.1))[2]!,Rows.laid_internal_strconv_uint64pow10)::rest) W):Lib.TabIs prog W (Rows.nodeLeasesRow.laid.map (·.1))[2]! .u64 Lib.pow10Tab:=by
 rw[Hj]at h;exact Lib.tabIs_of_head KH Lk underlying437 underlying380 (by kernel_rfl) (by kernel_rfl) h
theorem B0 {W:World} (h:laidMet prog vF W):Env W:=by
 have h3:=Lib.laidMet.reads h (show _∈Rows.nodeLeasesRow.laid from .tail _ (.tail _ (.tail _ (.tail _ (.tail _ (.tail _ (.head _)))))));have h4:=Lib.laidMet.reads h (show _∈Rows.nodeLeasesRow.laid from .tail _ (.tail _ (.tail _ (.head _))));rw[Eh]at h3;rw[Cf]at h4;have hp:=h.tail.tail;have hpow:=AB KH (AX hp);have h5:=h.tail.tail.tail.tail;have h6:=h5.tail;obtain⟨a0,sa,hva,_,_,_⟩:=laid_sentinel h5 Gi JN underlying171 Cr underlying428 underlying430 rfl rfl underlying9 xx xw;obtain⟨b0,sb,hvb,_,_,_⟩:=laid_sentinel h6 CG Iu underlying171 Cr underlying428 underlying430 rfl rfl underlying9 xx xw;exact⟨utf8Tabs_of_reads Tryz.Jv ⟨by kernel_rfl,by kernel_rfl,by kernel_rfl,by kernel_rfl,by kernel_rfl,by kernel_rfl,by kernel_rfl⟩ h3 h4,
  ⟨_,_,by simpa using World.var?_cell CG hvb 0⟩,⟨_,_,by simpa using World.var?_cell Gi hva 0⟩,hpow⟩
noncomputable def low:Nat:=(World.holding prog default ⟨#[],#[],[]⟩).heap.size
def Ku:DataW Unit->Value
 |.lit (.int k n)=>.int k n
 |_=>.bool false
def vE:DataW Unit->Array Value
 |.agg l=>(l.map Ku).toArray
 |_=>#[]
def CK:DataW Unit->Value
 |.iface _ (.ptr (.agg [.lit (.string l)]))=>.string ⟨l.toArray⟩
 |_=>.bool false
noncomputable def nE (os:Os):World :=
 let w0:=World.holding prog os ⟨#[.cells #[CK Rows.laid_strconv_ErrRange] 430,.cells #[CK Rows.laid_strconv_ErrSyntax] 430],#[],[]⟩
 let put (h:Array Obj) (g:Nat) (cs:Array Value):Array Obj:=h.modify g fun
  |.cells _ t frozen=>.cells cs t frozen
  |o=>o
 let h1:=put w0.heap 0 (Lib.firstTab.map fun z=>Value.int .u8 z).toArray
 let h2:=put h1 1 ((List.range 16).flatMap fun i=>[Value.int .u8 (Lib.accLo i),Value.int .u8 (Lib.accHi i)]).toArray
 let h3:=put h2 5 (vE Rows.laid_math_bits_deBruijn32tab)
 let h4:=put h3 6 (vE Rows.laid_math_bits_deBruijn64tab)
 let h5:=put h4 4 (vE Rows.laid_internal_strconv_uint64pow10)
 let h6:=put h5 3 #[.iface 428 (.pointer (some ⟨low,0,none⟩))]
 let h7:=put h6 2 #[.iface 428 (.pointer (some ⟨low+1,0,none⟩))]
 {w0 with heap:=h7}
theorem Ih (os:Os) (args:Array Value):laidMet prog vF ((nE os).forCall (fun _ _=>0) ⟨#[],args,[]⟩).memory :=
 (LaidIn.of_run (l:=vF) [5,6,4,1,3,low,2,low+1,0] 8 (by kernel_rfl) (by kernel_rfl) (by kernel_rfl) (by kernel_rfl)).met
theorem dR {a b:Bool} (h:a=b):Ending.returned (.bool a)=.returned (.bool b):=by rw[h]
theorem vg {a b:Bool} (h:a=true↔b=true):a=b:=by cases a <;> cases b <;> simp_all
set_option maxHeartbeats 1000000 in
theorem wV (r:Int) (w:World) (b:Bool) (hb:Txt.named r=b):Calls prog 183 #[.int .i32 r] w fun e w'=>e=.returned (.bool b)/\w=w':=by
 subst hb;go_enter func183,ntmps183;go_wp2
 all_goals (go_ret;refine⟨dR ?_,rfl⟩;first|rfl|(refine vg ?_;simp only[Txt.named,Bool.or_eq_true,decide_eq_true_eq,beq_iff_eq,true_iff];omega))
def mU (ts:List (Int×List UInt8)):Bool:=ts.all fun t=>Txt.named t.1
def gn (m:Nat) (ts:List (Int×List UInt8)):Bool:=decide (1<=m+ts.length)&&decide (m+ts.length<=32)&&mU ts
theorem yf (m:Nat) (t:Int×List UInt8) (ts:List (Int×List UInt8)) (h:32<=m):gn m (t::ts)=false:=by
 simp[gn];omega
theorem mM (m:Nat) (t:Int×List UInt8) (ts:List (Int×List UInt8)) (h:Txt.named t.1=false):gn m (t::ts)=false:=by
 simp[gn,mU,h]
theorem ye (m:Nat) (t:Int×List UInt8) (ts:List (Int×List UInt8)) (h:Txt.named t.1=true):gn m (t::ts)=gn (m+1) ts:=by
 have e:m+(t::ts).length=m+1+ts.length:=by simp only[List.length_cons];omega
 simp only[gn,mU,List.all_cons,h,Bool.true_and,e]
set_option maxHeartbeats 1000000 in
set_option maxRecDepth 100000 in
theorem mL (s:ByteArray) (w:World) (hE:Env w) (hs:s.size<=1000000000000) :
 Calls prog 130 #[.string s] w fun e w'=>e=.returned (.bool (Txt.name s.data.toList))/\Below w.heap.size w w':=by
 have hN:Txt.name s.data.toList=gn 0 (Txt.iw (s.data.toList.drop 0)):=by simp[Txt.name,gn,mU]
 have HN:=ad hN;clear hN;go_enter func130,ntmps130;go_wp2
 go_loopw [3] (fun v wr=>∃(pos m:Nat),v=.int .i64 m/\m<=32/\wr.heap[w.heap.size]?=some (.stringIter s pos)/\Below w.heap.size w wr/\Txt.name s.data.toList=gn m (Txt.iw (s.data.toList.drop pos))/\Env wr) (fun _ wr=>s.size-wr.iterPos w.heap.size)
 case atStart =>
  have hit:=World.iter_heap w s 0;exact⟨0,0,rfl,by omega,by simpa using hit,(ae _ _).alloc ab _,HN.out,hE.next ((ae _ _).alloc ab _)⟩
 case round =>
  obtain⟨pos,m,rfl,hm,hit,hbw,hnm,hEr⟩:=hrel;have HA:=ad hnm;clear hnm HN;have hsz:w.heap.size<wr.heap.size:=(aA.1 hit).1;by_cases hp:pos<s.size
  ·obtain⟨r,n,k,hd,htk,hn1,hn2,hsh,hrk⟩:=Hr s pos hp;have hnx:∀ty,(Instr.next (.pointer (some ⟨w.heap.size,0,none⟩)) true ty).run prog wr=_:=fun ty=>Lib.run_next_any_at wr w.heap.size s pos ty hit hp;rw[hd]at hnx;simp only at hnx;have hit2:=Lib.iterAt_heap wr w.heap.size s pos (pos+n) hit;have hbw2:=Lib.below_iterAt hbw (k:=w.heap.size) (by omega) s (pos+n);have hE2:=hEr.iterAt hit (pos+n);have hsz2:w.heap.size<(wr.iterAt w.heap.size s (pos+n)).heap.size:=by rw[Lib.iterAt_size];omega
   have HD:=ad hd;have HT:=ad htk;have HH:=ad hrk;clear hd htk hrk hsh;by_cases h32:m=32
   ·subst h32;go_wp2;go_ret;exact⟨dR (by rw[HA.out,HT.out,yf _ _ _ (by omega)]),hbw2⟩
   ·by_cases hnk:Txt.named (k:Int)=true
    ·have HNK:=ad hnk;clear hnk;go_wp2_with fail;refine(wV _ _ true HNK.out).mono ?_;rintro e W0 ⟨rfl,rfl⟩;by_cases hbad:r = -1
     ·obtain⟨rfl,rfl⟩:k=65533/\n=1:=by have:=HH.out;omega
      go_wp2_with fail;refine(wE s pos 65533 1 _ hE2 hs hp HD.out true (by rfl)).mono ?_;rintro e W1 ⟨rfl,b1⟩;go_wp2;go_ret;exact⟨dR (by rw[HA.out,HT.out,mM _ _ _ (by rw[hbad];rfl)]),Below.up hbw2 (by omega) b1⟩
     ·have HW:=ad (show ¬(k=65533/\n=1)by have:=HH.out;omega);have hrk:r=k:=by have:=HH.out;omega
      clear HH hbad;subst hrk;go_wp2_with fail;refine(wE s pos k n _ hE2 hs hp HD.out false (by have:=HW.out;simp <;> omega)).mono ?_;rintro e W1 ⟨rfl,b1⟩;have hit3:=au b1 ab hit2;have hbw3:=Below.up hbw2 (by omega) b1;have hE3:=hE2.next b1;have QF:=ad (show Txt.name s.data.toList=gn (m+1) (Txt.iw (s.data.toList.drop (pos+n)))by rw[HA.out,HT.out,ye _ _ _ HNK.out]);clear b1;go_wp2
      go_roundw
      case rel=>exact⟨pos+n,m+1,by go_num,by omega,hit3,hbw3,QF.out,hE3⟩
      case measure=>simp only[World.iterPos,hit3,hit];omega
    ·have HNK:=ad (show Txt.named (k:Int)=false by simpa using hnk);clear hnk;go_wp2_with fail;refine(wV _ _ false HNK.out).mono ?_;rintro e W0 ⟨rfl,rfl⟩;go_wp2;go_ret;refine⟨dR ?_,hbw2⟩;rw[HA.out,HT.out];rcases HH.out with⟨h1,h2,_⟩|⟨_,h2,_⟩
     ·rw[mM _ _ _ (by rw[h1];rfl)]
     ·rw[mM _ _ _ (by rw[h2];exact HNK.out)]
  ·have hnx:∀ty,(Instr.next (.pointer (some ⟨w.heap.size,0,none⟩)) true ty).run prog wr=_:=fun ty=>Lib.run_next_end_at wr w.heap.size s pos ty hit hp;go_wp2;go_ret;have hq:=HA.out;rw[List.drop_eq_nil_of_le (by rw[<-Lib.size_eq];omega),Txt.jh]at hq;refine⟨dR (vg ?_),hbw⟩;rw[hq];simp[gn,mU];omega
theorem iZ {a b:Int} (h:a=b):Ending.returned (.int .i64 a)=.returned (.int .i64 b):=by rw[h]
theorem Ah (x least most:Int) (w:World) (r:Int) (hr:r=max least (min x most)):Calls prog 136 #[.int .i64 x,.int .i64 least,.int .i64 most] w fun e w'=>e=.returned (.int .i64 r)/\w=w':=by
 go_enter func136,ntmps136;go_wp2
 all_goals (go_ret;refine⟨iZ ?_,rfl⟩;omega)
theorem JL (n:Int):((Num.held n:Nat):Int)=max 0 (min n 1099511627776):=by unfold Num.held;split <;> (try split) <;> omega
theorem Bm (n:Int) (w:World):Calls prog 136 #[.int .i64 n,.int .i64 0,.int .i64 1099511627776] w fun e w'=>e=.returned (.int .i64 (Num.held n:Nat))/\w=w' :=
 Ah n 0 1099511627776 w _ (JL n)
theorem Ea (n:Int):Num.gZ n=max (-549755813888) (min n 549755813888):=by unfold Num.gZ;split <;> (try split) <;> omega
theorem BS (n:Int) (w:World):Calls prog 136 #[.int .i64 n,.int .i64 (-549755813888),.int .i64 549755813888] w fun e w'=>e=.returned (.int .i64 (Num.gZ n))/\w=w' :=
 Ah n _ _ w _ (Ea n)
theorem below_drewN {B:Nat} {a w:World} (h:Below B a w) (n:Nat):Below B a (w.drewN n):=⟨h.os,h.tape,h.output,h.size,h.block⟩
theorem cK (w:World) (a b:ByteArray) (c:ByteArray) (h:a.size+b.size<=1000000000000000) (hc:a.data.toList++b.data.toList=c.data.toList):(Op.stringOp .add a b).run prog w=.ok (.string c) w:=by
 rw[run_string_add_sum w a b (by omega)];have e:a++b=c:=by
  apply ByteArray.ext;rw[ByteArray.data_append];exact Array.toList_inj.1 (by rw[Array.toList_append];exact hc)
 rw[e]
theorem bf (l:List UInt8):∃r:ByteArray,(⟨l.toArray⟩:ByteArray)=r/\r.data.toList=l/\r.size=l.length:=⟨_,rfl,rfl,by rw[Lib.size_eq]⟩
structure fh (P:Program) (t e:TypeId) (sz:Nat):Prop where
 und:P.underlying t=some (.slice e)
 info:∃i z bytes,P.info? e=some i/\i.zero=some z/\i.size=sz/\i.bytes=bytes/\z.cells.size=sz/\bytes<=128
 pos:0<sz
theorem lQ (w:World) (cs:List Value) (e:TypeId):∀(j:Nat) (u:Value),cs[j]?=some u->(w.alloc (.cells cs.toArray e)).cell? ((⟨w.heap.size,0,none⟩:Addr).add j)=some u:=by
 intro j u hj;rw[show((⟨w.heap.size,0,none⟩:Addr).add j)=⟨w.heap.size,j,none⟩by unfold Addr.add;split <;> simp_all];have hb:(w.alloc (.cells cs.toArray e)).heap[w.heap.size]?=some (.cells cs.toArray e (0,0)):=heap_alloc_new w _;rw[aw hb];simpa using hj
theorem oA {w w':World} {o:Obj} {r:Option Nat} (h:(w.alloc o).grownBy w' r):w.grownBy w' r :=
 ⟨h.os,h.tape,h.output,by have:=h.size;simp at this;omega,fun k hk hr=>by rw[h.block k (by simp;omega) hr,Below.heap_alloc _ _ _ hk]⟩
theorem ir {P:Program} {ops:Array Oper} {rest:List Oper} {o:Oper} {a:Act} {Q:Exit->Act->World->Prop} (hgd:o.guard=none) (s x:Operand) (t:TypeId)
 (ho:o.op=.call {callee:=.builtin .append,args:=#[s,x],argTypes:=#[t,t]}) {e:TypeId} {sz:Nat} (E:fh P t e sz) {B:Nat} {a0 w0:World} {v:Value} {n:Nat} {xs:List Value} (hs:a.eval s=v)
 (hown:w0.ownsRow B e sz v n xs) (hb:Below B a0 w0) (hB:B<=w0.heap.size) (cs:List Value) (ne:TypeId) (hx:a.eval x=.slice (some ⟨w0.heap.size,0,none⟩) 1 1) (hcs:cs.length=sz) (h1:∀u∈cs,u.oneCell'=true) (hn:n<=1000000000)
 (h:∀v' w',w'.ownsRow B e sz v' (n+1) (xs++cs)->w0.grownBy w' v.ownBlock->Below B a0 w'->w0.heap.size<w'.heap.size->wpList P ops Q rest (a.put o.dst v') w'):wpList P ops Q (o::rest) a (w0.alloc (.cells cs.toArray ne)):=by
 obtain⟨i,z,bytes,h2,h3,h4,h5,h6,h7⟩:=E.info;refine wpList_append_own _ hgd s x t ho B e i z sz bytes E.und h2 h3 h4 h5 h6 E.pos v n xs hs (hown.alloc _) ⟨w0.heap.size,0,none⟩ 1 1 cs hx (by omega) (lQ w0 cs ne) h1 (by unfold maxLen;omega) ?_ (by simp;omega) ?_
 ·have:(n+1)*bytes<=(n+1)*128:=Nat.mul_le_mul_left _ h7;omega
 ·intro v' w' hown' hgrow _;exact h v' w' hown' (oA hgrow) ((hb.alloc hB _).grown hgrow (by simp;omega) (fun k hk=>(hown.lt k hk).1)) (by have:=hgrow.size;simp at this;omega)
theorem qb {P:Program} {ops:Array Oper} {rest:List Oper} {o:Oper} {a:Act} {Q:Exit->Act->World->Prop} (hgd:o.guard=none) (s x:Operand) (t:TypeId)
 (ho:o.op=.call {callee:=.builtin .append,args:=#[s,x],argTypes:=#[t,t]}) {e:TypeId} {sz:Nat} (E:fh P t e sz) {B:Nat} {a0 w0:World} {v:Value} {n:Nat} {xs:List Value} (hs:a.eval s=v)
 (hown:w0.ownsRow B e sz v n xs) (hb:Below B a0 w0) (hB:B<=w0.heap.size) (cs:List Value) (ne:TypeId) {g:Nat} (hx:a.eval x=.slice (some ⟨g,0,none⟩) 1 1) (hg:g=w0.heap.size) (hcs:cs.length=sz) (h1:∀u∈cs,u.oneCell'=true) (hn:n<=1000000000)
 (h:∀v' w',w'.ownsRow B e sz v' (n+1) (xs++cs)->w0.grownBy w' v.ownBlock->Below B a0 w'->w0.heap.size<w'.heap.size->wpList P ops Q rest (a.put o.dst v') w'):wpList P ops Q (o::rest) a (w0.alloc (.cells cs.toArray ne)):=by
 subst hg;exact ir hgd s x t ho E hs hown hb hB cs ne hx hcs h1 hn h
theorem I7:fh prog 167 5 1:=by
 obtain⟨i0,hi,hz0,hz1,hz2⟩:=info_parts rE;exact⟨underlying167,⟨i0,_,1,hi,hz0,hz1,hz2,rfl,by omega⟩,by omega⟩
theorem oF (l:List UInt8) (c:UInt8) (n:Int) (h:(c.toNat:Int)=n):Lib.byteCells l++[.int .u8 n]=Lib.byteCells (l++[c]):=by subst h;simp[Lib.byteCells]
theorem wG (n:Int) (h₀:0<=n) (h₁:n<2 ^ 62):IntKind.i64.wrap n=n:=by rw[IntKind.wrap_i64];omega
theorem p9 (n:Int) (h₀:0<=n) (h₁:n<2 ^ 32):IntKind.u32.wrap n=n:=by rw[IntKind.wrap_u32];omega
theorem Ch (k:IntKind) (j:Nat) (hj:j<=k.bits) (hk:∀n:Int,0<=n->n<2 ^ j->k.wrap n=n) (a b:Nat) (ha:a<2 ^ j) (hb:b<2 ^ j):bits .xor k a b=((a ^^^ b:Nat):Int):=by
 have hp:2 ^ j<=2 ^ k.bits:=Nat.pow_le_pow_right (by decide) hj;have ha':a % 2 ^ k.bits=a:=Nat.mod_eq_of_lt (Nat.lt_of_lt_of_le ha hp);have hb':b % 2 ^ k.bits=b:=Nat.mod_eq_of_lt (Nat.lt_of_lt_of_le hb hp);have cast:∀n:Nat,n<2 ^ j->((n:Nat):Int)<2 ^ j:=fun n h=>by exact_mod_cast h
 simp only[bits,BitVec.ofInt_natCast,BitVec.toNat_xor,BitVec.toNat_ofNat,ha',hb'];exact hk _ (Int.natCast_nonneg _) (cast _ (Nat.xor_lt_two_pow ha hb))
theorem yq (a b:Nat) (ha:a<4294967296) (hb:b<4294967296):bits .xor .u32 a b=((a ^^^ b:Nat):Int):=Ch .u32 32 (by decide) p9 a b ha hb
theorem LC (a b:Nat) (ha:a<256) (hb:b<256):bits .xor .u8 a b=((a ^^^ b:Nat):Int):=Ch .u8 8 (by decide) wraps_u8 a b ha hb
theorem IJ (a:Nat) (ha:a<256):bits .and .u8 a 127=((a % 128:Nat):Int):=by
 have:=bits_mask .u8 8 (by decide) wraps_u8 7 (by decide) (a:Int) (by omega) (by omega)
 exact_mod_cast this
theorem JZ (a:Nat) (ha:a<256):bits .and .u8 a 15=((a % 16:Nat):Int):=by
 have:=bits_mask .u8 8 (by decide) wraps_u8 4 (by decide) (a:Int) (by omega) (by omega)
 exact_mod_cast this
theorem CS (a:Nat) (ha:a<4294967296):bits .and .u32 a 1=((a % 2:Nat):Int):=by
 have:=bits_mask .u32 32 (by decide) p9 1 (by decide) (a:Int) (by omega) (by omega)
 exact_mod_cast this
theorem J4 (a:Nat) (ha:a<4611686018427387904):bits .and .i64 a 1=((a % 2:Nat):Int):=by
 have:=bits_mask .i64 62 (by decide) wG 1 (by decide) (a:Int) (by omega) (by omega)
 exact_mod_cast this
set_option maxRecDepth 100000 in
theorem II (a:Nat) (ha:a<256):(bits .and .u8 a 128 != 0)=decide (128<=a):=by
 have:∀k:Fin 256,(bits .and .u8 (k.1:Int) 128 != 0)=decide (128<=k.1):=by decide
 exact this ⟨a,ha⟩
theorem Kr (k:IntKind) (j:Nat) (hj:j<=k.bits) (hk:∀n:Int,0<=n->n<2 ^ j->k.wrap n=n) (n m i:Nat) (hn:n<2 ^ i) (hi:m*2 ^ i<2 ^ j) (hij:i<=j) :
 bits .or k n ((m*2 ^ i:Nat):Int)=((n+m*2 ^ i:Nat):Int):=by
 have h1:n<2 ^ j:=Nat.lt_of_lt_of_le hn (Nat.pow_le_pow_right (by decide) hij);rw[(bits_nat k j hj hk n (m*2 ^ i) h1 hi).2,Nat.or_comm,Nat.mul_comm m,<-Nat.two_pow_add_eq_or_of_lt hn m,Nat.add_comm]
theorem Jm (k:IntKind) (j:Nat) (hj:j<=k.bits) (hk:∀n:Int,0<=n->n<2 ^ j->k.wrap n=n) (n m i:Nat) (hn:n<2 ^ i) (hi:m*2 ^ i<2 ^ j) (hij:i<=j) :
 bits .or k ((m*2 ^ i:Nat):Int) n=((m*2 ^ i+n:Nat):Int):=by
 have h1:n<2 ^ j:=Nat.lt_of_lt_of_le hn (Nat.pow_le_pow_right (by decide) hij);rw[(bits_nat k j hj hk (m*2 ^ i) n hi h1).2,Nat.mul_comm m,<-Nat.two_pow_add_eq_or_of_lt hn m]
theorem FF (i:Nat):128 ^ i=2 ^ (7*i):=by rw[Nat.pow_mul]
theorem FD (i:Nat) (h:i<6):128 ^ i<=34359738368:=Nat.le_trans (Nat.pow_le_pow_right (by decide) (show i<=5 by omega)) (by decide)
theorem Jd (n c i:Nat) (hc:c<256) (hi:i<6) (hn:n<128 ^ i) :
 bits .or .i64 n (wrap64 (wrap64 (bits .and .u8 c 127)*2 ^ (7*i)))=((n+c % 128*128 ^ i:Nat):Int):=by
 have hp:=FD i hi;have h1:c % 128*128 ^ i<=127*34359738368:=Nat.mul_le_mul (by omega) hp;have e1:wrap64 (bits .and .u8 c 127)=((c % 128:Nat):Int):=by rw[IJ c hc,IntWalk.wrap64_in];omega
 have e2:((c % 128:Nat):Int)*2 ^ (7*i)=((c % 128*2 ^ (7*i):Nat):Int):=by simp
 rw[e1,e2,IntWalk.wrap64_in]
 ·rw[FF]at *;exact Kr .i64 62 (by decide) wG n _ (7*i) hn (by omega) (by omega)
 ·rw[<-FF];omega
theorem ns (n c i:Nat) (hn:n<128 ^ i):n+c % 128*128 ^ i<128 ^ (i+1):=by
 have h1:c % 128*128 ^ i<=127*128 ^ i:=Nat.mul_le_mul_right _ (by omega);rw[Nat.pow_succ];omega
theorem og (w:World) (e:TypeId) (s:ByteArray):Below w.heap.size w (Lib.bytesWorld w e s):=by
 refine⟨?_,?_,?_,?_,?_⟩
 ·simp[Lib.bytesWorld,World.freeze,World.alloc,World.drew,-World.alloc_eq,-World.drew_eq]
 ·simp[Lib.bytesWorld,World.freeze,World.alloc,World.drew,-World.alloc_eq,-World.drew_eq]
 ·simp[Lib.bytesWorld,World.freeze,World.alloc,World.drew,-World.alloc_eq,-World.drew_eq]
 ·rw[Lib.bytesWorld_size];omega
 ·intro k hk;exact Lib.bytesWorld_at_old w e s k hk
theorem getD_at (s:ByteArray) (i:Nat) (h:i<s.size):∃c:UInt8,s.data.toList.getD i 0=c/\s.data.toList.drop i=c::s.data.toList.drop (i+1):=by
 have hl:i<s.data.toList.length:=by rw[<-Lib.size_eq];exact h
 refine⟨s.data.toList[i],?_,?_⟩
 ·rw[List.getD_eq_getElem?_getD,aR hl];rfl
 ·rw[List.drop_eq_getElem_cons hl]
theorem yz (n:Int) (h1 : -9223372036854775808<=n) (h2:n<=9223372036854775807):bits .xor .i64 n (-1) = -n-1:=by
 have e1:BitVec.ofInt 64 (-1)=BitVec.allOnes 64:=by decide
 have e2:bits .xor .i64 n (-1)=IntKind.i64.wrap ((~~~ (BitVec.ofInt 64 n)).toNat:Int):=by
  show IntKind.i64.wrap ((BitVec.ofInt 64 n ^^^ BitVec.ofInt 64 (-1)).toNat:Int)=_;rw[e1,BitVec.xor_allOnes]
 rw[e2,BitVec.toNat_not,BitVec.toNat_ofInt,IntKind.wrap_i64];omega
theorem xor_zero (n:Int) (h1 : -9223372036854775808<=n) (h2:n<=9223372036854775807):bits .xor .i64 n 0=n:=by
 have e2:bits .xor .i64 n 0=IntKind.i64.wrap ((BitVec.ofInt 64 n).toNat:Int):=by
  show IntKind.i64.wrap ((BitVec.ofInt 64 n ^^^ BitVec.ofInt 64 0).toNat:Int)=_;rw[show BitVec.ofInt 64 0=0#64 from rfl,BitVec.xor_zero]
 rw[e2,BitVec.toNat_ofInt,IntKind.wrap_i64];omega
set_option maxRecDepth 100000 in
theorem Lc (x:Int) (h0:0<=x) (h1:x<256):bits .or .u8 x 128=x % 128+128:=by
 obtain⟨k,rfl⟩:=Int.eq_ofNat_of_zero_le h0;have:∀k:Fin 256,bits .or .u8 (k.1:Int) 128=(k.1:Int) % 128+128:=by decide
 exact this ⟨k,by omega⟩
set_option maxHeartbeats 1000000 in
set_option maxRecDepth 100000 in
theorem dF (n:Int) (w:World) :
 Calls prog 84 #[.int .i64 n] w fun e w'=>e=.returned (.string ⟨(Num.put (Num.held n)).toArray⟩)/\Below w.heap.size w w':=by
 have hh:=Num.cB n;have hl6:=Num.ct _ hh;have HC:=ad (Bm n w);obtain⟨h,hhe⟩:∃h,Num.held n=h:=⟨_,rfl⟩;rw[hhe]at hh hl6 HC ⊢;go_enter func84,ntmps84;go_wp2_with fail;refine HC.out.mono ?_;rintro e w1 ⟨rfl,rfl⟩;clear hhe HC;go_wp2
 go_loopw [0,3] (fun nv bv wr=>∃(m:Nat) (acc:List UInt8),nv=.int .i64 (m:Int)/\m<=1099511627776/\wr.ownsRow w.heap.size 5 1 bv acc.length (Lib.byteCells acc)/\Below w.heap.size w wr/\acc++Num.put m=Num.put h) (fun nv _ _=>(intOf nv).toNat)
 case atStart=>exact⟨h,[],rfl,hh,World.ownsRow_nil _ _ _ _,ae _ _,rfl⟩
 case round =>
  obtain⟨m,acc,rfl,hm,hown,hbw,hacc⟩:=hrel;have HA:=ad hacc;have hal:acc.length<=6:=by rw[<-hacc,List.length_append]at hl6;omega
  have hbs:=hbw.size;clear hacc;by_cases hp:(128:Int)<=m
  ·have hq:bits .or .u8 ((m:Int) % 256) 128=(m:Int) % 128+128:=by
    rw[Lc _ (by omega) (by omega)];omega
   go_wp2_with (at_builtin;refine ir rfl _ _ _ rfl I7 rfl hown hbw hbs _ _ rfl rfl (by simp[Value.oneCell']) (by omega) ?_);intro v' w2 hown' _ hbw2 _;rw[oF acc (m % 128+128).toUInt8 _ (by rw[Num.oN _ (by omega)];omega)]at hown';have HF:=ad (show(acc++[(m % 128+128).toUInt8])++Num.put (m / 128)=Num.put h by rw[<-HA.out,Num.qJ m (by omega)];simp);clear hown HA hq;go_wp2;exact⟨⟨m / 128,acc++[(m % 128+128).toUInt8],by go_num,by omega,by simpa using hown',hbw2,HF.out⟩,by simp[intOf];omega⟩
  ·go_wp2_with (at_builtin;refine ir rfl _ _ _ rfl I7 rfl hown hbw hbs _ _ rfl rfl (by simp[Value.oneCell']) (by omega) ?_);intro v' w2 hown' _ hbw2 _;rw[oF acc m.toUInt8 _ (by rw[Num.oN _ (by omega)])]at hown';have HF:=ad (show acc++[m.toUInt8]=Num.put h by rw[<-HA.out,Num.km m (by omega)]);have hstr:=mD (acc:=acc++[m.toUInt8]) (by simpa using hown');clear hown HA;go_wp2;go_ret;rw[HF.out];exact⟨rfl,hbw2⟩
theorem mj (s:ByteArray) (i:Nat):(s.extract i s.size).data.toList=s.data.toList.drop i:=Lib.extract_to_end s i
set_option maxHeartbeats 1000000 in
set_option maxRecDepth 100000 in
theorem fS (s:ByteArray) (w:World) (hs:s.size<=1000000000000) :
 Calls prog 101 #[.string s] w fun e w'=>∃(n:Nat) (r:ByteArray) (c:Nat),e=.returned (.tuple #[.int .i64 n,.string r,.int .i64 c])/\Hid (Num.take s.data.toList=(n,r.data.toList,c))/\Below w.heap.size w w':=by
 have hcv:=Lib.run_convert_string_bytes (P:=prog) w 9 167 5 s (u:=.string) underlying9 underlying167 underlying5;have hB:∀j,j<s.size->(Lib.bytesWorld w 5 s).cell? ⟨w.heap.size,j,none⟩=some (.int .u8 (s.data.toList.getD j 0).toNat):=fun j hj=>Lib.bytesWorld_cell w 5 s j hj;have hbw0:=og w 5 s;obtain⟨W1,hW1⟩:∃W1,W1=Lib.bytesWorld w 5 s:=⟨_,rfl⟩;rw[<-hW1]at hcv hB hbw0;clear hW1;have HB:=ad hB;clear hB;have HS:=ad (show Num.fk 0 0 (s.data.toList.drop 0)=Num.take s.data.toList from rfl);have HL:=ad (aT s);go_enter func101,ntmps101;go_wp2
 go_loopw [5,11] (fun nv iv wr=>∃(i n:Nat),nv=.int .i64 (n:Int)/\iv=.int .i64 (i:Int)/\i<=s.size/\i<=6/\n<128 ^ i/\wr=W1/\Num.fk i n (s.data.toList.drop i)=Num.take s.data.toList) (fun _ iv _=>s.size-(intOf iv).toNat)
 case atStart=>exact⟨0,0,rfl,rfl,by omega,by omega,by omega,rfl,HS.out⟩
 case round =>
  obtain⟨i,n,rfl,rfl,hi,hi6,hn,rfl,hT⟩:=hrel;have HT:=ad hT;clear hT HS;by_cases hp:i<s.size
  ·have hc:=HB.out i hp;obtain⟨c,hcc,hdr⟩:=getD_at s i hp;rw[hcc]at hc;have HD:=ad (HT.out.symm.trans (congrArg (Num.fk i n) hdr));clear hdr hcc;have hcl:c.toNat<256:=c.toNat_lt;obtain⟨k,hk⟩:∃k,c.toNat=k:=⟨_,rfl⟩;rw[hk]at hc hcl;by_cases h6:i=6
   ·subst h6;have HF:=ad (show Num.take s.data.toList=(0,[],2)by rw[HD.out,Num.fk,if_pos rfl]);clear hn;go_wp2
    go_ret3
    exact⟨0,_,2,rfl,HF.out,hbw0⟩
   ·have h6':((i:Int)==6)=false:=by simp;omega
    have hO:=Jd n k i hcl (by omega) hn;have hN:=ns n k i hn;have hA:=II k hcl;have HN:=ad hN;have hm0:n+k % 128*128 ^ i<4611686018427387904:=by
     have h1:=Nat.pow_le_pow_right (n:=128) (by decide) (show i+1<=6 by omega);have h2:(128:Nat) ^ 6=4398046511104:=by decide
     omega
    obtain⟨m,hm⟩:∃m,n+k % 128*128 ^ i=m:=⟨_,rfl⟩;rw[hm]at hO HN hm0;have HM:=ad hm;have HK:=ad hk;clear hm hk hN hn;by_cases hc8:128<=k
    ·rw[decide_eq_true hc8]at hA;have HF:=ad (show Num.fk (i+1) m (s.data.toList.drop (i+1))=Num.take s.data.toList by
      rw[HD.out,Num.fk,if_neg h6,if_pos (by rw[HK.out];exact hc8),HK.out,HM.out])
     go_wp2;exact⟨⟨i+1,m,rfl,by go_num,by omega,by omega,HN.out,trivial,HF.out⟩,by simp[intOf];omega⟩
    ·rw[decide_eq_false hc8]at hA;have HD2:=ad (show Num.take s.data.toList=if k=0/\0<i then (0,[],2) else if 1099511627776<m then (0,[],4) else (m,s.data.toList.drop (i+1),0)by
      rw[HD.out,Num.fk,if_neg h6,if_neg (by rw[HK.out];exact hc8),HK.out,HM.out])
     by_cases hz:k=0/\0<i
     ·obtain⟨hz1,hz2⟩:=hz;subst hz1;have hi0:(0:Int)<i:=by omega
      have HF:=ad (show Num.take s.data.toList=(0,[],2)by rw[HD2.out,if_pos ⟨rfl,hz2⟩]);clear HD HD2 HM HK HT;go_wp2
      go_ret3
      exact⟨0,_,2,rfl,HF.out,hbw0⟩
     ·have hzb:((k:Int)==0)=false\/(((k:Int)==0)=true/\¬(0:Int)<i):=by
       by_cases hk0:k=0
       ·right;simp[hk0];omega
       ·left;simp;omega
      by_cases hm1:1099511627776<m
      ·have hm2:(1099511627776:Int)<m:=by omega
       have HF:=ad (show Num.take s.data.toList=(0,[],4)by rw[HD2.out,if_neg hz,if_pos hm1]);clear HD HD2 HM HK HT hz;rcases hzb with hzb|⟨hzb,hzc⟩
       ·go_wp2
        go_ret3
        exact⟨0,_,4,rfl,HF.out,hbw0⟩
       ·go_wp2
        go_ret3
        exact⟨0,_,4,rfl,HF.out,hbw0⟩
      ·have hm2:¬(1099511627776:Int)<m:=by omega
       have HF:=ad (show Num.take s.data.toList=(m,(s.extract (i+1) s.size).data.toList,0)by rw[HD2.out,if_neg hz,if_neg hm1,mj]);clear HD HD2 HM HK HT hz;rcases hzb with hzb|⟨hzb,hzc⟩
       ·go_wp2;go_quiet (fail);go_wp2
        go_ret3
        exact⟨m,_,0,rfl,HF.out,below_drewN hbw0 _⟩
       ·go_wp2;go_quiet (fail);go_wp2
        go_ret3
        exact⟨m,_,0,rfl,HF.out,below_drewN hbw0 _⟩
  ·obtain rfl:i=s.size:=by omega
   have HF:=ad (show Num.take s.data.toList=(0,[],3)by rw[<-HT.out,List.drop_of_length_le (by have:=HL.out;omega)];rfl);go_wp2
   go_ret3
   exact⟨0,_,3,rfl,HF.out,hbw0⟩
theorem rS (n:Int) (w:World) :
 Calls prog 84 #[.int .i64 n] w fun e w'=>∃r:ByteArray,e=.returned (.string r)/\Hid (r.data.toList=Num.put (Num.held n))/\r.size<=6/\Below w.heap.size w w':=by
 refine(dF n w).mono ?_;rintro e w1 ⟨rfl,hb⟩;have h6:=Num.ct _ (Num.cB n);exact⟨_,rfl,rfl,by rw[Lib.size_eq];exact h6,hb⟩
theorem GO (h:Int) (h1 : -549755813888<=h) (h2:h<=549755813888):bits .xor .i64 (h*2) (h / 9223372036854775808)=((Num.wu h:Nat):Int):=by
 unfold Num.wu;split
 ·rw[show h / 9223372036854775808=0 by omega,xor_zero _ (by omega) (by omega)];omega
 ·rw[show h / 9223372036854775808 = -1 by omega,yz _ (by omega) (by omega)];omega
theorem GP (m:Nat) (hm:m<=1099511627776):bits .xor .i64 ((m:Int) / 2) (wrap64 (-bits .and .i64 (m:Int) 1))=Num.Cg m:=by
 rw[J4 m (by omega)];unfold Num.Cg;rcases Nat.mod_two_eq_zero_or_one m with h|h
 ·rw[h,if_pos rfl,show wrap64 (-((0:Nat):Int))=0 by rw[IntWalk.wrap64_in] <;> omega,xor_zero _ (by omega) (by omega)];omega
 ·rw[h,if_neg (by omega),show wrap64 (-((1:Nat):Int)) = -1 by rw[IntWalk.wrap64_in] <;> omega,yz _ (by omega) (by omega)];omega
theorem DC (n:Int) (w:World) :
 Calls prog 181 #[.int .i64 n] w fun e w'=>∃r:ByteArray,e=.returned (.string r)/\Hid (r.data.toList=Num.kG n)/\r.size<=6/\Below w.heap.size w w':=by
 have hh:=Num.uH n;have hz:=Num.tG n;have HC:=ad (BS n w);have HP:=ad (show Num.kG n=Num.put (Num.wu (Num.gZ n))from rfl);obtain⟨h,hhe⟩:∃h,Num.gZ n=h:=⟨_,rfl⟩;rw[hhe]at hh HC HP hz;clear hhe;go_enter func181,ntmps181;go_wp2_with fail;refine HC.out.mono ?_;rintro e w1 ⟨rfl,rfl⟩;clear HC;go_wp2_with fail;rw[GO h hh.1 hh.2];refine(rS _ w).mono ?_;rintro e w1 ⟨r,rfl,hr,hr6,hb⟩;rw[Num.jz _ hz]at hr;go_wp2;go_ret;exact⟨r,rfl,hr.out.trans HP.out.symm,hr6,hb⟩
theorem AU (s:ByteArray) (w:World) (hs:s.size<=1000000000000) :
 Calls prog 308 #[.string s] w fun e w'=>∃(n:Int) (r:ByteArray) (c:Nat),e=.returned (.tuple #[.int .i64 n,.string r,.int .i64 c])/\Hid (Num.jv s.data.toList=(n,r.data.toList,c))/\Below w.heap.size w w':=by
 go_enter func308,ntmps308;go_wp2_with fail;refine(fS s w hs).mono ?_;rintro e w1 ⟨n,r,c,rfl,HT,hb⟩;have hn:n<=1099511627776:=by have:=(Num.fH s.data.toList).1;rw[HT.out]at this;exact this
 have hz:=GP n hn;have HF:=ad (show Num.jv s.data.toList=(Num.Cg n,r.data.toList,c)by unfold Num.jv;rw[HT.out]);go_wp2
 go_ret3
 exact⟨_,r,c,rfl,HF,hb⟩
theorem sr (s:ByteArray) (w:World) (hs:s.size<=1000000000000) :
 Calls prog 129 #[.string s] w fun e w'=>∃r:ByteArray,e=.returned (.string r)/\Hid (r.data.toList=Num.eX s.data.toList)/\r.size<=s.size+6/\Below w.heap.size w w':=by
 have HP:=ad (show Num.eX s.data.toList=Num.put (Num.held (s.size:Int))++s.data.toList by rw[Lib.size_eq];rfl);go_enter func129,ntmps129;go_wp2_with fail;refine(rS _ w).mono ?_;rintro e w1 ⟨r,rfl,HR,hr6,hb⟩;obtain⟨q,hq,hq2,hq3⟩:=bf (Num.eX s.data.toList);have hadd:∀w,(Op.stringOp .add r s).run prog w=.ok (.string q) w:=fun w=>cK w r s q (by omega) (by rw[HR.out,hq2,HP.out]);have hqs:q.size<=s.size+6:=by rw[hq3,HP.out,<-HR.out,List.length_append,<-Lib.size_eq,<-Lib.size_eq];omega
 have HQ:=ad hq2;clear hq hq2 hq3 HR HP;go_wp2;go_ret;exact⟨q,rfl,HQ,hqs,hb⟩
theorem BW (n:Nat) (hn:n<4294967296):[Value.int .u8 ((n:Int) / 16777216),.int .u8 ((n:Int) / 65536 % 256),.int .u8 ((n:Int) / 256 % 256),.int .u8 ((n:Int) % 256)]=Lib.byteCells (Num.fixed n):=by
 simp only[Num.fixed,Lib.byteCells,List.map_cons,List.map_nil,Num.yG];congr 2;omega
set_option maxRecDepth 100000 in
theorem xk (n:Nat) (w:World) (hn:n<4294967296) :
 Calls prog 141 #[.int .u32 n] w fun e w'=>∃r:ByteArray,e=.returned (.string r)/\Hid (r.data.toList=Num.fixed n)/\r.size=4/\Below w.heap.size w w':=by
 have hown:(w.alloc (.cells #[.int .u8 ((n:Int) / 16777216),.int .u8 ((n:Int) / 65536 % 256),.int .u8 ((n:Int) / 256 % 256),.int .u8 ((n:Int) % 256)] 5)).ownsRow w.heap.size 5 1 (.slice (some ⟨w.heap.size,0,none⟩) 4 4) (Num.fixed n).length (Lib.byteCells (Num.fixed n)) :=
  ⟨rfl,.inr ⟨w.heap.size,4,_,rfl,ab,heap_alloc_new w _,ab,by decide,rfl,BW n hn⟩⟩
 have hstr:=mD hown;clear hown;obtain⟨q,hq,hq2,hq3⟩:=bf (Num.fixed n);rw[hq]at hstr;have HQ:=ad hq2;clear hq hq2;go_enter func141,ntmps141;go_wp2;go_ret;exact⟨q,rfl,HQ,hq3,(ae _ _).alloc ab _⟩
theorem jT (s:ByteArray) (n:Nat):(s.extract 0 n).data.toList=s.data.toList.take n:=by simp[ByteArray.data_extract,List.extract_eq_take_drop]
theorem jo (s:ByteArray) (n:Nat) (h:n<=s.size):(s.extract 0 n).size=n:=by simp[ByteArray.size_extract,h]
set_option maxHeartbeats 1000000 in
theorem yL (s:ByteArray) (long:Int) (w:World) (hs:s.size<=1000000000000) :
 Calls prog 233 #[.string s,.int .i64 long] w fun e w'=>∃(a r:ByteArray) (c:Nat),e=.returned (.tuple #[.string a,.string r,.int .i64 c])/\Hid (Num.cY s.data.toList long=(a.data.toList,r.data.toList,c))/\Below w.heap.size w w':=by
 go_enter func233,ntmps233;go_wp2_with fail;refine(fS s w hs).mono ?_;rintro e w1 ⟨n,r,c,rfl,HT,hb⟩;have HU:=ad (show Num.cY s.data.toList long=if c≠0 then ([],[],c) else if long<(n:Int) then ([],[],4) else if r.data.toList.length<n then ([],[],3) else (r.data.toList.take n,r.data.toList.drop n,0)by unfold Num.cY;rw[HT.out]);have hrs:r.size<=s.size:=by have:=(Num.fH s.data.toList).2.1;rw[HT.out,<-Lib.size_eq,<-Lib.size_eq]at this;exact this
 have hn:n<=1099511627776:=by have:=(Num.fH s.data.toList).1;rw[HT.out]at this;exact this
 clear HT;by_cases hc:c=0
 ·subst hc;by_cases h1:long<(n:Int)
  ·have HF:=ad (show Num.cY s.data.toList long=([],[],4)by rw[HU.out,if_neg (by simp),if_pos h1]);go_wp2
   go_ret3
   exact⟨_,_,4,rfl,HF,hb⟩
  ·by_cases h2:(r.size:Int)<(n:Int)
   ·have HF:=ad (show Num.cY s.data.toList long=([],[],3)by rw[HU.out,if_neg (by simp),if_neg h1,if_pos (by rw[<-Lib.size_eq];omega)]);go_wp2
    go_ret3
    exact⟨_,_,3,rfl,HF,hb⟩
   ·have h3:(n:Int)<=r.size:=by omega
    have HF:=ad (show Num.cY s.data.toList long=((r.extract 0 n).data.toList,(r.extract n r.size).data.toList,0)by
     rw[HU.out,if_neg (by simp),if_neg h1,if_neg (by rw[<-Lib.size_eq];omega),jT,mj])
    go_wp2;go_quiet (fail);go_wp2
    go_ret3
    exact⟨_,_,0,rfl,HF,below_drewN hb _⟩
 ·have hc1:((c:Int) != 0)=true:=by simp;omega
  have HF:=ad (show Num.cY s.data.toList long=([],[],c)by rw[HU.out,if_pos hc]);go_wp2
  go_ret3
  exact⟨_,_,c,rfl,HF,hb⟩
def fx (l:List UInt8):Nat:=l.foldl (fun n c=>n*256+c.toNat) 0
theorem JO (l:List UInt8) (c:UInt8):fx (l++[c])=fx l*256+c.toNat:=by simp[fx]
theorem uM:∀(l:List UInt8) (m:Nat),l.foldl (fun n c=>n*256+c.toNat) m<(m+1)*256 ^ l.length
 |[],m=>by simp
 |c::l,m=>by
  have h:=uM l (m*256+c.toNat);have hc:=c.toNat_lt;have h2:(m*256+c.toNat+1)*256 ^ l.length<=((m+1)*256)*256 ^ l.length:=Nat.mul_le_mul_right _ (by omega);rw[List.length_cons,Nat.pow_succ,Nat.mul_comm (256 ^ l.length),<-Nat.mul_assoc];exact Nat.lt_of_lt_of_le h h2
theorem I4 (l:List UInt8):fx l<256 ^ l.length:=by have:=uM l 0;rw[Nat.zero_add,Nat.one_mul]at this;exact this
theorem KJ (n c:Nat) (hn:n<16777216) (hc:c<256):bits .or .u32 ((n:Int)*256) c=((n*256+c:Nat):Int):=by
 have:=Jm .u32 32 (by decide) p9 c n 8 hc (by omega) (by omega);rw[show n*2 ^ 8=n*256 from rfl]at this;rw[show(n:Int)*256=((n*256:Nat):Int)by omega,this]
theorem yM (l:List UInt8) (h:4<=l.length):Num.de l=(fx (l.take 4),l.drop 4,0):=by
 match l,h with
 |a::b::c::d::r,_ =>
  simp only[Num.de,fx,List.take_succ_cons,List.take_zero,List.foldl_cons,List.foldl_nil,List.drop_succ_cons,List.drop_zero,Nat.zero_mul,Nat.zero_add]
set_option maxHeartbeats 1000000 in
set_option maxRecDepth 100000 in
theorem pP (s:ByteArray) (w:World) (hs:s.size<=1000000000000) :
 Calls prog 155 #[.string s] w fun e w'=>∃(n:Nat) (r:ByteArray) (c:Nat),e=.returned (.tuple #[.int .u32 n,.string r,.int .i64 c])/\Hid (Num.de s.data.toList=(n,r.data.toList,c))/\n<4294967296/\Below w.heap.size w w':=by
 by_cases h4:s.size<4
 ·have HF:=ad (Num.tP s.data.toList (by rw[<-Lib.size_eq];exact h4));go_enter func155,ntmps155;go_wp2
  go_ret3
  exact⟨0,_,3,rfl,HF,by omega,ae _ _⟩
 ·obtain⟨q,hq⟩:∃q,s.extract 0 4=q:=⟨_,rfl⟩;have hqs:q.size=4:=by rw[<-hq];exact jo s 4 (by omega)
  have HQ:=ad (show q.data.toList=s.data.toList.take 4 by rw[<-hq,jT]);have hcv:=Lib.run_convert_string_bytes (P:=prog) w 9 167 5 q (u:=.string) underlying9 underlying167 underlying5;have hB:∀j,j<q.size->(Lib.bytesWorld w 5 q).cell? ⟨w.heap.size,j,none⟩=some (.int .u8 (q.data.toList.getD j 0).toNat):=fun j hj=>Lib.bytesWorld_cell w 5 q j hj;have hbw0:=og w 5 q;obtain⟨W1,hW1⟩:∃W1,W1=Lib.bytesWorld w 5 q:=⟨_,rfl⟩;rw[<-hW1]at hcv hB hbw0;clear hW1;have HB:=ad hB;clear hB;go_enter func155,ntmps155;go_wp2
  go_loopw [5,15] (fun nv iv wr=>∃(i n:Nat),nv=.int .u32 (n:Int)/\iv=.int .i64 (i:Int)/\i<=4/\n=fx (q.data.toList.take i)/\wr=W1) (fun _ iv _=>4-(intOf iv).toNat)
  case atStart=>exact⟨0,0,rfl,rfl,by omega,rfl,rfl⟩
  case round =>
   obtain⟨i,n,rfl,rfl,hi,hn,rfl⟩:=hrel;have HN:=ad hn;clear hn;by_cases hp:i<4
   ·have hc:=HB.out i (by omega);obtain⟨c,hcc,hdr⟩:=getD_at q i (by omega);rw[hcc]at hc;have hlen:(q.data.toList.take i).length=i:=by rw[List.length_take,<-Lib.size_eq,hqs];omega
    have hn4:n<16777216:=by
     have h1:=I4 (q.data.toList.take i);rw[hlen,<-HN.out]at h1;have h2:=Nat.pow_le_pow_right (n:=256) (by decide) (show i<=3 by omega);have h3:(256:Nat) ^ 3=16777216:=by decide
     omega
    have hcl:c.toNat<256:=c.toNat_lt;have HF:=ad (show n*256+c.toNat=fx (q.data.toList.take (i+1))by
     rw[HN.out,<-JO];congr 1;rw[List.take_add_one,<-List.head?_drop,hdr];rfl)
    obtain⟨k,hk⟩:∃k,c.toNat=k:=⟨_,rfl⟩;rw[hk]at hc hcl HF;have hO:=KJ n k hn4 hcl;clear hdr hcc hk hlen HN;go_wp2;exact⟨⟨i+1,n*256+k,by simp,by go_num,by omega,HF.out,trivial⟩,by simp[intOf];omega⟩
   ·obtain rfl:i=4:=by omega
    have HF:=ad (show Num.de s.data.toList=(n,(s.extract 4 s.size).data.toList,0)by
     rw[yM _ (by rw[<-Lib.size_eq];omega),HN.out,HQ.out,mj,List.take_take];rfl)
    have hn4:n<4294967296:=by
     have h1:=I4 (q.data.toList.take 4);rw[<-HN.out]at h1;have h2:(q.data.toList.take 4).length<=4:=by rw[List.length_take];omega
     have h3:=Nat.pow_le_pow_right (n:=256) (by decide) h2;have h4:(256:Nat) ^ 4=4294967296:=by decide
     omega
    clear HN;go_wp2;go_quiet (fail);go_wp2
    go_ret3
    exact⟨n,_,0,rfl,HF,hn4,below_drewN hbw0 _⟩
end Go.Proofs.YtmgmknmaepjnoaaGreatDoor
