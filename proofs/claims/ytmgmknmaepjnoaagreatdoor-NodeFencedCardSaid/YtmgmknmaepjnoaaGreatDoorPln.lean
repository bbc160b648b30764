/-
  The contracts of library functions at this dump, in plain words, as the shelf commands lay them: those that the walks use.
-/
import Derived.Shelf.Strings.Builder1
import Derived.Shelf.Small.Bits
import Derived.Shelf.Small.Wraps
import Derived.Shelf.Strings.BuilderF
import Derived.Shelf.Strings.BuilderK
import Derived.Shelf.Strconv.Atoi
import Derived.Shelf.Strconv.Itoa0
import Derived.Shelf.Strconv.Itoa1
import Derived.Shelf.LaysM
import Derived.Shelf.Strconv.Itoa2
import Derived.Shelf.Strconv.Itoa3
import Derived.Shelf.Strconv.AtoiErrFast
import Derived.Shelf.Strconv.ParseIntEmpty
import Derived.Shelf.Strconv.AtoiFail
import Derived.Shelf.Strconv.Clone
import Derived.Shelf.Strconv.SyntaxError
import Derived.Shelf.LaysC
import Derived.Shelf.Strconv.ToError
import Derived.Shelf.Strconv.AtoiErr
import Derived.Shelf.Strconv.Lower
import Derived.Shelf.Strconv.ParseUint10
import Derived.Shelf.Strconv.ParseUint10Empty
import Derived.Shelf.Strconv.ParseUint10Any
import Derived.Shelf.Strconv.ParseInt10
import Derived.Shelf.Strconv.AtoiLong
import Derived.Shelf.Strconv.AtoiInnerAll
import Derived.Shelf.Strconv.RangeError
import Derived.Shelf.Strconv.ToErrorRange
import Derived.Shelf.Strconv.AtoiAll
import Derived.Shelf.Strconv.ErrVarAll
import Derived.Shelf.Strconv.ParseUintEmpty
import Derived.Shelf.Strconv.ParseUint10b64
import Derived.Shelf.Strconv.ParseUint10b32
import Derived.Shelf.Strconv.ParseUint10b16
import Derived.Shelf.Strconv.ParseUint10b8
import Derived.Shelf.Strconv.ParseUint10At
import Derived.Shelf.Strconv.ParseInt10At64
import Derived.Shelf.Strconv.ParseInt10At32
import Derived.Shelf.Strconv.ParseInt10At16
import Derived.Shelf.Strconv.ParseInt10At8
import Derived.Shelf.Strconv.ParseInt10All
import Derived.Shelf.Sort.Plain
import Derived.Shelf.Strings.Prefix
import Derived.Shelf.Unicode.Decode
import Derived.Shelf.Unicode.DecodeSlow
import Derived.Shelf.Unicode.DecodeAny
import Derived.Shelf.Strings.BuilderCap
import Derived.Shelf.Slices.In.SortNone
import Derived.Test.YtmgmknmaepjnoaaGreatDoorProg
import Derived.WalkKit
import Derived.WalkSpells
import Derived.WalkLawsBesides
import Derived.Lib.RuneBytes
import Derived.Lib.DecodeN
import Derived.Lib.AtoiAll
import Derived.Lib.ItoaNum
import Derived.Lib.Hide
import Derived.Lib.TrimUEq
import Derived.Lib.AppendIntMem
import Derived.Shelf.SlIter.Nil
import Derived.Shelf.SortM.Plain
import Derived.Shelf.SortM.SortNone
import Derived.Ground.GgzProg
import Derived.Ground.SlgmProg
import Derived.Shelf.SlIterI.Nil
import Derived.Shelf.SlMaps.Clone
import Derived.Ground.SlmcProg
namespace Go.Proofs
open Go
theorem ab {n:Nat}:n<=n:=Nat.le_refl n
theorem ad {p:Prop} (h:p):RowKit.Hid p:=Lib.hid h
theorem ae (B:Nat) (w:World):RowKit.Below B w w:=RowKit.Below.refl B w
theorem aq {w:World} {b:Nat} {cs:Array Value} {T:TypeId} {fr:Nat×Nat} {j:Nat} {v:Value} (h:w.heap[b]?=some (Obj.cells cs T fr)) (g:cs[j]?=some v):w.cell? ⟨b,j,none⟩=some v:=by rw[Lib.cell_of_heap h,g]
theorem aw {w:World} {b:Nat} {cs:Array Value} {T:TypeId} {fr:Nat×Nat} (h:w.heap[b]?=some (Obj.cells cs T fr)) (j:Nat):w.cell? ⟨b,j,none⟩=cs[j]?:=Lib.cell_of_heap h j
theorem ay {w:World} {b:Nat} {cs:Array Value} {T:TypeId} (h:w.heap[b]?=some (Obj.cells cs T)) (j:Nat):w.frozen? ⟨b,j,none⟩=false:=Lib.frozen_of_heap h j
theorem aA {α:Type _} {i:Nat} {b:α} {xs:Array α}:xs[i]?=some b↔∃h,xs[i]=b:=Array.getElem?_eq_some_iff
theorem aB {a b:Prop} (h:a) (g:b):a/\b:=⟨h,g⟩
theorem aD {α:Type _} {b:α} (as_:List α) {bs:List α} (h:b∈bs):b∈as_++bs:=List.mem_append_right as_ h
theorem aH {α:Type _} {b:α} {as_:List α} (bs:List α) (h:b∈as_):b∈as_++bs:=List.mem_append_left bs h
theorem aK {α:Type _} {a:α} {s t:List α}:a∈s++t↔a∈s\/a∈t:=List.mem_append
theorem aN {α:Type _} {a b:α}:a∈[b]↔a=b:=List.mem_singleton
theorem aP {α:Type _} {l:List α} (h:l.length=0):l=[]:=List.eq_nil_of_length_eq_zero h
theorem aR {α:Type _} {l:List α} {i:Nat} (h:i<l.length):l[i]?=some l[i]:=List.getElem?_eq_getElem h
theorem aT (s:ByteArray):s.size=s.data.toList.length:=Lib.size_eq s
end Go.Proofs
namespace Go.Proofs
open Go.Shelf
def Tryz.sF:Go.Shelf.Ren:=⟨fun|169=>85|n=>n,fun|70=>166|9=>9|0=>0|72=>169|37=>167|127=>236|3=>3|5=>5|n=>n,fun|n=>n⟩
theorem Tryz.Jy:Go.Proofs.Lays.n169 Tryz.prog Tryz.sF:={
 mixed:=by kernel_rfl
 f169:=Tryz.func85.trans (congrArg some (by kernel_rfl))
 t0:=Tryz.underlying0
 a0:=Tryz.isAgg0
 z0:=Tryz.sizeOf0
 v0:=Tryz.zeroValue0
 t3:=Tryz.underlying3
 a3:=Tryz.isAgg3
 z3:=Tryz.sizeOf3
 v3:=Tryz.zeroValue3
 t9:=Tryz.underlying9
 a9:=Tryz.isAgg9
 z9:=Tryz.sizeOf9
 v9:=Tryz.zeroValue9
 t37:=Tryz.underlying167
 a37:=Tryz.isAgg167
 z37:=Tryz.sizeOf167
 v37:=Tryz.zeroValue167
 t70:=Tryz.underlying166
 a70:=Tryz.isAgg166
 z70:=Tryz.sizeOf166
 v70:=Tryz.zeroValue166
 t72:=Tryz.underlying169
 a72:=Tryz.isAgg169
 z72:=Tryz.sizeOf169
 v72:=Tryz.zeroValue169
 t127:=Tryz.underlying236
 a127:=Tryz.isAgg236
 z127:=Tryz.sizeOf236
 v127:=Tryz.zeroValue236}
theorem Tryz.sh:Builder.Extra Tryz.prog Tryz.sF:={
 sizeBuilder:=by kernel_rfl
 liesBuilder:=by kernel_rfl
 t5:=Tryz.underlying5
 a5:=Tryz.isAgg5
 z5:=Tryz.sizeOf5
 v5:=Tryz.zeroValue5
 infoByte:=by kernel_rfl
 cellsByte:=by kernel_rfl
 sizeByte:=by kernel_rfl
 neB5:=by decide}
def Tryz.BQ:Go.Shelf.Ren:=⟨fun|103=>258|210=>277|206=>256|n=>n,fun|9=>9|4=>4|24=>164|3=>3|n=>n,fun|n=>n⟩
theorem Tryz.Jz:Go.Proofs.Lays.n103 Tryz.prog Tryz.BQ:={
 mixed:=by kernel_rfl
 f103:=Tryz.func258.trans (congrArg some (by kernel_rfl))
 f206:=Tryz.func256.trans (congrArg some (by kernel_rfl))
 f210:=Tryz.func277.trans (congrArg some (by kernel_rfl))
 t3:=Tryz.underlying3
 a3:=Tryz.isAgg3
 z3:=Tryz.sizeOf3
 v3:=Tryz.zeroValue3
 t4:=Tryz.underlying4
 a4:=Tryz.isAgg4
 z4:=Tryz.sizeOf4
 v4:=Tryz.zeroValue4
 t9:=Tryz.underlying9
 a9:=Tryz.isAgg9
 z9:=Tryz.sizeOf9
 v9:=Tryz.zeroValue9
 t24:=Tryz.underlying164
 a24:=Tryz.isAgg164
 z24:=Tryz.sizeOf164
 v24:=Tryz.zeroValue164}
open Go.RowKit in
theorem Tryz.strings_CutPrefix (s p:ByteArray) (w:World) :
 Calls Tryz.prog 258 #[.string s,.string p] w fun e w'=>e=.returned (.tuple #[.string ⟨(Lib.trimPrefix s.data.toList p.data.toList).toArray⟩,.bool (Lib.hasPrefix s.data.toList p.data.toList)])/\w'=w:=Any.strings_CutPrefix Tryz.Jz s p w
open Go.RowKit in
theorem Tryz.Builder_String_any_k (B b:Nat) (l:List UInt8) (w:World) (h:Lib.IsBuilderF 169 5 B b (Lib.byteCells l) w) (hBw:B<=w.heap.size) :
 Calls Tryz.prog 85 #[.pointer (some ⟨b,0,none⟩)] w fun e w'=>e=.returned (.string ⟨l.toArray⟩)/\(Lib.IsBuilderF 169 5 B b (Lib.byteCells l) w'/\Below B w w'/\Lib.OthersKept 5 (some b) w w'):=Any.Builder_String_any_k Tryz.Jy Tryz.sh B b l w h hBw
def Tryz.zZ:Go.Shelf.Ren:=⟨fun|171=>232|243=>267|246=>291|283=>304|284=>305|285=>306|286=>307|129=>253|317=>310|318=>311|319=>312|320=>313|337=>314|338=>315|n=>n,fun|3=>3|9=>9|2=>2|4=>4|171=>431|0=>0|53=>380|37=>167|5=>5|173=>433|212=>437|51=>246|20=>20|213=>438|46=>235|232=>439|233=>440|n=>n,fun|17=>4|18=>5|19=>6|n=>n⟩
theorem Tryz.Ia:Go.Proofs.LaysM.n171 Tryz.prog Tryz.zZ:={
 mixed:=by kernel_rfl
 f129:=Tryz.func253.trans (congrArg some (by kernel_rfl))
 f171:=Tryz.func232.trans (congrArg some (by kernel_rfl))
 f243:=Tryz.func267.trans (congrArg some (by kernel_rfl))
 f246:=Tryz.func291.trans (congrArg some (by kernel_rfl))
 f283:=Tryz.func304.trans (congrArg some (by kernel_rfl))
 f284:=Tryz.func305.trans (congrArg some (by kernel_rfl))
 f285:=Tryz.func306.trans (congrArg some (by kernel_rfl))
 f286:=Tryz.func307.trans (congrArg some (by kernel_rfl))
 f317:=Tryz.func310.trans (congrArg some (by kernel_rfl))
 f318:=Tryz.func311.trans (congrArg some (by kernel_rfl))
 f319:=Tryz.func312.trans (congrArg some (by kernel_rfl))
 f320:=Tryz.func313.trans (congrArg some (by kernel_rfl))
 f337:=Tryz.func314.trans (congrArg some (by kernel_rfl))
 f338:=Tryz.func315.trans (congrArg some (by kernel_rfl))
 t0:=Tryz.underlying0
 a0:=Tryz.isAgg0
 z0:=Tryz.sizeOf0
 v0:=Tryz.zeroValue0
 t2:=Tryz.underlying2
 a2:=Tryz.isAgg2
 z2:=Tryz.sizeOf2
 v2:=Tryz.zeroValue2
 t3:=Tryz.underlying3
 a3:=Tryz.isAgg3
 z3:=Tryz.sizeOf3
 v3:=Tryz.zeroValue3
 t4:=Tryz.underlying4
 a4:=Tryz.isAgg4
 z4:=Tryz.sizeOf4
 v4:=Tryz.zeroValue4
 t5:=Tryz.underlying5
 a5:=Tryz.isAgg5
 z5:=Tryz.sizeOf5
 v5:=Tryz.zeroValue5
 t9:=Tryz.underlying9
 a9:=Tryz.isAgg9
 z9:=Tryz.sizeOf9
 v9:=Tryz.zeroValue9
 t20:=Tryz.underlying20
 a20:=Tryz.isAgg20
 z20:=Tryz.sizeOf20
 v20:=Tryz.zeroValue20
 t37:=Tryz.underlying167
 a37:=Tryz.isAgg167
 z37:=Tryz.sizeOf167
 v37:=Tryz.zeroValue167
 t46:=Tryz.underlying235
 a46:=Tryz.isAgg235
 z46:=Tryz.sizeOf235
 v46:=Tryz.zeroValue235
 t51:=Tryz.underlying246
 a51:=Tryz.isAgg246
 z51:=Tryz.sizeOf246
 v51:=Tryz.zeroValue246
 t53:=Tryz.underlying380
 a53:=Tryz.isAgg380
 z53:=Tryz.sizeOf380
 v53:=Tryz.zeroValue380
 t171:=Tryz.underlying431
 a171:=Tryz.isAgg431
 z171:=Tryz.sizeOf431
 v171:=Tryz.zeroValue431
 t173:=Tryz.underlying433
 a173:=Tryz.isAgg433
 z173:=Tryz.sizeOf433
 v173:=Tryz.zeroValue433
 t212:=Tryz.underlying437
 a212:=Tryz.isAgg437
 z212:=Tryz.sizeOf437
 v212:=Tryz.zeroValue437
 t213:=Tryz.underlying438
 a213:=Tryz.isAgg438
 z213:=Tryz.sizeOf438
 t232:=Tryz.underlying439
 a232:=Tryz.isAgg439
 z232:=Tryz.sizeOf439
 v232:=Tryz.zeroValue439
 t233:=Tryz.underlying440
 a233:=Tryz.isAgg440
 z233:=Tryz.sizeOf440
 v233:=Tryz.zeroValue440
 g17:=by kernel_rfl
 g18:=by kernel_rfl
 g19:=by kernel_rfl
 i0:=by kernel_rfl
 i2:=by kernel_rfl
 i3:=by kernel_rfl
 i4:=by kernel_rfl
 i5:=by kernel_rfl
 i9:=by kernel_rfl
 i20:=by kernel_rfl
 i37:=by kernel_rfl
 i46:=by kernel_rfl
 i51:=by kernel_rfl
 i53:=by kernel_rfl
 i171:=by kernel_rfl
 i173:=by kernel_rfl
 i212:=by kernel_rfl
 i232:=by kernel_rfl
 i233:=by kernel_rfl
 m17:=by kernel_rfl
 m18:=by kernel_rfl
 m19:=by kernel_rfl}
def Tryz.Aa:Go.Shelf.Ren:=⟨fun|172=>198|244=>229|245=>230|247=>262|279=>263|280=>264|281=>265|282=>266|287=>288|316=>289|171=>232|205=>290|321=>302|322=>303|243=>267|246=>291|283=>304|284=>305|285=>306|286=>307|129=>253|317=>310|318=>311|319=>312|320=>313|337=>314|338=>315|n=>n,fun|9=>9|3=>3|75=>171|76=>173|4=>4|5=>5|167=>387|37=>167|0=>0|85=>388|2=>2|168=>390|53=>380|175=>413|46=>235|210=>416|127=>236|145=>430|143=>428|21=>21|171=>431|173=>433|212=>437|51=>246|20=>20|213=>438|232=>439|233=>440|80=>176|n=>n,fun|15=>2|16=>3|17=>4|18=>5|19=>6|n=>n⟩
theorem Tryz.tt:Go.Proofs.LaysC.n172 Tryz.prog Tryz.Aa:={
 mixed:=by kernel_rfl
 f129:=Tryz.func253.trans (congrArg some (by kernel_rfl))
 f171:=Tryz.func232.trans (congrArg some (by kernel_rfl))
 f172:=Tryz.func198.trans (congrArg some (by kernel_rfl))
 f205:=Tryz.func290.trans (congrArg some (by kernel_rfl))
 f243:=Tryz.func267.trans (congrArg some (by kernel_rfl))
 f244:=Tryz.func229.trans (congrArg some (by kernel_rfl))
 f245:=Tryz.func230.trans (congrArg some (by kernel_rfl))
 f246:=Tryz.func291.trans (congrArg some (by kernel_rfl))
 f247:=Tryz.func262.trans (congrArg some (by kernel_rfl))
 f279:=Tryz.func263.trans (congrArg some (by kernel_rfl))
 f280:=Tryz.func264.trans (congrArg some (by kernel_rfl))
 f281:=Tryz.func265.trans (congrArg some (by kernel_rfl))
 f282:=Tryz.func266.trans (congrArg some (by kernel_rfl))
 f283:=Tryz.func304.trans (congrArg some (by kernel_rfl))
 f284:=Tryz.func305.trans (congrArg some (by kernel_rfl))
 f285:=Tryz.func306.trans (congrArg some (by kernel_rfl))
 f286:=Tryz.func307.trans (congrArg some (by kernel_rfl))
 f287:=Tryz.func288.trans (congrArg some (by kernel_rfl))
 f316:=Tryz.func289.trans (congrArg some (by kernel_rfl))
 f317:=Tryz.func310.trans (congrArg some (by kernel_rfl))
 f318:=Tryz.func311.trans (congrArg some (by kernel_rfl))
 f319:=Tryz.func312.trans (congrArg some (by kernel_rfl))
 f320:=Tryz.func313.trans (congrArg some (by kernel_rfl))
 f321:=Tryz.func302.trans (congrArg some (by kernel_rfl))
 f322:=Tryz.func303.trans (congrArg some (by kernel_rfl))
 f337:=Tryz.func314.trans (congrArg some (by kernel_rfl))
 f338:=Tryz.func315.trans (congrArg some (by kernel_rfl))
 t0:=Tryz.underlying0
 a0:=Tryz.isAgg0
 z0:=Tryz.sizeOf0
 v0:=Tryz.zeroValue0
 t2:=Tryz.underlying2
 a2:=Tryz.isAgg2
 z2:=Tryz.sizeOf2
 v2:=Tryz.zeroValue2
 t3:=Tryz.underlying3
 a3:=Tryz.isAgg3
 z3:=Tryz.sizeOf3
 v3:=Tryz.zeroValue3
 t4:=Tryz.underlying4
 a4:=Tryz.isAgg4
 z4:=Tryz.sizeOf4
 v4:=Tryz.zeroValue4
 t5:=Tryz.underlying5
 a5:=Tryz.isAgg5
 z5:=Tryz.sizeOf5
 v5:=Tryz.zeroValue5
 t9:=Tryz.underlying9
 a9:=Tryz.isAgg9
 z9:=Tryz.sizeOf9
 v9:=Tryz.zeroValue9
 t20:=Tryz.underlying20
 a20:=Tryz.isAgg20
 z20:=Tryz.sizeOf20
 v20:=Tryz.zeroValue20
 t21:=Tryz.underlying21
 a21:=Tryz.isAgg21
 z21:=Tryz.sizeOf21
 v21:=Tryz.zeroValue21
 t37:=Tryz.underlying167
 a37:=Tryz.isAgg167
 z37:=Tryz.sizeOf167
 v37:=Tryz.zeroValue167
 t46:=Tryz.underlying235
 a46:=Tryz.isAgg235
 z46:=Tryz.sizeOf235
 v46:=Tryz.zeroValue235
 t51:=Tryz.underlying246
 a51:=Tryz.isAgg246
 z51:=Tryz.sizeOf246
 v51:=Tryz.zeroValue246
 t53:=Tryz.underlying380
 a53:=Tryz.isAgg380
 z53:=Tryz.sizeOf380
 v53:=Tryz.zeroValue380
 t75:=Tryz.underlying171
 a75:=Tryz.isAgg171
 z75:=Tryz.sizeOf171
 v75:=Tryz.zeroValue171
 t76:=Tryz.underlying173
 a76:=Tryz.isAgg173
 z76:=Tryz.sizeOf173
 v76:=Tryz.zeroValue173
 t85:=Tryz.underlying388
 a85:=Tryz.isAgg388
 z85:=Tryz.sizeOf388
 v85:=Tryz.zeroValue388
 t127:=Tryz.underlying236
 a127:=Tryz.isAgg236
 z127:=Tryz.sizeOf236
 v127:=Tryz.zeroValue236
 t143:=Tryz.underlying428
 a143:=Tryz.isAgg428
 z143:=Tryz.sizeOf428
 v143:=Tryz.zeroValue428
 t145:=Tryz.underlying430
 a145:=Tryz.isAgg430
 z145:=Tryz.sizeOf430
 v145:=Tryz.zeroValue430
 t167:=Tryz.underlying387
 a167:=Tryz.isAgg387
 z167:=Tryz.sizeOf387
 v167:=Tryz.zeroValue387
 t168:=Tryz.underlying390
 a168:=Tryz.isAgg390
 z168:=Tryz.sizeOf390
 v168:=Tryz.zeroValue390
 t171:=Tryz.underlying431
 a171:=Tryz.isAgg431
 z171:=Tryz.sizeOf431
 v171:=Tryz.zeroValue431
 t173:=Tryz.underlying433
 a173:=Tryz.isAgg433
 z173:=Tryz.sizeOf433
 v173:=Tryz.zeroValue433
 t175:=Tryz.underlying413
 a175:=Tryz.isAgg413
 z175:=Tryz.sizeOf413
 v175:=Tryz.zeroValue413
 t210:=Tryz.underlying416
 a210:=Tryz.isAgg416
 z210:=Tryz.sizeOf416
 v210:=Tryz.zeroValue416
 t212:=Tryz.underlying437
 a212:=Tryz.isAgg437
 z212:=Tryz.sizeOf437
 v212:=Tryz.zeroValue437
 t213:=Tryz.underlying438
 a213:=Tryz.isAgg438
 z213:=Tryz.sizeOf438
 t232:=Tryz.underlying439
 a232:=Tryz.isAgg439
 z232:=Tryz.sizeOf439
 v232:=Tryz.zeroValue439
 t233:=Tryz.underlying440
 a233:=Tryz.isAgg440
 z233:=Tryz.sizeOf440
 v233:=Tryz.zeroValue440
 g15:=by kernel_rfl
 g16:=by kernel_rfl
 g17:=by kernel_rfl
 g18:=by kernel_rfl
 g19:=by kernel_rfl
 t80:=Tryz.underlying176
 a80:=Tryz.isAgg176
 z80:=Tryz.sizeOf176
 v80:=Tryz.zeroValue176
 i0:=by kernel_rfl
 i2:=by kernel_rfl
 i3:=by kernel_rfl
 i4:=by kernel_rfl
 i5:=by kernel_rfl
 i9:=by kernel_rfl
 i20:=by kernel_rfl
 i21:=by kernel_rfl
 i37:=by kernel_rfl
 i46:=by kernel_rfl
 i51:=by kernel_rfl
 i53:=by kernel_rfl
 i75:=by kernel_rfl
 i76:=by kernel_rfl
 i80:=by kernel_rfl
 i85:=by kernel_rfl
 i127:=by kernel_rfl
 i143:=by kernel_rfl
 i145:=by kernel_rfl
 i167:=by kernel_rfl
 i168:=by kernel_rfl
 i171:=by kernel_rfl
 i173:=by kernel_rfl
 i175:=by kernel_rfl
 i210:=by kernel_rfl
 i212:=by kernel_rfl
 i232:=by kernel_rfl
 i233:=by kernel_rfl
 m15:=by kernel_rfl
 m16:=by kernel_rfl
 m17:=by kernel_rfl
 m18:=by kernel_rfl
 m19:=by kernel_rfl
 c0:=by kernel_rfl
 c2:=by kernel_rfl
 c3:=by kernel_rfl
 c4:=by kernel_rfl
 c5:=by kernel_rfl
 c9:=by kernel_rfl
 c20:=by kernel_rfl
 c21:=by kernel_rfl
 c37:=by kernel_rfl
 c46:=by kernel_rfl
 c51:=by kernel_rfl
 c53:=by kernel_rfl
 c75:=by kernel_rfl
 c76:=by kernel_rfl
 c80:=by kernel_rfl
 c85:=by kernel_rfl
 c127:=by kernel_rfl
 c143:=by kernel_rfl
 c145:=by kernel_rfl
 c167:=by kernel_rfl
 c168:=by kernel_rfl
 c171:=by kernel_rfl
 c173:=by kernel_rfl
 c175:=by kernel_rfl
 c210:=by kernel_rfl
 c212:=by kernel_rfl
 c213:=by kernel_rfl
 c232:=by kernel_rfl
 c233:=by kernel_rfl}
open Go.RowKit in
theorem Tryz.strconv_Atoi_ok (s:ByteArray) (hmax:s.size<=9223372036854775806) (v:Int) (h:Lib.atoiAll s.data.toList=.ok v) (w:World) :
 Calls Tryz.prog 198 #[.string s] w fun e w'=>e=.returned (.tuple #[.int .i64 v,.nilIface])/\(w'=w\/∃t,w'=Lib.bytesWorld w 5 t):=Any.strconv_Atoi_ok Tryz.tt s hmax v h w
open Go.RowKit in
theorem Tryz.strconv_Atoi_range (s:ByteArray) (hlim:s.size<=281474976710656) (h:Lib.atoiAll s.data.toList=.range) (ev:Value) (w:World) (hv:w.cell? ⟨3,0,none⟩=some ev) (hev:ev=.nilIface\/∃te pe,ev=.iface te pe) :
 Calls Tryz.prog 198 #[.string s] w fun e w'=>∃N,e=.returned (.tuple #[.int .i64 (Lib.atoiSat s.data.toList),.iface 390 (.pointer (some ⟨N,0,none⟩))])/\w.heap.size<=N/\w'.heap[N]?=some (.cells #[.string ⟨#[65,116,111,105]⟩,.string s,ev] 416 (0,0))/\Below w.heap.size w w':=Any.strconv_Atoi_range Tryz.tt s hlim h ev w hv hev
def Tryz.D4:Go.Shelf.Ren:=⟨fun|99=>223|206=>256|n=>n,fun|9=>9|4=>4|3=>3|n=>n,fun|n=>n⟩
theorem Tryz.Ky:Go.Proofs.Lays.n99 Tryz.prog Tryz.D4:={
 mixed:=by kernel_rfl
 f99:=Tryz.func223.trans (congrArg some (by kernel_rfl))
 f206:=Tryz.func256.trans (congrArg some (by kernel_rfl))
 t3:=Tryz.underlying3
 a3:=Tryz.isAgg3
 z3:=Tryz.sizeOf3
 v3:=Tryz.zeroValue3
 t4:=Tryz.underlying4
 a4:=Tryz.isAgg4
 z4:=Tryz.sizeOf4
 v4:=Tryz.zeroValue4
 t9:=Tryz.underlying9
 a9:=Tryz.isAgg9
 z9:=Tryz.sizeOf9
 v9:=Tryz.zeroValue9}
open Go.RowKit Go.Lib in
theorem Tryz.strings_HasPrefix (s p:ByteArray) (w:World) :
 Calls Tryz.prog 223 #[.string s,.string p] w fun e w'=>e=.returned (.bool (Lib.hasPrefix s.data.toList p.data.toList))/\w'=w:=Any.strings_HasPrefix Tryz.Ky s p w
def Tryz.BR:Go.Shelf.Ren:=⟨fun|101=>199|208=>231|206=>256|n=>n,fun|9=>9|4=>4|3=>3|n=>n,fun|n=>n⟩
theorem Tryz.JA:Go.Proofs.Lays.n101 Tryz.prog Tryz.BR:={
 mixed:=by kernel_rfl
 f101:=Tryz.func199.trans (congrArg some (by kernel_rfl))
 f206:=Tryz.func256.trans (congrArg some (by kernel_rfl))
 f208:=Tryz.func231.trans (congrArg some (by kernel_rfl))
 t3:=Tryz.underlying3
 a3:=Tryz.isAgg3
 z3:=Tryz.sizeOf3
 v3:=Tryz.zeroValue3
 t4:=Tryz.underlying4
 a4:=Tryz.isAgg4
 z4:=Tryz.sizeOf4
 v4:=Tryz.zeroValue4
 t9:=Tryz.underlying9
 a9:=Tryz.isAgg9
 z9:=Tryz.sizeOf9
 v9:=Tryz.zeroValue9}
open Go.RowKit Go.Lib in
theorem Tryz.strings_TrimPrefix (s p:ByteArray) (w:World) :
 Calls Tryz.prog 199 #[.string s,.string p] w fun e w'=>e=.returned (.string ⟨(Lib.trimPrefix s.data.toList p.data.toList).toArray⟩)/\w'=w:=Any.strings_TrimPrefix Tryz.JA s p w
def Tryz.BP:Go.Shelf.Ren:=⟨fun|197=>220|260=>254|n=>n,fun|9=>9|21=>21|3=>3|4=>4|5=>5|105=>353|119=>402|0=>0|46=>235|139=>405|138=>404|n=>n,fun|3=>0|4=>1|n=>n⟩
theorem Tryz.Jw:Go.Proofs.Lays.n197 Tryz.prog Tryz.BP:={
 mixed:=by kernel_rfl
 f197:=Tryz.func220.trans (congrArg some (by kernel_rfl))
 f260:=Tryz.func254.trans (congrArg some (by kernel_rfl))
 t0:=Tryz.underlying0
 a0:=Tryz.isAgg0
 z0:=Tryz.sizeOf0
 v0:=Tryz.zeroValue0
 t3:=Tryz.underlying3
 a3:=Tryz.isAgg3
 z3:=Tryz.sizeOf3
 v3:=Tryz.zeroValue3
 t4:=Tryz.underlying4
 a4:=Tryz.isAgg4
 z4:=Tryz.sizeOf4
 v4:=Tryz.zeroValue4
 t5:=Tryz.underlying5
 a5:=Tryz.isAgg5
 z5:=Tryz.sizeOf5
 v5:=Tryz.zeroValue5
 t9:=Tryz.underlying9
 a9:=Tryz.isAgg9
 z9:=Tryz.sizeOf9
 v9:=Tryz.zeroValue9
 t21:=Tryz.underlying21
 a21:=Tryz.isAgg21
 z21:=Tryz.sizeOf21
 v21:=Tryz.zeroValue21
 t46:=Tryz.underlying235
 a46:=Tryz.isAgg235
 z46:=Tryz.sizeOf235
 v46:=Tryz.zeroValue235
 t105:=Tryz.underlying353
 a105:=Tryz.isAgg353
 z105:=Tryz.sizeOf353
 v105:=Tryz.zeroValue353
 t119:=Tryz.underlying402
 a119:=Tryz.isAgg402
 z119:=Tryz.sizeOf402
 t138:=Tryz.underlying404
 a138:=Tryz.isAgg404
 z138:=Tryz.sizeOf404
 v138:=Tryz.zeroValue404
 t139:=Tryz.underlying405
 a139:=Tryz.isAgg405
 z139:=Tryz.sizeOf405
 v139:=Tryz.zeroValue405
 g3:=by kernel_rfl
 g4:=by kernel_rfl}
def Tryz.BN:Go.Shelf.Ren:=⟨fun|260=>254|n=>n,fun|9=>9|21=>21|3=>3|4=>4|5=>5|119=>402|0=>0|46=>235|139=>405|138=>404|n=>n,fun|3=>0|4=>1|n=>n⟩
theorem Tryz.Jv:Go.Proofs.Lays.n260 Tryz.prog Tryz.BN:={
 mixed:=by kernel_rfl
 f260:=Tryz.func254.trans (congrArg some (by kernel_rfl))
 t0:=Tryz.underlying0
 a0:=Tryz.isAgg0
 z0:=Tryz.sizeOf0
 v0:=Tryz.zeroValue0
 t3:=Tryz.underlying3
 a3:=Tryz.isAgg3
 z3:=Tryz.sizeOf3
 v3:=Tryz.zeroValue3
 t4:=Tryz.underlying4
 a4:=Tryz.isAgg4
 z4:=Tryz.sizeOf4
 v4:=Tryz.zeroValue4
 t5:=Tryz.underlying5
 a5:=Tryz.isAgg5
 z5:=Tryz.sizeOf5
 v5:=Tryz.zeroValue5
 t9:=Tryz.underlying9
 a9:=Tryz.isAgg9
 z9:=Tryz.sizeOf9
 v9:=Tryz.zeroValue9
 t21:=Tryz.underlying21
 a21:=Tryz.isAgg21
 z21:=Tryz.sizeOf21
 v21:=Tryz.zeroValue21
 t46:=Tryz.underlying235
 a46:=Tryz.isAgg235
 z46:=Tryz.sizeOf235
 v46:=Tryz.zeroValue235
 t119:=Tryz.underlying402
 a119:=Tryz.isAgg402
 z119:=Tryz.sizeOf402
 t138:=Tryz.underlying404
 a138:=Tryz.isAgg404
 z138:=Tryz.sizeOf404
 v138:=Tryz.zeroValue404
 t139:=Tryz.underlying405
 a139:=Tryz.isAgg405
 z139:=Tryz.sizeOf405
 v139:=Tryz.zeroValue405
 g3:=by kernel_rfl
 g4:=by kernel_rfl}
open Go.RowKit Go.Lib in
theorem Tryz.utf8_DecodeRuneInString (s:ByteArray) (w:World) (hT:Lib.Utf8Tabs 0 1 w) :
 Calls Tryz.prog 220 #[.string s] w fun e w'=>e=.returned (.tuple #[.int .i32 (Lib.decodeGo s).1,.int .i64 (Lib.decodeGo s).2])/\Below w.heap.size w w':=Any.utf8_DecodeRuneInString Tryz.Jw s w hT
end Go.Proofs
namespace Go.Proofs.YtmgmknmaepjnoaaGreatDoor
open Go.RowKit Go.Shelf Proofs.Tryz
def fP (B b:Nat) (l:List UInt8) (w:World):Prop:=Lib.IsBuilderF 169 5 B b (Lib.byteCells l) w
theorem AD:(prog.info? 169).map (·.size)=some 2:=by kernel_rfl
theorem ID:liesAt prog prog.depth 169 (2 / prog.cellsOf 169) 0 169 1=true:=by kernel_rfl
theorem rE:(prog.info? 5).map (fun i=>(i.zero,i.size,i.bytes))=some (some (.int .u8 0),1,1):=by kernel_rfl
set_option maxRecDepth 100000 in
theorem vT (b:Nat) (w:World) (h0:w.cell? ⟨b,0,none⟩=some (.pointer (some ⟨b,0,none⟩))) :
 Calls prog 135 #[.pointer (some ⟨b,0,none⟩)] w fun e w'=>e=.returned (.tuple #[])/\w'=w:=by
 obtain⟨j,hj,_⟩:=Option.map_eq_some_iff.1 AD;go_enter func135,ntmps135;go_wp2;rw[Lib.run_neq_ptr_same w _ underlying166 hj];go_wp2;go_end0;exact⟨rfl,rfl⟩
set_option maxRecDepth 100000 in
theorem uX (b:Nat) (w:World) (h0:w.cell? ⟨b,0,none⟩=some (.pointer none)) (hsh:w.shape? b=some (169,2)) (hfz:w.frozen? ⟨b,0,none⟩=false) :
 Calls prog 135 #[.pointer (some ⟨b,0,none⟩)] w fun e w'=>e=.returned (.tuple #[])/\w'=w.setCell ⟨b,0,none⟩ (.pointer (some ⟨b,0,none⟩)):=by
 obtain⟨j,hj,hjs⟩:=Option.map_eq_some_iff.1 AD;go_enter func135,ntmps135;go_wp2;rw[Lib.run_to_unsafe w ⟨b,0,none⟩ underlying166 underlying302 hj (by rw[hjs];decide) hsh (Nat.zero_lt_succ 1)];simp only[Result.andThen];rw[Oper.upon_value];go_wp2;rw[run_callFunc_extern func186 (by kernel_rfl) (by kernel_rfl) (by kernel_rfl) (e:=Extern.AbiNoEscape.same) (by kernel_rfl)];rw[Lib.run_noEscape];simp only[Result.andThen];rw[Oper.upon_value];go_wp2;rw[Lib.run_from_unsafe w ⟨b,0,none⟩ underlying302 underlying166 hj hsh ID];simp only[Result.andThen];rw[Oper.upon_value];go_wp2;go_end0;exact⟨rfl,rfl⟩
theorem sP (B b:Nat) (bs:List Value) (w:World) (h:Lib.IsBuilderF 169 5 B b bs w) :
 Calls prog 135 #[.pointer (some ⟨b,0,none⟩)] w fun e w'=>e=.returned (.tuple #[])/\(Lib.BuilderAtF 169 5 B b (.pointer (some ⟨b,0,none⟩)) bs w'/\Below B w w'/\Lib.OthersKept 5 (some b) w w'):=by
 rcases h with h|h
 ·refine(uX b w h.cell0 h.shape h.frozen0).mono ?_;rintro e w' ⟨rfl,rfl⟩;exact⟨rfl,h.used _,(ae B w).setCell (p:=⟨b,0,none⟩) h.1 _,(Lib.OthersKept.refl _ _ w).setCell ⟨b,0,none⟩ rfl _⟩
 ·refine(vT b w h.cell0).mono ?_;rintro e w' ⟨rfl,rfl⟩;exact⟨rfl,h,ae B _,Lib.OthersKept.refl _ _ _⟩
set_option maxHeartbeats 2000000 in
set_option maxRecDepth 100000 in
theorem xG (B b:Nat) (bs:List Value) (s:ByteArray) (w:World) (h:Lib.IsBuilderF 169 5 B b bs w) (hlen:bs.length+s.size<=140737488355328) (hBw:B<=w.heap.size) :
 Calls prog 83 #[.pointer (some ⟨b,0,none⟩),.string s] w fun e w'=>e=.returned (.tuple #[.int .i64 s.size,.nilIface])/\(Lib.BuilderAtF 169 5 B b (.pointer (some ⟨b,0,none⟩)) (bs++Lib.strCells s) w'/\Below B w w'/\Lib.OthersKept 5 (some b) w w'):=by
 obtain⟨i0,hi,hz0,hz1,hz2⟩:=info_parts rE;go_enter func83,ntmps83;go_wp2_with (go_at_call 135;refine(sP B b bs _ h).mono ?_);rintro e w1 ⟨rfl,h1,hb1,hk1⟩;obtain⟨hB,v,hbk,hown,hne⟩:=h1;have c0:w1.cell? ⟨b,0,none⟩=some (.pointer (some ⟨b,0,none⟩)):=aq hbk rfl;have c1:w1.cell? ⟨b,1,none⟩=some v:=aq hbk rfl;go_wp2_with (at_builtin;refine Lib.wpList_append_own_stringF _ rfl _ _ 167 9 rfl B 5 i0 underlying167 underlying9 hi hz0 hz1 hz2 _ _ _ rfl hown s rfl ?c3 ?c4 ?c5 ?_)
 case c3=>unfold maxLen;omega
 case c4=>omega
 case c5=>have:=hb1.size;omega
 intro v' w2 hown' hgrow _;have hlt:b<w1.heap.size:=by
  rcases Nat.lt_or_ge b w1.heap.size with h'|h'
  ·exact h'
  ·simp[Array.getElem?_eq_none h']at hbk
 have hb2:w2.heap[b]?=some (.cells #[.pointer (some ⟨b,0,none⟩),v] 169 (0,0)):=by
  rw[hgrow.block b hlt (fun e=>hne e.symm)];exact hbk
 have d0:w2.cell? ⟨b,0,none⟩=some (.pointer (some ⟨b,0,none⟩)):=aq hb2 rfl;have d1:w2.cell? ⟨b,1,none⟩=some v:=aq hb2 rfl;have f1:w2.frozen? ⟨b,1,none⟩=false:=ay hb2 1;obtain⟨ao,n',cap,rfl⟩:∃ao n' cap,v'=.slice ao n' cap:=by
  rcases hown'.2 with⟨hv,_⟩|⟨g,cap,cur,fz,hv,_⟩
  ·exact⟨_,_,_,hv⟩
  ·exact⟨_,_,_,hv⟩
 go_wp2
 go_ret2
 refine⟨rfl,?_,?_,(hk1.grown hgrow (Lib.ownsRowF_kind hown)).setCell ⟨b,1,none⟩ rfl _⟩
 ·exact Lib.BuilderAtF.put (T:=169) (e:=5) hB hb2 (bs':=bs++Lib.strCells s) (by simpa[Lib.strCells_length]using hown') (by decide)
 ·exact(hb1.grown hgrow (by have:=hb1.size;omega) (fun k hk=>(hown.lt k hk).1)).setCell (p:=⟨b,1,none⟩) hB _
theorem iK (w:World):fP w.heap.size w.heap.size [] (w.alloc (.cells #[.pointer none,.slice none 0 0] 169)):=Lib.IsBuilderF.of (Lib.fresh_isBuilder _ _ w)
theorem writeString (B b:Nat) (l:List UInt8) (s:ByteArray) (w:World) (h:fP B b l w) (hlen:l.length+s.size<=140737488355328) (hBw:B<=w.heap.size) :
 Calls prog 83 #[.pointer (some ⟨b,0,none⟩),.string s] w fun e w'=>e=.returned (.tuple #[.int .i64 s.size,.nilIface])/\fP B b (l++s.data.toList) w'/\Below B w w'/\Lib.OthersKept 5 (some b) w w':=by
 refine(xG B b _ _ w h (by rw[Lib.byteCells_length];omega) hBw).mono ?_;rintro e w' ⟨rfl,h1,h2,h3⟩;exact⟨rfl,.inr (by rw[Lib.byteCells_append];exact h1),h2,h3⟩
theorem iL (B b:Nat) (l:List UInt8) (w:World) (h:fP B b l w) (hBw:B<=w.heap.size) :
 Calls prog 85 #[.pointer (some ⟨b,0,none⟩)] w fun e w'=>e=.returned (.string ⟨l.toArray⟩)/\Below B w w':=by
 refine(Tryz.Builder_String_any_k B b l w h hBw).mono ?_;rintro e w' ⟨rfl,_,h2,_⟩;exact⟨rfl,h2⟩
namespace Txt
open Go.Lib (decodeN encodeRune encodeRuneZ)
def tok (l:List UInt8):Int×Nat :=
 let d:=decodeN l.length (l.getD 0 0).toNat (l.getD 1 0).toNat (l.getD 2 0).toNat (l.getD 3 0).toNat
 if d.1=65533/\d.2=1 then (-1,1) else ((d.1:Int),d.2)
def oM:Nat->List UInt8->List (Int×List UInt8)
 |0,_=>[]
 |_+1,[]=>[]
 |f+1,b::l=>((tok (b::l)).1,(b::l).take (tok (b::l)).2)::oM f ((b::l).drop (tok (b::l)).2)
def iw (l:List UInt8):List (Int×List UInt8):=oM l.length l
theorem IV (b:UInt8):b.toNat<256:=b.toNat_lt
theorem K6 {a b:UInt8} (h:a.toNat=b.toNat):a=b:=UInt8.toNat_inj.1 h
theorem qm (b:UInt8) (l:List UInt8) :
 (tok (b::l)=(-1,1)/\128<=b.toNat) \/
 (tok (b::l)=((b.toNat:Int),1)/\b.toNat<128) \/
 (∃b1 t,l=b1::t/\192<=b.toNat/\b.toNat<224/\b1.toNat / 64=2/\128<=b.toNat % 32*64+b1.toNat % 64 /\
  tok (b::l)=(((b.toNat % 32*64+b1.toNat % 64:Nat):Int),2)) \/
 (∃b1 b2 t,l=b1::b2::t/\224<=b.toNat/\b.toNat<240/\b1.toNat / 64=2/\b2.toNat / 64=2 /\
  2048<=b.toNat % 16*4096+b1.toNat % 64*64+b2.toNat % 64 /\
  (b.toNat % 16*4096+b1.toNat % 64*64+b2.toNat % 64<55296\/57344<=b.toNat % 16*4096+b1.toNat % 64*64+b2.toNat % 64) /\
  tok (b::l)=(((b.toNat % 16*4096+b1.toNat % 64*64+b2.toNat % 64:Nat):Int),3)) \/
 (∃b1 b2 b3 t,l=b1::b2::b3::t/\240<=b.toNat/\b.toNat<248/\b1.toNat / 64=2/\b2.toNat / 64=2/\b3.toNat / 64=2 /\
  65536<=b.toNat % 8*262144+b1.toNat % 64*4096+b2.toNat % 64*64+b3.toNat % 64 /\
  b.toNat % 8*262144+b1.toNat % 64*4096+b2.toNat % 64*64+b3.toNat % 64<=1114111 /\
  tok (b::l)=(((b.toNat % 8*262144+b1.toNat % 64*4096+b2.toNat % 64*64+b3.toNat % 64:Nat):Int),4)):=by
 have hb:=IV b;by_cases h0:b.toNat<128
 ·refine .inr (.inl ⟨?_,h0⟩);have:b.toNat≠65533:=by omega
  simp[tok,decodeN,h0,this]
 by_cases h2:b.toNat / 32=6/\(1<(b::l).length/\((b::l).getD 1 0).toNat / 64=2)/\b.toNat % 32*64+((b::l).getD 1 0).toNat % 64>=128
 ·obtain⟨e1,⟨e2,e3⟩,e4⟩:=h2
  match l,e2,e3,e4 with
  |b1::t,_,e3,e4 =>
   simp only[List.getD_cons_succ,List.getD_cons_zero]at e3 e4;refine .inr (.inr (.inl ⟨b1,t,rfl,by omega,by omega,e3,e4,?_⟩));have hne:¬(b.toNat % 32*64+b1.toNat % 64=65533):=by omega
   simp[tok,decodeN,h0,e1,e3,e4,hne]
 by_cases h3:b.toNat / 16=14/\(1<(b::l).length/\((b::l).getD 1 0).toNat / 64=2)/\(2<(b::l).length/\((b::l).getD 2 0).toNat / 64=2)/\b.toNat % 16*4096+((b::l).getD 1 0).toNat % 64*64+((b::l).getD 2 0).toNat % 64>=2048/\(b.toNat % 16*4096+((b::l).getD 1 0).toNat % 64*64+((b::l).getD 2 0).toNat % 64<55296\/(57344<=b.toNat % 16*4096+((b::l).getD 1 0).toNat % 64*64+((b::l).getD 2 0).toNat % 64))
 ·obtain⟨e1,⟨e2,e3⟩,⟨e4,e5⟩,e6,e7⟩:=h3
  match l,e2,e3,e4,e5,e6,e7 with
  |b1::b2::t,_,e3,_,e5,e6,e7 =>
   simp only[List.getD_cons_succ,List.getD_cons_zero]at e3 e5 e6 e7;refine .inr (.inr (.inr (.inl ⟨b1,b2,t,rfl,by omega,by omega,e3,e5,e6,e7,?_⟩)));have e0:¬b.toNat / 32=6:=by omega
   have e8:b.toNat % 16*4096+b1.toNat % 64*64+b2.toNat % 64<=1114111:=by omega
   simp[tok,decodeN,h0,e0,e1,e3,e5,e6,e7,e8]
 by_cases h4:b.toNat / 8=30/\(1<(b::l).length/\((b::l).getD 1 0).toNat / 64=2)/\(2<(b::l).length/\((b::l).getD 2 0).toNat / 64=2)/\(3<(b::l).length/\((b::l).getD 3 0).toNat / 64=2)/\b.toNat % 8*262144+((b::l).getD 1 0).toNat % 64*4096+((b::l).getD 2 0).toNat % 64*64+((b::l).getD 3 0).toNat % 64>=65536/\b.toNat % 8*262144+((b::l).getD 1 0).toNat % 64*4096+((b::l).getD 2 0).toNat % 64*64+((b::l).getD 3 0).toNat % 64<=1114111
 ·obtain⟨e1,⟨e2,e3⟩,⟨e4,e5⟩,⟨e6,e7⟩,e8,e9⟩:=h4;rcases l with _|⟨b1,_|⟨b2,_|⟨b3,t⟩⟩⟩
  ·simp at e2
  ·simp at e4
  ·simp at e6
  ·simp only[List.getD_cons_succ,List.getD_cons_zero]at e3 e5 e7 e8 e9;clear h2 h3 e2 e4 e6;refine .inr (.inr (.inr (.inr ⟨b1,b2,b3,t,rfl,by omega,by omega,e3,e5,e7,e8,e9,?_⟩)));have e0:¬b.toNat / 32=6:=by omega
   have e0':¬b.toNat / 16=14:=by omega
   have ea:b.toNat % 8*262144+b1.toNat % 64*4096+b2.toNat % 64*64+b3.toNat % 64<55296\/57344<=b.toNat % 8*262144+b1.toNat % 64*4096+b2.toNat % 64*64+b3.toNat % 64:=by omega
   simp[tok,decodeN,h0,e0,e0',e1,e3,e5,e7,e8,e9,ea]
 ·refine .inl ⟨?_,by omega⟩;have e:decodeN (b::l).length ((b::l).getD 0 0).toNat ((b::l).getD 1 0).toNat ((b::l).getD 2 0).toNat ((b::l).getD 3 0).toNat=(65533,1):=by
   simp only[decodeN,List.getD_cons_zero,if_neg h0];split
   ·rename_i g;rw[if_neg (fun g'=>h2 ⟨g.1,g.2,g'⟩)]
   ·split
    ·rename_i g;rw[if_neg (fun g'=>h3 ⟨g.1,g.2.1,g.2.2,g'.1,by omega⟩)]
    ·split
     ·rename_i g;rw[if_neg (fun g'=>h4 ⟨g.1,g.2.1,g.2.2.1,g.2.2.2,g'.1,by omega⟩)]
     ·rfl
  simp only[tok,e];simp
theorem lJ (b:UInt8) (l:List UInt8):1<=(tok (b::l)).2/\(tok (b::l)).2<=4/\(tok (b::l)).2<=(b::l).length:=by
 rcases qm b l with⟨h,_⟩|⟨h,_⟩|⟨b1,t,rfl,_,_,_,_,h⟩|⟨b1,b2,t,rfl,_,_,_,_,_,_,h⟩|⟨b1,b2,b3,t,rfl,_,_,_,_,_,_,_,h⟩ <;> simp[h] <;> omega
theorem tM:∀(f g:Nat) (l:List UInt8),l.length<=f->l.length<=g->oM f l=oM g l
 |0,g,l,h,_=>by
  have:l=[]:=aP (by omega);subst this;cases g <;> rfl
 |f+1,0,l,_,h=>by
  have:l=[]:=aP (by omega);subst this;rfl
 |f+1,g+1,[],_,_=>rfl
 |f+1,g+1,b::l,hf,hg=>by
  have hw:=lJ b l;simp only[oM];rw[tM f g]
  ·simp only[List.length_drop,List.length_cons]at *;omega
  ·simp only[List.length_drop,List.length_cons]at *;omega
theorem jh:iw []=[]:=rfl
theorem nk (b:UInt8) (l:List UInt8) :
 iw (b::l)=((tok (b::l)).1,(b::l).take (tok (b::l)).2)::iw ((b::l).drop (tok (b::l)).2):=by
 have hw:=lJ b l;show oM (l.length+1) (b::l)=_;simp only[oM,iw];rw[tM l.length]
 ·simp only[List.length_drop,List.length_cons];omega
 ·omega
theorem tL:∀(n:Nat) (l:List UInt8),l.length<=n->(iw l).flatMap (·.2)=l
 |0,l,h=>by
  have:l=[]:=aP (by omega);subst this;rfl
 |n+1,[],_=>rfl
 |n+1,b::l,h=>by
  have hw:=lJ b l;rw[nk,List.flatMap_cons,tL n]
  ·exact List.take_append_drop _ _
  ·simp only[List.length_drop,List.length_cons]at *;omega
theorem EY (l:List UInt8):(iw l).flatMap (·.2)=l:=tL l.length l ab
def Shape (t:Int×List UInt8):Prop :=
 (t.1 = -1/\∃b:UInt8,t.2=[b]/\128<=b.toNat) \/
 (0<=t.1/\t.1<128/\t.2=[t.1.toNat.toUInt8]) \/
 (128<=t.1/\t.1<=1114111/\t.2=encodeRune t.1/\2<=t.2.length/\t.2.length<=4/\∀b∈t.2,128<=b.toNat)
theorem jt (b:UInt8) (n:Nat) (h:b.toNat=n):n.toUInt8=b:=by
 apply K6;subst h;simp
theorem my (b:UInt8) (h:b.toNat / 64=2):b.toNat=128+b.toNat % 64:=by omega
theorem vC (n:Nat):n % 64<64:=Nat.mod_lt _ (by decide)
theorem oR (v:Nat) (l:List UInt8) (n:Nat) (h1:128<=v) (h2:v<=1114111) (he:encodeRune (v:Int)=l.take n) (h3:2<=(l.take n).length) (h4:(l.take n).length<=4)
 (h5:∀b∈l.take n,128<=b.toNat):Shape ((v:Int),l.take n) :=
 .inr (.inr ⟨by show(128:Int)<=v;omega,by show(v:Int)<=1114111;omega,he.symm,h3,h4,h5⟩)
theorem wI (b:UInt8) (l:List UInt8):Shape ((tok (b::l)).1,(b::l).take (tok (b::l)).2):=by
 have hb:=IV b;rcases qm b l with⟨h,h1⟩|⟨h,h1⟩|⟨b1,t,rfl,h1,h2,h3,h4,h⟩|⟨b1,b2,t,rfl,h1,h2,h3,h4,h5,h6,h⟩|⟨b1,b2,b3,t,rfl,h1,h2,h3,h4,h5,h6,h7,h⟩
 ·exact .inl ⟨by rw[h],b,by rw[h];rfl,h1⟩
 ·exact .inr (.inl ⟨by rw[h];simp,by rw[h];simp;omega,by rw[h];simp⟩)
 ·have c1:=my b1 h3;have eb:b.toNat=192+b.toNat % 32:=by omega
  have l1:=vC b1.toNat;have hx:b.toNat % 32<32:=Nat.mod_lt _ (by decide);rw[h];clear h;generalize b.toNat % 32=x at *;generalize b1.toNat % 64=y at *;obtain⟨v,hv⟩:∃v,v=x*64+y:=⟨_,rfl⟩;rw[<-hv]at h4 ⊢;have eA:(192+(v:Int) / 64).toNat=b.toNat:=by omega
  have eB:(128+(v:Int) % 64).toNat=b1.toNat:=by omega
  refine oR v _ _ h4 (by omega) ?_ (by simp) (by simp) ?_
  ·rw[encodeRune,Go.Lib.encodeRuneZ_two (by omega) (by omega)];simp only[List.map_cons,List.map_nil,eA,eB,jt b _ rfl,jt b1 _ rfl,List.take_succ_cons,List.take_zero]
  ·simp only[List.take_succ_cons,List.take_zero,List.mem_cons,List.not_mem_nil,or_false,forall_eq_or_imp,forall_eq];clear eA eB;exact⟨by omega,by omega⟩
 ·have c1:=my b1 h3;have c2:=my b2 h4;have eb:b.toNat=224+b.toNat % 16:=by omega
  have hx:b.toNat % 16<16:=Nat.mod_lt _ (by decide);have l1:=vC b1.toNat;have l2:=vC b2.toNat;rw[h];clear h;generalize b.toNat % 16=x at *;generalize b1.toNat % 64=y at *;generalize b2.toNat % 64=z at *;obtain⟨v,hv⟩:∃v,v=x*4096+y*64+z:=⟨_,rfl⟩;rw[<-hv]at h5 h6 ⊢;have eA:(224+(v:Int) / 4096).toNat=b.toNat:=by omega
  have eB:(128+(v:Int) / 64 % 64).toNat=b1.toNat:=by omega
  have eC:(128+(v:Int) % 64).toNat=b2.toNat:=by omega
  refine oR v _ _ (Nat.le_trans (by decide) h5) (by omega) ?_ (by simp) (by simp) ?_
  ·rw[encodeRune,Go.Lib.encodeRuneZ_three (by omega)];simp only[List.map_cons,List.map_nil,eA,eB,eC,jt b _ rfl,jt b1 _ rfl,jt b2 _ rfl,List.take_succ_cons,List.take_zero]
  ·simp only[List.take_succ_cons,List.take_zero,List.mem_cons,List.not_mem_nil,or_false,forall_eq_or_imp,forall_eq];clear eA eB eC h5 h6 hv;exact⟨by omega,by omega,by omega⟩
 ·have c1:=my b1 h3;have c2:=my b2 h4;have c3:=my b3 h5;have eb:b.toNat=240+b.toNat % 8:=by omega
  have l1:=vC b1.toNat;have l2:=vC b2.toNat;have l3:=vC b3.toNat;rw[h];clear h;generalize b.toNat % 8=x at *;generalize b1.toNat % 64=y at *;generalize b2.toNat % 64=z at *;generalize b3.toNat % 64=u at *;obtain⟨v,hv⟩:∃v,v=x*262144+y*4096+z*64+u:=⟨_,rfl⟩;rw[<-hv]at h6 h7 ⊢;have eA:(240+(v:Int) / 262144).toNat=b.toNat:=by omega
  have eB:(128+(v:Int) / 4096 % 64).toNat=b1.toNat:=by omega
  have eC:(128+(v:Int) / 64 % 64).toNat=b2.toNat:=by omega
  have eD:(128+(v:Int) % 64).toNat=b3.toNat:=by omega
  refine oR v _ _ (Nat.le_trans (by decide) h6) h7 ?_ (by simp) (by simp) ?_
  ·rw[encodeRune,Go.Lib.encodeRuneZ_four (by omega) (by omega)];simp only[List.map_cons,List.map_nil,eA,eB,eC,eD,jt b _ rfl,jt b1 _ rfl,jt b2 _ rfl,jt b3 _ rfl,List.take_succ_cons,List.take_zero]
  ·simp only[List.take_succ_cons,List.take_zero,List.mem_cons,List.not_mem_nil,or_false,forall_eq_or_imp,forall_eq];clear eA eB eC eD h6 h7 hv;exact⟨by omega,by omega,by omega,by omega⟩
theorem tK:∀(n:Nat) (l:List UInt8),l.length<=n->∀t∈iw l,Shape t
 |0,l,h=>by
  have:l=[]:=aP (by omega);subst this;intro t ht;cases ht
 |n+1,[],_=>by intro t ht;cases ht
 |n+1,b::l,h=>by
  have hw:=lJ b l;rw[nk];intro t ht;rcases List.mem_cons.1 ht with rfl|ht
  ·exact wI b l
  ·exact tK n _ (by simp only[List.length_drop,List.length_cons]at *;omega) t ht
theorem G3 (l:List UInt8):∀t∈iw l,Shape t:=tK l.length l ab
theorem iM (c:UInt8) (l:List UInt8) (h:c.toNat<128):iw (c::l)=((c.toNat:Int),[c])::iw l:=by
 rw[nk];rcases qm c l with⟨e,h1⟩|⟨e,h1⟩|⟨b1,t,rfl,h1,_⟩|⟨b1,b2,t,rfl,h1,_⟩|⟨b1,b2,b3,t,rfl,h1,_⟩
 ·omega
 ·rw[e];simp
 ·omega
 ·omega
 ·omega
def named (r:Int):Bool :=
 decide (97<=r/\r<=122)||decide (65<=r/\r<=90)||decide (48<=r/\r<=57)||r==45||r==95||r==46||decide (160<=r)
def name (l:List UInt8):Bool:=decide (1<=(iw l).length)&&decide ((iw l).length<=32)&&(iw l).all fun t=>named t.1
def inner (dg:UInt8->Option Nat):List UInt8->Option (List UInt8)
 |[]=>some []
 |c::t =>
  if c≠92 then (inner dg t).map (c::·)
  else match t with
   |[]=>none
   |d::t =>
    if d=34\/d=92 then (inner dg t).map (d::·)
    else if d=110 then (inner dg t).map (10::·)
    else if d=120 then
     match t with
     |a::b::t =>
      match dg a,dg b with
      |some x,some y=>(inner dg t).map ((16*x+y).toUInt8::·)
      |_,_=>none
     |_=>none
    else none
end Txt
namespace Num
def put (n:Nat):List UInt8:=if h:n<128 then [n.toUInt8] else (n % 128+128).toUInt8::put (n / 128)
termination_by n
decreasing_by omega
theorem km (n:Nat) (h:n<128):put n=[n.toUInt8]:=by rw[put,dif_pos h]
theorem qJ (n:Nat) (h:¬n<128):put n=(n % 128+128).toUInt8::put (n / 128):=by rw[put,dif_neg h]
def held (n:Int):Nat:=if n<=0 then 0 else if n<=1099511627776 then n.toNat else 1099511627776
theorem cB (n:Int):held n<=1099511627776:=by unfold held;split;omega;split <;> omega
theorem jz (n:Nat) (h:n<=1099511627776):held (n:Int)=n:=by unfold held;split;omega;split <;> omega
theorem FB (n:Nat):put n≠[]:=by rw[put];split <;> simp
theorem gE (k:Nat):∀n:Nat,n<128 ^ (k+1)->(put n).length<=k+1:=by
 induction k with
 |zero=>intro n h;rw[km n (by simpa using h)];simp
 |succ k ih =>
  intro n h;by_cases h1:n<128
  ·rw[km n h1];simp
  ·rw[qJ n h1,List.length_cons];have:=ih (n / 128) (by rw[Nat.pow_succ]at h;exact Nat.div_lt_of_lt_mul (by rw[Nat.mul_comm];exact h));omega
theorem ct (n:Nat) (h:n<=1099511627776):(put n).length<=6:=gE 5 n (by omega)
def fk (i n:Nat):List UInt8->Nat×List UInt8×Nat
 |[]=>(0,[],3)
 |c::l =>
  if i=6 then (0,[],2) else
  if 128<=c.toNat then fk (i+1) (n+c.toNat % 128*128 ^ i) l else
  if c.toNat=0/\0<i then (0,[],2) else
  if 1099511627776<n+c.toNat % 128*128 ^ i then (0,[],4) else
  (n+c.toNat % 128*128 ^ i,l,0)
def take (l:List UInt8):Nat×List UInt8×Nat:=fk 0 0 l
theorem oN (n:Nat) (h:n<256):(n.toUInt8).toNat=n:=by
 simp[Nat.toUInt8,UInt8.toNat_ofNat',Nat.mod_eq_of_lt h]
theorem wL (r:List UInt8):∀(k i n acc:Nat),n<128 ^ k->i+k=6->(0<i->0<n)->acc+n*128 ^ i<=1099511627776->fk i acc (put n++r)=(acc+n*128 ^ i,r,0)
 |0,i,n,acc,h,hi,h0,_=>by
  have:n=0:=by simp at h;exact h
  omega
 |k+1,i,n,acc,h,hi,h0,hm=>by
  by_cases h1:n<128
  ·rw[km n h1];have e:=oN n (by omega);have em:n % 128=n:=Nat.mod_eq_of_lt h1;simp only[List.singleton_append,fk,e,em];rw[if_neg (by omega),if_neg (by omega),if_neg (by omega),if_neg (by omega)]
  ·rw[qJ n h1];have e:=oN (n % 128+128) (by omega);have em:(n % 128+128) % 128=n % 128:=by omega
   have hp:128 ^ (i+1)=128 ^ i*128:=Nat.pow_succ ..;have hs:n % 128*128 ^ i+n / 128*128 ^ (i+1)=n*128 ^ i:=by
    rw[hp,Nat.mul_comm (128 ^ i) 128,<-Nat.mul_assoc,<-Nat.add_mul];congr 1;omega
   simp only[List.cons_append,fk,e,em];rw[if_neg (by omega),if_pos (by omega),wL r k (i+1) (n / 128) _ (by rw[Nat.pow_succ]at h;omega) (by omega) (by omega) (by omega)];rw[Nat.add_assoc,hs]
theorem gI (n:Nat) (h:n<=1099511627776) (r:List UInt8):take (put n++r)=(n,r,0):=by
 unfold take;rw[wL r 6 0 n 0 (by omega) rfl (by omega) (by omega)];simp
theorem yN:∀(l:List UInt8) (i n:Nat),(fk i n l).1<=1099511627776/\(fk i n l).2.1.length<=l.length/\(fk i n l).2.2<=4/\((fk i n l).2.2≠0->(fk i n l).1=0/\(fk i n l).2.1=[]) /\
 ((fk i n l).2.2=0->(fk i n l).2.1.length<l.length/\∃p,l=p++(fk i n l).2.1)
 |[],i,n=>by simp[fk]
 |c::l,i,n=>by
  have ih:=yN l (i+1) (n+c.toNat % 128*128 ^ i);simp only[fk];split
  ·simp
  ·split
   ·obtain⟨h1,h2,h3,h4,h5⟩:=ih;refine⟨h1,by simp;omega,h3,h4,fun h=>?_⟩;obtain⟨h6,p,h7⟩:=h5 h;exact⟨by simp;omega,c::p,by rw[List.cons_append,<-h7]⟩
   ·split
    ·simp
    ·split
     ·simp
     ·refine⟨by simp;omega,by simp,by simp,by simp,fun _=>⟨by simp,[c],by simp⟩⟩
theorem fH (l:List UInt8):(take l).1<=1099511627776/\(take l).2.1.length<=l.length/\(take l).2.2<=4/\((take l).2.2≠0->(take l).1=0/\(take l).2.1=[]) /\
 ((take l).2.2=0->(take l).2.1.length<l.length/\∃p,l=p++(take l).2.1):=yN l 0 0
def wu (n:Int):Nat:=if 0<=n then (2*n).toNat else (-2*n-1).toNat
def Cg (m:Nat):Int:=if m % 2=0 then ((m / 2:Nat):Int) else -((m / 2:Nat):Int)-1
theorem I9 (n:Int):Cg (wu n)=n:=by
 unfold Cg wu;split <;> split <;> omega
def gZ (n:Int):Int:=if n<=-549755813888 then -549755813888 else if n<=549755813888 then n else 549755813888
theorem uH (n:Int) : -549755813888<=gZ n/\gZ n<=549755813888:=by unfold gZ;split <;> (try split) <;> omega
theorem D9 (n:Int) (h1 : -549755813888<=n) (h2:n<=549755813888):gZ n=n:=by unfold gZ;split <;> (try split) <;> omega
theorem tG (n:Int):wu (gZ n)<=1099511627776:=by have:=uH n;unfold wu;split <;> omega
def kG (n:Int):List UInt8:=put (wu (gZ n))
def jv (l:List UInt8):Int×List UInt8×Nat:=(Cg (take l).1,(take l).2.1,(take l).2.2)
theorem AT (n:Int) (h1 : -549755813888<=n) (h2:n<=549755813888) (r:List UInt8):jv (kG n++r)=(n,r,0):=by
 unfold jv kG;rw[gI _ (tG n),D9 n h1 h2,I9]
def eX (l:List UInt8):List UInt8:=put (held l.length)++l
def cY (l:List UInt8) (long:Int):List UInt8×List UInt8×Nat :=
 if (take l).2.2≠0 then ([],[],(take l).2.2) else
 if long<(take l).1 then ([],[],4) else
 if (take l).2.1.length<(take l).1 then ([],[],3) else
 ((take l).2.1.take (take l).1,(take l).2.1.drop (take l).1,0)
theorem yK (t r:List UInt8) (long:Int) (h1:(t.length:Int)<=long) (h2:t.length<=1099511627776):cY (eX t++r) long=(t,r,0):=by
 unfold cY eX;rw[jz _ h2,List.append_assoc,gI _ h2];simp only[ne_eq,not_true_eq_false,if_false];rw[if_neg (by omega),if_neg (by simp)];simp
theorem AS (l:List UInt8) (long:Int):(cY l long).2.2<=4/\((cY l long).2.2≠0->(cY l long).1=[]/\(cY l long).2.1=[])/\(cY l long).1.length<=l.length/\(cY l long).2.1.length<=l.length /\
 ((cY l long).2.2=0->((cY l long).1.length:Int)<=long/\(cY l long).2.1.length<l.length):=by
 obtain⟨h1,h2,h3,h4,h5⟩:=fH l;unfold cY;split
 ·rename_i h;simp;omega
 ·split
  ·simp
  ·split
   ·simp
   ·rename_i ha hb hc;have:=(h5 (by omega)).1;simp only[List.length_take,List.length_drop];refine⟨by omega,by simp,by omega,by omega,fun _=>⟨by omega,by omega⟩⟩
def fixed (n:Nat):List UInt8:=[(n / 16777216).toUInt8,(n / 65536).toUInt8,(n / 256).toUInt8,n.toUInt8]
def de (l:List UInt8):Nat×List UInt8×Nat :=
 match l with
 |a::b::c::d::r=>(((a.toNat*256+b.toNat)*256+c.toNat)*256+d.toNat,r,0)
 |_=>(0,[],3)
theorem kr (n:Nat):(fixed n).length=4:=rfl
theorem yG (n:Nat):(n.toUInt8).toNat=n % 256:=by simp[Nat.toUInt8,UInt8.toNat_ofNat']
theorem kA (n:Nat) (h:n<4294967296) (r:List UInt8):de (fixed n++r)=(n,r,0):=by
 simp only[fixed,List.cons_append,List.nil_append,de,yG];congr 1;omega
theorem qy (l:List UInt8) (h:4<=l.length):∃n,de l=(n,l.drop 4,0)/\n<4294967296:=by
 match l,h with
 |a::b::c::d::r,_ =>
  have ha:=a.toNat_lt;have hb:=b.toNat_lt;have hc:=c.toNat_lt;have hd:=d.toNat_lt;exact⟨_,rfl,by omega⟩
theorem tP (l:List UInt8) (h:l.length<4):de l=(0,[],3):=by
 match l,h with
 |[],_=>rfl
 |[_],_=>rfl
 |[_,_],_=>rfl
 |[_,_,_],_=>rfl
end Num
namespace Crc
def step (r:Nat):Nat:=if r % 2=1 then (r / 2) ^^^ 0xEDB88320 else r / 2
def rN (r:Nat):Nat:=step (step (step (step r)))
def FT (r c:Nat):Nat:=rN ((r ^^^ c) % 16) ^^^ (r / 16)
def byte (r c:Nat):Nat:=FT (FT r c) (c / 16)
def run (r:Nat) (l:List UInt8):Nat:=l.foldl (fun r c=>byte r c.toNat) r
def lH (s:Nat) (l:List UInt8):Nat:=4294967295 ^^^ run (4294967295 ^^^ s) l
def sum (l:List UInt8):Nat:=lH 0 l
theorem Dn (r:Nat) (a b:List UInt8):run r (a++b)=run (run r a) b:=by simp[run]
theorem not_not (r:Nat):4294967295 ^^^ (4294967295 ^^^ r)=r:=by rw[<-Nat.xor_assoc,Nat.xor_self,Nat.zero_xor]
theorem tJ (s:Nat) (a b:List UInt8):lH (lH s a) b=lH s (a++b):=by
 unfold lH;rw[not_not,Dn]
theorem oi {a b:Nat} (ha:a<4294967296) (hb:b<4294967296):a ^^^ b<4294967296:=Nat.xor_lt_two_pow (n:=32) ha hb
theorem rM {r:Nat} (h:r<4294967296):step r<4294967296:=by
 unfold step;split
 ·exact oi (by omega) (by omega)
 ·omega
theorem yQ {r:Nat} (h:r<4294967296):rN r<4294967296:=rM (rM (rM (rM h)))
theorem zM {r c:Nat} (h:r<4294967296):FT r c<4294967296:=oi (yQ (by omega)) (by omega)
theorem JY {r c:Nat} (h:r<4294967296):byte r c<4294967296:=zM (zM h)
theorem Fp:∀(l:List UInt8) {r:Nat},r<4294967296->run r l<4294967296
 |[],_,h=>h
 |c::l,r,h=>Fp l (r:=byte r c.toNat) (JY h)
theorem ET {s:Nat} (h:s<4294967296) (l:List UInt8):lH s l<4294967296:=oi (by omega) (Fp l (oi (by omega) h))
theorem tQ (l:List UInt8):sum l<4294967296:=ET (by omega) l
end Crc
namespace Frm
open Go.Proofs.YtmgmknmaepjnoaaGreatDoor (Num.fixed Num.de)
def bH (p:List UInt8):List UInt8:=Num.fixed p.length++(Num.fixed (Crc.sum (Num.fixed p.length++p))++p)
def put (p:List UInt8):List UInt8×Nat:=if p=[] then ([],2) else if 8000<p.length then ([],4) else (bH p,0)
def take (s:List UInt8):List UInt8×List UInt8×Nat :=
 if s.length<8 then ([],[],3) else
 if (Num.de s).1=0 then ([],[],2) else
 if 8000<(Num.de s).1 then ([],[],4) else
 if (s.drop 8).length<(Num.de s).1 then ([],[],3) else
 if Crc.sum (s.take 4++(s.drop 8).take (Num.de s).1)≠(Num.de (s.drop 4)).1 then ([],[],5) else
 ((s.drop 8).take (Num.de s).1,(s.drop 8).drop (Num.de s).1,0)
theorem gy (p:List UInt8):(bH p).length=p.length+8:=by simp[bH,Num.fixed]
theorem nI (p r:List UInt8) (h0:p≠[]) (h1:p.length<=8000):take (bH p++r)=(p,r,0):=by
 have hp:0<p.length:=List.length_pos_iff.2 h0;have e1:Num.de (bH p++r)=(p.length,Num.fixed (Crc.sum (Num.fixed p.length++p))++p++r,0):=by
  rw[bH,List.append_assoc,Num.kA _ (by omega)]
 have e2:(bH p++r).drop 4=Num.fixed (Crc.sum (Num.fixed p.length++p))++(p++r):=by
  rw[bH,List.append_assoc,List.drop_append_of_le_length (by simp[Num.kr]),List.drop_of_length_le (by simp[Num.kr])];simp
 have e3:(bH p++r).drop 8=p++r:=by
  rw[show 8=4+4 from rfl,<-List.drop_drop,e2,List.drop_append_of_le_length (by simp[Num.kr]),List.drop_of_length_le (by simp[Num.kr])];simp
 have e4:(bH p++r).take 4=Num.fixed p.length:=by
  rw[bH,List.append_assoc,List.take_append_of_le_length (by simp[Num.kr]),List.take_of_length_le (by simp[Num.kr])]
 have e5:(bH p++r).length=p.length+8+r.length:=by rw[List.length_append,gy]
 unfold take;rw[e1,e2,e3,e4,e5,Num.kA _ (Crc.tQ _)];simp only;rw[if_neg (by omega),if_neg (by omega),if_neg (by omega),if_neg (by simp),if_neg (by simp)];simp
theorem fH (s:List UInt8):(take s).2.2<=5/\((take s).2.2≠0->(take s).1=[]/\(take s).2.1=[])/\((take s).2.2=0->1<=(take s).1.length/\(take s).1.length<=8000/\(take s).2.1.length+9<=s.length/\(take s).2.1.length+(take s).1.length+8=s.length):=by
 unfold take;split
 ·simp
 ·split
  ·simp
  ·split
   ·simp
   ·split
    ·simp
    ·split
     ·simp
     ·rename_i h1 h2 h3 h4 h5;simp only[List.length_drop]at h4;simp only[List.length_take,List.length_drop];refine⟨by omega,by simp,fun _=>⟨by omega,by omega,by omega,by omega⟩⟩
def ny:Nat->List UInt8->List (List UInt8)×List UInt8
 |0,s=>([],s)
 |f+1,s=>if (take s).2.2≠0 then ([],s) else ((take s).1::(ny f (take s).2.1).1,(ny f (take s).2.1).2)
def scan (s:List UInt8):List (List UInt8)×List UInt8:=ny s.length s
theorem tY:∀(f g:Nat) (s:List UInt8),s.length<=f->s.length<=g->ny f s=ny g s
 |0,0,s,_,_=>rfl
 |0,g+1,s,h,_=>by
  have:s=[]:=aP (by omega);subst this;rfl
 |f+1,0,s,_,h=>by
  have:s=[]:=aP (by omega);subst this;rfl
 |f+1,g+1,s,hf,hg=>by
  unfold ny;split
  ·rfl
  ·rename_i h;have:=((fH s).2.2 (by omega)).2.2.1;rw[tY f g _ (by omega) (by omega)]
theorem nw (s:List UInt8) (h:(take s).2.2≠0):scan s=([],s):=by
 unfold scan;cases e:s.length with
 |zero=>rfl
 |succ n=>rw[ny,if_pos h]
theorem rP (s:List UInt8) (h:(take s).2.2=0):scan s=((take s).1::(scan (take s).2.1).1,(scan (take s).2.1).2):=by
 have h2:=((fH s).2.2 h).2.2.1;unfold scan;cases e:s.length with
 |zero=>omega
 |succ n =>
  rw[ny,if_neg (by omega),tY n (take s).2.1.length _ (by omega) (by omega)]
theorem sk (p r:List UInt8) (h0:p≠[]) (h1:p.length<=8000):scan (bH p++r)=(p::(scan r).1,(scan r).2):=by
 have h:=nI p r h0 h1;rw[rP _ (by rw[h]),h]
theorem G4:scan []=([],[]):=rfl
theorem mC:∀(n:Nat) (s:List UInt8),s.length<=n->∀p∈(scan s).1,1<=p.length/\p.length<=8000
 |n,s,hn=>by
  by_cases h:(take s).2.2=0
  ·rw[rP s h];have h2:=(fH s).2.2 h
   match n with
   |0=>omega
   |n+1 =>
    have ih:=mC n (take s).2.1 (by omega);intro p hp;rcases List.mem_cons.1 hp with rfl|hp
    ·exact⟨h2.1,h2.2.1⟩
    ·exact ih p hp
  ·rw[nw s h];intro p hp;cases hp
theorem l':∀(n:Nat) (s:List UInt8),s.length<=n->9*(scan s).1.length<=s.length
 |n,s,hn=>by
  by_cases h:(take s).2.2=0
  ·rw[rP s h];have h2:=(fH s).2.2 h
   match n with
   |0=>omega
   |n+1 =>
    have ih:=l' n (take s).2.1 (by omega);simp only[List.length_cons];omega
  ·rw[nw s h];simp
def pt (p:List UInt8):Prop:=p≠[]/\p.length<=8000
theorem jk {p:List UInt8} (h:pt p):put p=(bH p,0):=by
 unfold put;rw[if_neg h.1,if_neg (by have:=h.2;omega)]
theorem yZ:∀(l:List (List UInt8)) (r:List UInt8),(∀p∈l,pt p)->scan (l.flatMap bH++r)=(l++(scan r).1,(scan r).2)
 |[],r,_=>by simp
 |p::l,r,h=>by
  have h1:=h p (by simp);rw[List.flatMap_cons,List.append_assoc,sk p _ h1.1 h1.2,yZ l r (fun q hq=>h q (by simp[hq]))];simp
theorem E6 (p q r:List UInt8) (h0:p≠[]) (h1:p.length<=8000) (he:bH p=q++r) (hr:r≠[]):(take q).2.2≠0:=by
 have hl:q.length+r.length=p.length+8:=by rw[<-gy,he,List.length_append]
 have hr1:0<r.length:=List.length_pos_iff.2 hr;by_cases hs:q.length<8
 ·unfold take;rw[if_pos hs];simp
 ·have e1:(Num.de q).1=p.length:=by
   rcases q with _|⟨a,_|⟨b,_|⟨c,_|⟨d,q'⟩⟩⟩⟩
   ·simp at hs
   ·simp at hs
   ·simp at hs
   ·simp at hs
   ·have e2:=Num.kA p.length (by omega) (Num.fixed (Crc.sum (Num.fixed p.length++p))++p);rw[bH]at he;rw[he]at e2;simp only[List.cons_append,Num.de]at e2 ⊢;exact congrArg Prod.fst e2
  have hp:0<p.length:=List.length_pos_iff.2 h0;unfold take;rw[if_neg hs,e1,if_neg (by omega),if_neg (by omega),if_pos (by rw[List.length_drop];omega)];simp
theorem sj:∀(l:List (List UInt8)) (q r:List UInt8),(∀p∈l,pt p)->l.flatMap bH=q++r ->
 ∃k,k<=l.length/\(scan q).1=l.take k/\∀j,j<=l.length->((l.take j).flatMap bH).length<=q.length->j<=k
 |[],q,r,_,he=>by
  have:q=[]:=by simp at he;exact he.1
  subst this;exact⟨0,by simp,rfl,fun j h _=>by simpa using h⟩
 |p::l,q,r,hg,he=>by
  have h1:=hg p (by simp);by_cases hq:(bH p).length<=q.length
  ·obtain⟨q',rfl⟩:∃q',q=bH p++q':=by
    have:bH p <+: q:=List.prefix_of_prefix_length_le ⟨_,List.flatMap_cons.symm⟩ ⟨r,he.symm⟩ hq;obtain⟨q',h⟩:=this;exact⟨q',h.symm⟩
   rw[List.flatMap_cons,List.append_assoc]at he;have he':=List.append_cancel_left he;obtain⟨k,hk1,hk2,hk3⟩:=sj l q' r (fun q hq=>hg q (by simp[hq])) he';refine⟨k+1,by simp;omega,?_,?_⟩
   ·rw[sk p q' h1.1 h1.2,hk2];simp
   ·intro j hj hl
    match j with
    |0=>omega
    |j+1 =>
     simp only[List.take_succ_cons,List.flatMap_cons,List.length_append]at hl;have:=hk3 j (by simpa using hj) (by omega);omega
  ·refine⟨0,by simp,?_,?_⟩
   ·have hx:∃x,bH p=q++x/\x≠[]:=by
     have:q <+: bH p:=List.prefix_of_prefix_length_le ⟨r,he.symm⟩ ⟨_,List.flatMap_cons.symm⟩ (by omega);obtain⟨x,h⟩:=this;refine⟨x,h.symm,?_⟩;rintro rfl;rw[List.append_nil]at h;rw[<-h]at hq;omega
    obtain⟨x,hx1,hx2⟩:=hx;rw[nw q (E6 p q x h1.1 h1.2 hx1 hx2)];simp
   ·intro j hj hl
    match j with
    |0=>omega
    |j+1 =>
     simp only[List.take_succ_cons,List.flatMap_cons,List.length_append]at hl;omega
end Frm
namespace Evt
structure Event where
 kind:List UInt8
 data:List UInt8
structure Batch where
 stream:List UInt8
 expect:Int
 br:Int
 seq:Int
 events:List Event
structure Entry where
 pos:Int
 epoch:Int
 b:Batch
def tH:Batch:=⟨[],0,0,0,[]⟩
def lx:Entry:=⟨0,0,tH⟩
def right (e:Event):Bool:=decide (e.data.length<=200)&&Txt.name e.kind
def number (n:Int):Bool:=decide (1<=n)&&decide (n<=274877906944)
def uJ (b:Batch):Bool:=Txt.name b.stream&&decide (-1<=b.expect)&&decide (b.expect<=274877906944)&&number b.br&&number b.seq&&!b.events.isEmpty
def fits (b:Batch):Nat :=
 if uJ b=false then 1 else if 8<b.events.length then 4 else if b.events.all right=false then 1 else 0
def fX (e:Event):List UInt8:=Num.eX e.kind++Num.eX e.data
def aQ (b:Batch):List UInt8 :=
 (Num.eX b.stream++Num.kG b.expect++Num.put (Num.held b.br)++Num.put (Num.held b.seq)++Num.put (Num.held b.events.length))++b.events.flatMap fX
def dm (b:Batch):List UInt8:=if fits b≠0 then [] else aQ b
def iz (st:List UInt8×Nat):List UInt8×(List UInt8×Nat):=if st.2≠0 then ([],st) else ((Num.cY st.1 200).1,(Num.cY st.1 200).2.1,(Num.cY st.1 200).2.2)
def lz (st:List UInt8×Nat):Nat×(List UInt8×Nat):=if st.2≠0 then (0,st) else ((Num.take st.1).1,(Num.take st.1).2.1,(Num.take st.1).2.2)
def nB (st:List UInt8×Nat):Int×(List UInt8×Nat):=if st.2≠0 then (0,st) else ((Num.jv st.1).1,(Num.jv st.1).2.1,(Num.jv st.1).2.2)
def note (st:List UInt8×Nat) (e:Nat):List UInt8×Nat:=if st.2=0 then (st.1,e) else st
def ki (st:List UInt8×Nat):Event×(List UInt8×Nat):=(⟨(iz st).1,(iz (iz st).2).1⟩,(iz (iz st).2).2)
def dZ:Nat->List UInt8×Nat->List Event×(List UInt8×Nat)
 |0,st=>([],st)
 |n+1,st=>if st.2≠0 then ([],st) else ((ki st).1::(dZ n (ki st).2).1,(dZ n (ki st).2).2)
def qI (s:List UInt8):List UInt8×Int×Nat×Nat×Nat×(List UInt8×Nat) :=
 let a:=iz (s,0);let b:=nB a.2;let c:=lz b.2;let d:=lz c.2;let e:=lz d.2
 (a.1,b.1,c.1,d.1,e.1,e.2)
def mE (many:Nat) (st:List UInt8×Nat):List UInt8×Nat:=if 8<many then note st 4 else st
def kF (b:Batch) (st:List UInt8×Nat):List UInt8×Nat:=if fits b≠0 then note st 2 else st
def ia (s:List UInt8):Batch×List UInt8×Nat :=
 let h:=qI s
 let q:=dZ h.2.2.2.2.1 (mE h.2.2.2.2.1 h.2.2.2.2.2)
 let b:Batch:=⟨h.1,h.2.1,h.2.2.1,h.2.2.2.1,q.1⟩
 let st:=kF b q.2
 if st.2≠0 then (tH,[],st.2) else (b,st.1,0)
def bC (e:Entry):Bool:=number e.pos&&number e.epoch&&(fits e.b==0)
def put (e:Entry):List UInt8:=if bC e then Num.put (Num.held e.pos)++Num.put (Num.held e.epoch)++dm e.b else []
def take (s:List UInt8):Entry×List UInt8×Nat :=
 let p:=Num.take s
 if p.2.2≠0 then (lx,[],p.2.2) else
 let q:=Num.take p.2.1
 if q.2.2≠0 then (lx,[],q.2.2) else
 let b:=ia q.2.1
 if b.2.2≠0 then (lx,[],b.2.2) else
 if bC ⟨p.1,q.1,b.1⟩ then (⟨p.1,q.1,b.1⟩,b.2.1,0) else (lx,[],2)
def follows:List Entry->Int->Int->Bool
 |[],_,_=>true
 |e::l,pos,epoch=>if e.pos≠pos+1\/e.epoch<epoch\/bC e=false then false else follows l e.pos e.epoch
theorem fw (n:Int):number n=true↔1<=n/\n<=274877906944:=by simp[number]
theorem lD {n:Int} (h:number n=true):Num.held n<=1099511627776/\((Num.held n:Nat):Int)=n:=by
 have:=(fw n).1 h;refine⟨Num.cB n,?_⟩;unfold Num.held;rw[if_neg (by omega),if_pos (by omega)];omega
theorem GV {t:Int×List UInt8} (h:Txt.Shape t):t.2.length<=4:=by
 rcases h with⟨_,b,h,_⟩|⟨_,_,h⟩|⟨_,_,_,_,h,_⟩
 ·rw[h];simp
 ·rw[h];simp
 ·exact h
theorem xj:∀(ts:List (Int×List UInt8)),(∀t∈ts,Txt.Shape t)->(ts.flatMap (·.2)).length<=4*ts.length
 |[],_=>by simp
 |t::ts,h=>by
  have h1:=GV (h t (by simp));have h2:=xj ts (fun u hu=>h u (by simp[hu]));simp only[List.flatMap_cons,List.length_append,List.length_cons];omega
theorem gL {l:List UInt8} (h:Txt.name l=true):l.length<=128:=by
 have h1:=xj (Txt.iw l) (Txt.G3 l);rw[Txt.EY]at h1;simp only[Txt.name,Bool.and_eq_true,decide_eq_true_eq]at h;omega
theorem qC {e:Event} (h:right e=true):e.kind.length<=128/\e.data.length<=200:=by
 simp only[right,Bool.and_eq_true,decide_eq_true_eq]at h;exact⟨gL h.2,h.1⟩
theorem iI {b:Batch} (h:fits b=0):Txt.name b.stream=true/\(-1<=b.expect/\b.expect<=274877906944)/\number b.br=true/\number b.seq=true/\b.events≠[]/\b.events.length<=8/\∀e∈b.events,right e=true:=by
 unfold fits at h;split at h
 ·cases h
 ·split at h
  ·cases h
  ·split at h
   ·cases h
   ·rename_i h1 h2 h3;simp only[uJ,Bool.and_eq_true,decide_eq_true_eq,Bool.not_eq_false,Bool.not_eq_true',List.isEmpty_eq_false_iff,ne_eq,List.all_eq_true]at h1 h2 h3;obtain⟨⟨⟨⟨⟨a,b1⟩,b2⟩,c⟩,d⟩,e⟩:=h1;exact⟨a,⟨b1,b2⟩,c,d,e,by omega,h3⟩
theorem kZ (t r:List UInt8) (h:t.length<=200):iz (Num.eX t++r,0)=(t,r,0):=by
 unfold iz;rw[if_neg (by simp),Num.yK t r 200 (by omega) (by omega)]
theorem qH (n:Nat) (r:List UInt8) (h:n<=1099511627776):lz (Num.put n++r,0)=(n,r,0):=by
 unfold lz;rw[if_neg (by simp),Num.gI n h r]
theorem Fy (n:Int) (r:List UInt8) (h1 : -1<=n) (h2:n<=274877906944):nB (Num.kG n++r,0)=(n,r,0):=by
 unfold nB;rw[if_neg (by simp),Num.AT n (by omega) (by omega) r]
theorem xX (e:Event) (r:List UInt8) (h:right e=true):ki (fX e++r,0)=(e,r,0):=by
 obtain⟨h1,h2⟩:=qC h;unfold ki fX;rw[List.append_assoc,kZ _ _ (by omega),kZ _ _ (by omega)]
theorem ou:∀(l:List Event) (r:List UInt8),(∀e∈l,right e=true)->dZ l.length (l.flatMap fX++r,0)=(l,r,0)
 |[],r,_=>by simp[dZ]
 |e::l,r,h=>by
  rw[List.length_cons,dZ,if_neg (by simp),List.flatMap_cons,List.append_assoc,xX e _ (h e (by simp))];simp only[ou l r (fun x hx=>h x (by simp[hx]))]
theorem xL (b:Batch) (r:List UInt8) (h:fits b=0):ia (dm b++r)=(b,r,0):=by
 obtain⟨h1,⟨h2,h3⟩,h4,h5,h6,h7,h8⟩:=iI h;have hn:=gL h1;obtain⟨i1,i2⟩:=lD h4;obtain⟨j1,j2⟩:=lD h5;have hk:Num.held (b.events.length:Int)=b.events.length:=Num.jz _ (by omega);have e:qI (dm b++r)=(b.stream,b.expect,Num.held b.br,Num.held b.seq,b.events.length,b.events.flatMap fX++r,0):=by
  unfold qI dm;rw[if_neg (by simp[h]),aQ,hk];simp only[List.append_assoc];rw[kZ _ _ (by omega)];simp only;rw[Fy _ _ h2 h3];simp only;rw[qH _ _ i1];simp only;rw[qH _ _ j1];simp only;rw[qH _ _ (by omega)]
 unfold ia;rw[e];simp only[mE];rw[if_neg (show ¬8<b.events.length by omega),ou _ _ h8];simp only[i2,j2];rw[show(⟨b.stream,b.expect,b.br,b.seq,b.events⟩:Batch)=b from rfl,kF,if_neg (show ¬fits b≠0 by simp[h])];simp
theorem kE {e:Entry}:bC e=true↔number e.pos=true/\number e.epoch=true/\fits e.b=0:=by
 simp[bC,and_assoc]
theorem gI (e:Entry) (r:List UInt8) (h:bC e=true):take (put e++r)=(e,r,0):=by
 obtain⟨h1,h2,h3⟩:=kE.1 h;obtain⟨i1,i2⟩:=lD h1;obtain⟨j1,j2⟩:=lD h2;unfold put;rw[if_pos h];simp only[List.append_assoc,take];rw[Num.gI _ i1];simp only[ne_eq,not_true_eq_false,if_false];rw[Num.gI _ j1];simp only[not_true_eq_false,if_false];rw[xL _ _ h3];simp only[not_true_eq_false,if_false,i2,j2];rw[show(⟨e.pos,e.epoch,e.b⟩:Entry)=e from rfl,if_pos h]
theorem tO (s:List UInt8) (h:(take s).2.2=0):bC (take s).1=true:=by
 unfold take at h ⊢;simp only at h ⊢;split at h
 ·rename_i g;exact absurd h g
 ·split at h
  ·rename_i g;exact absurd h g
  ·split at h
   ·rename_i g;exact absurd h g
   ·split at h
    ·rename_i g1 g2 g3 g4;rw[if_neg g1,if_neg g2,if_neg g3,if_pos g4];exact g4
    ·cases h
theorem ik (t:List UInt8):(Num.eX t).length<=6+t.length:=by
 have:=Num.ct _ (Num.cB t.length);simp only[Num.eX,List.length_append];omega
theorem EA {e:Event} (h:right e=true):(fX e).length<=340:=by
 obtain⟨h1,h2⟩:=qC h;have h3:=ik e.kind;have h4:=ik e.data;simp only[fX,List.length_append];omega
theorem Al (k:Nat):∀(l:List Event),(∀e∈l,(fX e).length<=k)->(l.flatMap fX).length<=k*l.length
 |[],_=>by simp
 |e::l,h=>by
  have h1:=h e (by simp);have h2:=Al k l (fun x hx=>h x (by simp[hx]));simp only[List.flatMap_cons,List.length_append,List.length_cons,Nat.mul_add];omega
theorem mF (b:Batch):(dm b).length<=3000:=by
 unfold dm;split
 ·simp
 ·rename_i h;have h0:fits b=0:=by omega
  obtain⟨h1,_,_,_,_,h7,h8⟩:=iI h0;have a1:=ik b.stream;have a2:=gL h1;have a3:=Num.ct _ (Num.tG b.expect);have a4:=Num.ct _ (Num.cB b.br);have a5:=Num.ct _ (Num.cB b.seq);have a6:=Num.ct _ (Num.cB b.events.length);have a7:=Al 340 b.events (fun e he=>EA (h8 e he));simp only[aQ,Num.kG,List.length_append];omega
theorem gE (e:Entry):(put e).length<=3012:=by
 unfold put;split
 ·have a4:=Num.ct _ (Num.cB e.pos);have a5:=Num.ct _ (Num.cB e.epoch);have a6:=mF e.b;simp only[List.length_append];omega
 ·simp
end Evt
namespace af
open Evt
def iP (first:Int):List UInt8:=115::Num.put (Num.held first)
def cD (first:Int):List UInt8:=Frm.bH (iP first)
def dx (e:Entry):List UInt8:=101::Evt.put e
def aQ (l:List Entry):List UInt8:=(l.map dx).flatMap Frm.bH
theorem pn (first:Int):Frm.pt (iP first):=by
 have:=Num.ct _ (Num.cB first);exact⟨by simp[iP],by simp only[iP,List.length_cons];omega⟩
theorem lB (e:Entry):Frm.pt (dx e):=by
 have:=Evt.gE e;exact⟨by simp[dx],by simp only[dx,List.length_cons];omega⟩
theorem jU (a b:List Entry):aQ (a++b)=aQ a++aQ b:=by simp[aQ]
theorem EC:aQ []=[]:=rfl
theorem iR:∀(l:List Entry),(aQ l).length<=3021*l.length
 |[]=>by simp[aQ]
 |e::l=>by
  have h1:=Evt.gE e;have h2:=iR l;have h3:aQ (e::l)=Frm.bH (dx e)++aQ l:=rfl;rw[h3,List.length_append,Frm.gy,dx,List.length_cons,List.length_cons];omega
theorem gz (first:Int):(cD first).length<=15:=by
 have:=Num.ct _ (Num.cB first);rw[cD,Frm.gy,iP,List.length_cons];omega
def goes (pos epoch:Int) (s:List UInt8):Bool :=
 (s.head?==some 101)&&((Evt.take (s.drop 1)).2.2==0)&&((Evt.take (s.drop 1)).2.1.isEmpty)&&((Evt.take (s.drop 1)).1.pos==pos+1)&&decide (epoch<=(Evt.take (s.drop 1)).1.epoch)
def eV:Int->Int->List (List UInt8)->List Entry
 |_,_,[]=>[]
 |pos,epoch,s::l=>if goes pos epoch s then (Evt.take (s.drop 1)).1::eV (Evt.take (s.drop 1)).1.pos (Evt.take (s.drop 1)).1.epoch l else []
structure af where
 first:Int
 entries:List Entry
 cH:Bool
def oI:af:=⟨0,[],false⟩
def opens (h:List UInt8):Bool :=
 (h.head?==some 115)&&((Num.take (h.drop 1)).2.2==0)&&((Num.take (h.drop 1)).2.1.isEmpty)&&decide (1<=(Num.take (h.drop 1)).1)&&decide ((Num.take (h.drop 1)).1<=274877906944)
def kN (first:Int) (l:List Entry) (s:List UInt8):af:=⟨first,l,cD first++aQ l != s⟩
def load (s:List UInt8):af×Nat :=
 match (Frm.scan s).1 with
 |[]=>(oI,2)
 |h::l=>if opens h then (kN (Num.take (h.drop 1)).1 (eV ((Num.take (h.drop 1)).1-1) 0 l) s,0) else (oI,2)
def last (g:af):Int×Int:=match g.entries.getLast? with|none=>(g.first-1,0)|some e=>(e.pos,e.epoch)
theorem dh {e:Entry} {l:List Entry} {pos epoch:Int}:follows (e::l) pos epoch=true↔e.pos=pos+1/\epoch<=e.epoch/\bC e=true/\follows l e.pos e.epoch=true:=by
 rw[follows];split
 ·rename_i h;simp only[Bool.false_eq_true,false_iff];rintro ⟨h1,h2,h3,_⟩;rcases h with h|h|h
  ·exact h h1
  ·omega
  ·rw[h3]at h;cases h
 ·rename_i h;have h1:¬(bC e=false):=fun g=>h (.inr (.inr g));constructor
  ·intro g;exact⟨by omega,by omega,by simpa using h1,g⟩
  ·rintro ⟨_,_,_,g⟩;exact g
def dX (pos epoch:Int):List Entry->Int×Int
 |[]=>(pos,epoch)
 |e::l=>dX e.pos e.epoch l
theorem cQ:∀(a b:List Entry) (pos epoch:Int),follows (a++b) pos epoch=true↔follows a pos epoch=true/\follows b (dX pos epoch a).1 (dX pos epoch a).2=true
 |[],b,pos,epoch=>by simp[follows,dX]
 |e::a,b,pos,epoch=>by
  rw[List.cons_append,dh,dh,cQ a b,dX];simp[and_assoc]
theorem pE:∀(l:List Entry) (pos epoch:Int),dX pos epoch l=match l.getLast? with|none=>(pos,epoch)|some e=>(e.pos,e.epoch)
 |[],pos,epoch=>rfl
 |[e],pos,epoch=>rfl
 |e::f::l,pos,epoch=>by
  rw[dX,pE (f::l)];simp[List.getLast?_cons]
theorem Ib (g:af):last g=dX (g.first-1) 0 g.entries:=by
 rw[pE,last]
theorem BU {e:Entry} {pos epoch:Int} (h:bC e=true) (h1:e.pos=pos+1) (h2:epoch<=e.epoch):goes pos epoch (dx e)=true/\(Evt.take ((dx e).drop 1)).1=e:=by
 have ht:Evt.take ((dx e).drop 1)=(e,[],0):=by
  have:=Evt.gI e [] h;simpa[dx]using this
 refine⟨?_,by rw[ht]⟩;unfold goes;rw[ht];simp[dx,h1,h2]
theorem rr:∀(l:List Entry) (r:List (List UInt8)) (pos epoch:Int),follows l pos epoch=true->eV pos epoch (l.map dx++r)=l++eV (dX pos epoch l).1 (dX pos epoch l).2 r
 |[],r,pos,epoch,_=>rfl
 |e::l,r,pos,epoch,h=>by
  obtain⟨h1,h2,h3,h4⟩:=dh.1 h;obtain⟨g1,g2⟩:=BU h3 h1 h2;rw[List.map_cons,List.cons_append,eV,if_pos g1,g2,rr l r _ _ h4,dX,List.cons_append]
theorem ru:∀(l:List (List UInt8)) (pos epoch:Int),follows (eV pos epoch l) pos epoch=true
 |[],_,_=>rfl
 |s::l,pos,epoch=>by
  rw[eV];split
  ·rename_i h;simp only[goes,Bool.and_eq_true,beq_iff_eq,decide_eq_true_eq]at h;obtain⟨⟨⟨⟨h1,h2⟩,h3⟩,h4⟩,h5⟩:=h;exact dh.2 ⟨h4,h5,Evt.tO _ h2,ru l _ _⟩
  ·rfl
theorem pD:∀(l:List (List UInt8)) (pos epoch:Int),(eV pos epoch l).length<=l.length
 |[],_,_=>ab
 |s::l,pos,epoch=>by
  rw[eV];split
  ·have:=pD l (Evt.take (s.drop 1)).1.pos (Evt.take (s.drop 1)).1.epoch;simp only[List.length_cons];omega
  ·simp
theorem BT (first:Int) (h1:1<=first) (h2:first<=274877906944):opens (iP first)=true/\(((Num.take ((iP first).drop 1)).1:Nat):Int)=first:=by
 have e:Num.held first=first.toNat:=by unfold Num.held;rw[if_neg (by omega),if_pos (by omega)]
 have ht:Num.take ((iP first).drop 1)=(first.toNat,[],0):=by
  have:=Num.gI first.toNat (by omega) []
  simpa[iP,e]using this
 unfold opens;rw[ht];refine⟨?_,by simp only;omega⟩;simp[iP];omega
theorem BM (first:Int) (l:List Entry) (q r:List UInt8) (h1:1<=first) (h2:first<=274877906944) (hf:follows l (first-1) 0=true) (he:cD first++aQ l=q++r) (hq:(cD first).length<=q.length) :
 ∃k,k<=l.length/\load q=(kN first (l.take k) q,0)/\(∀j,j<=l.length->(cD first++aQ (l.take j)).length<=q.length->j<=k):=by
 have hall:∀p∈iP first::l.map dx,Frm.pt p:=by
  intro p hp;rcases List.mem_cons.1 hp with rfl|hp
  ·exact pn first
  ·obtain⟨e,_,rfl⟩:=List.mem_map.1 hp;exact lB e
 obtain⟨k,hk1,hk2,hk3⟩:=Frm.sj (iP first::l.map dx) q r hall (by simpa[cD,aQ]using he);have hk0:1<=k:=hk3 1 (by simp) (by simpa[cD]using hq);obtain⟨k,rfl⟩:∃m,k=m+1:=⟨k-1,by omega⟩;simp only[List.length_cons,List.length_map]at hk1;obtain⟨o1,o2⟩:=BT first h1 h2
 have hs:(Frm.scan q).1=iP first::(l.take k).map dx:=by rw[hk2];simp[List.map_take]
 have hft:follows (l.take k) (first-1) 0=true:=by
  have:=(cQ (l.take k) (l.drop k) (first-1) 0).1 (by rw[List.take_append_drop];exact hf);exact this.1
 refine⟨k,by omega,?_,?_⟩
 ·unfold load;rw[hs];simp only[o1,if_true,o2];have:=rr (l.take k) [] (first-1) 0 hft;simp only[List.append_nil]at this;rw[this,eV,List.append_nil]
 ·intro j hj hl;have:=hk3 (j+1) (by simp;omega) (by
   simp only[List.take_succ_cons,List.flatMap_cons,<-List.map_take];simpa[cD,aQ]using hl)
  omega
theorem uz (first:Int) (l:List Entry) (h1:1<=first) (h2:first<=274877906944) (hf:follows l (first-1) 0=true):load (cD first++aQ l)=(⟨first,l,false⟩,0):=by
 obtain⟨k,k1,k2,k3⟩:=BM first l (cD first++aQ l) [] h1 h2 hf (by simp) (by simp)
 have:=k3 l.length ab (by simp);have e:l.take k=l:=List.take_of_length_le (by omega);rw[k2,e,kN];simp
theorem Cz (s:List UInt8):(load s).2<=2/\((load s).2≠0->load s=(oI,2)) /\
 ((load s).2=0->1<=(load s).1.first/\(load s).1.first<=274877906944/\follows (load s).1.entries ((load s).1.first-1) 0=true/\(load s).1.cH=(cD (load s).1.first++aQ (load s).1.entries != s)/\9*(load s).1.entries.length<=s.length):=by
 have hc:=Frm.l' s.length s ab;unfold load;split
 ·simp
 ·rename_i h l hs;rw[hs]at hc;split
  ·rename_i g;simp only[opens,Bool.and_eq_true,beq_iff_eq,decide_eq_true_eq]at g;have:=pD l (((Num.take (h.drop 1)).1:Nat)-1:Int) 0;simp only[List.length_cons]at hc;refine⟨by simp,by simp,fun _=>⟨?_,?_,ru _ _ _,rfl,?_⟩⟩
   ·simp only[kN];omega
   ·simp only[kN];omega
   ·simp only[kN];omega
  ·simp
def nameOf (n:Int):List UInt8:=if 1<=n/\n<=1073741824 then [115,101,103,45]++Lib.decDigits n.toNat else []
theorem lO (d:Nat) (h:d<10):(UInt8.ofNat (48+d)).toNat=48+d:=by
 rw[UInt8.toNat_ofNat'];omega
theorem wQ:∀(n:Nat) (r:List UInt8),n<=1073741824->Lib.parseUint10 0 (Lib.decDigits n++r)=Lib.parseUint10 n r:=by
 intro n
 induction n using Nat.strongRecOn with
 |ind n ih =>
  intro r h;rw[Lib.decDigits];by_cases h1:n<10
  ·rw[dif_pos h1];have e:=lO n h1;simp only[List.singleton_append,Lib.parseUint10];rw[e,if_pos (by omega),if_neg (by omega),if_neg (by omega)];congr 1;omega
  ·rw[dif_neg h1,List.append_assoc,ih (n / 10) (by omega) _ (by omega)];have e:=lO (n % 10) (by omega);simp only[List.singleton_append,Lib.parseUint10];rw[e,if_pos (by omega),if_neg (by omega),if_neg (by omega)];congr 1;omega
theorem tC:∀n:Nat,∃c r,Lib.decDigits n=c::r/\48<=c.toNat/\c.toNat<=57:=by
 intro n
 induction n using Nat.strongRecOn with
 |ind n ih =>
  rw[Lib.decDigits];by_cases h1:n<10
  ·rw[dif_pos h1];have e:=lO n h1;exact⟨_,_,rfl,by omega,by omega⟩
  ·rw[dif_neg h1];obtain⟨c,r,e,h2,h3⟩:=ih (n / 10) (by omega);exact⟨c,r++[_],by rw[e];rfl,h2,h3⟩
theorem CO:∀(k n:Nat),n<10 ^ (k+1)->(Lib.decDigits n).length<=k+1:=by
 intro k
 induction k with
 |zero=>intro n h;rw[Lib.decDigits,dif_pos (by simpa using h)];simp
 |succ k ih =>
  intro n h;rw[Lib.decDigits];by_cases h1:n<10
  ·rw[dif_pos h1];simp
  ·rw[dif_neg h1,List.length_append];have:=ih (n / 10) (Nat.div_lt_of_lt_mul (by rw[Nat.pow_succ]at h;omega));simp;omega
theorem zu (n:Nat) (h:n<=1073741824):Lib.parseMag (Lib.decDigits n)=.ok n:=by
 obtain⟨c,r,e,h2,h3⟩:=tC n;have:=wQ n [] h;rw[List.append_nil]at this;rw[Lib.parseMag,if_neg (by rw[e];simp),this];rfl
theorem IE (n:Nat) (h:n<=1073741824):Lib.atoiAll (Lib.decDigits n)=.ok (n:Int):=by
 obtain⟨c,r,e,h2,h3⟩:=tC n;have hm:=zu n h;rw[e]at hm ⊢;unfold Lib.atoiAll;simp only;rw[if_neg (by omega),hm];simp only;rw[if_neg (by omega),if_neg (by omega),if_neg (by omega)]
theorem gL (n:Int):(nameOf n).length<=14:=by
 unfold nameOf;split
 ·have:=CO 9 n.toNat (by omega);simp only[List.length_append,List.length_cons,List.length_nil];omega
 ·simp
theorem zP (n:Int) (h1:1<=n) (h2:n<=1073741824):5<=(nameOf n).length:=by
 obtain⟨c,r,e,h2,h3⟩:=tC n.toNat;unfold nameOf;rw[if_pos ⟨h1,by omega⟩,e];simp only[List.length_append,List.length_cons,List.length_nil];omega
theorem Cx (n:Int) (h1:1<=n) (h2:n<=1073741824):nameOf n≠[]:=fun h=>by
 have:=zP n h1 h2;rw[h]at this;simp at this
def numberOf (s:List UInt8):Int :=
 match Lib.parseUint10 0 (s.drop 4)with
 |.ok u=>if nameOf u=s/\s≠[] then u else 0
 |_=>0
def Lv (s:List UInt8) (n:Int):Prop:=(1<=n/\n<=1073741824/\nameOf n=s)\/(n=0/\∀m:Int,1<=m->m<=1073741824->nameOf m≠s)
theorem jL (n:Int) (h1:1<=n) (h2:n<=1073741824):numberOf (nameOf n)=n:=by
 have e:(nameOf n).drop 4=Lib.decDigits n.toNat:=by unfold nameOf;rw[if_pos ⟨h1,h2⟩];rfl
 have hp:=wQ n.toNat [] (by omega);rw[List.append_nil]at hp;have en:((n.toNat:Nat):Int)=n:=by omega
 rw[numberOf,e,hp];simp only[Lib.parseUint10];rw[en,if_pos ⟨rfl,Cx n h1 h2⟩]
theorem tw {s:List UInt8} {n:Int} (h:Lv s n):n=numberOf s:=by
 rcases h with⟨h1,h2,rfl⟩|⟨rfl,h⟩
 ·exact(jL n h1 h2).symm
 ·unfold numberOf;split
  ·rename_i u hu;split
   ·rename_i g;by_cases h1:1<=(u:Int)/\(u:Int)<=1073741824
    ·exact absurd g.1 (h u h1.1 h1.2)
    ·exfalso;have:=g.1;unfold nameOf at this;rw[if_neg h1]at this;exact g.2 this.symm
   ·rfl
  ·rfl
theorem tn {n m:Int} (h1:1<=n) (h2:n<=1073741824) (h3:1<=m) (h4:m<=1073741824) (h:nameOf n=nameOf m):n=m:=by
 rw[<-jL n h1 h2,h,jL m h3 h4]
theorem EX (m:Int) (h1:1<=m) (h2:m<=1073741824):(nameOf m).drop 4=Lib.decDigits m.toNat/\(nameOf m).take 4=[115,101,103,45]:=by
 unfold nameOf;rw[if_pos ⟨h1,h2⟩];exact⟨rfl,rfl⟩
end af
namespace Dk
structure ai where
 name:List UInt8
 bytes:ByteArray
 synced:Nat
def look:List ai->List UInt8->Option ai
 |[],_=>none
 |x::fs,k=>if x.name=k then some x else look fs k
def put (y:ai):List ai->List ai
 |[]=>[y]
 |x::fs=>if x.name=y.name then y::fs else if y.name<x.name then y::x::fs else x::put y fs
def del (k:List UInt8):List ai->List ai
 |[]=>[]
 |x::fs=>if x.name=k then fs else x::del k fs
def total:List ai->Nat
 |[]=>0
 |x::fs=>x.bytes.size+total fs
def Sorted (fs:List ai):Prop:=fs.Pairwise fun a b=>a.name<b.name
theorem ib:∀{fs:List ai} {k:List UInt8} {x:ai},look fs k=some x->x.name=k/\x∈fs
 |[],_,_,h=>by cases h
 |y::fs,k,x,h=>by
  rw[look]at h;split at h
  ·rename_i e;cases h;exact⟨e,by simp⟩
  ·have:=ib h;exact⟨this.1,by simp[this.2]⟩
theorem wZ:∀{fs:List ai} {k:List UInt8},look fs k=none->∀x∈fs,x.name≠k
 |[],_,_,x,hx=>by cases hx
 |y::fs,k,h,x,hx=>by
  rw[look]at h;split at h
  ·cases h
  ·rename_i e;rcases List.mem_cons.1 hx with rfl|hx
   ·exact e
   ·exact wZ h x hx
theorem a8 (y:ai):∀fs:List ai,look (put y fs) y.name=some y
 |[]=>by simp[put,look]
 |x::fs=>by
  rw[put];split
  ·simp[look]
  ·split
   ·simp[look]
   ·rename_i h _;rw[look,if_neg h,a8 y fs]
theorem aG (y:ai) {k:List UInt8} (hk:k≠y.name):∀fs:List ai,look (put y fs) k=look fs k
 |[]=>by simp only[put,look];rw[if_neg (Ne.symm hk)]
 |x::fs=>by
  rw[put];split
  ·rename_i h;simp only[look];rw[if_neg (Ne.symm hk),h,if_neg (Ne.symm hk)]
  ·split
   ·simp only[look];rw[if_neg (Ne.symm hk)]
   ·simp only[look];rw[aG y hk fs]
theorem rT (y:ai):∀(fs:List ai) (x:ai),x∈put y fs->x=y\/x∈fs
 |[],x,h=>by simp[put]at h;exact .inl h
 |z::fs,x,h=>by
  rw[put]at h;split at h
  ·rcases List.mem_cons.1 h with h|h
   ·exact .inl h
   ·exact .inr (by simp[h])
  ·split at h
   ·rcases List.mem_cons.1 h with h|h
    ·exact .inl h
    ·exact .inr h
   ·rcases List.mem_cons.1 h with h|h
    ·exact .inr (by simp[h])
    ·rcases rT y fs x h with h|h
     ·exact .inl h
     ·exact .inr (by simp[h])
theorem FY {a b:List UInt8} (h1:a≠b) (h2:¬b<a):a<b :=
 Std.lt_of_le_of_ne (Std.not_lt.1 h2) h1
theorem sorted_put (y:ai):∀fs:List ai,Sorted fs->Sorted (put y fs)
 |[],_=>by simp[put,Sorted]
 |x::fs,h=>by
  have h':=List.pairwise_cons.1 h;rw[put];split
  ·rename_i e;exact List.pairwise_cons.2 ⟨fun z hz=>by rw[<-e];exact h'.1 z hz,h'.2⟩
  ·split
   ·rename_i e;refine List.pairwise_cons.2 ⟨fun z hz=>?_,h⟩;rcases List.mem_cons.1 hz with rfl|hz
    ·exact e
    ·exact Std.lt_trans e (h'.1 z hz)
   ·rename_i e1 e2;refine List.pairwise_cons.2 ⟨fun z hz=>?_,sorted_put y fs h'.2⟩;rcases rT y fs z hz with rfl|hz
    ·exact FY e1 e2
    ·exact h'.1 z hz
theorem qX {x:ai} {fs:List ai} (h:Sorted (x::fs)):look fs x.name=none:=by
 have h':=(List.pairwise_cons.1 h).1;cases e:look fs x.name with
 |none=>rfl
 |some z =>
  have:=ib e;have h2:=h' z this.2;rw[this.1]at h2;exact absurd h2 (Std.lt_irrefl)
theorem gE (y:ai):∀fs:List ai,Sorted fs->(put y fs).length=if (look fs y.name).isSome then fs.length else fs.length+1
 |[],_=>by simp[put,look]
 |x::fs,h=>by
  have h':=List.pairwise_cons.1 h;rw[put];split
  ·rename_i e;simp[look,e]
  ·rename_i e1;split
   ·rename_i e2;have:look fs y.name=none:=by
     cases e:look fs y.name with
     |none=>rfl
     |some z =>
      have hz:=ib e;have h3:=Std.lt_trans e2 (h'.1 z hz.2);rw[hz.1]at h3;exact absurd h3 (Std.lt_irrefl)
    simp[look,e1,this]
   ·have:=gE y fs h'.2;simp only[List.length_cons,this,look,if_neg e1];split <;> rfl
theorem kj (y:ai):∀fs:List ai,Sorted fs->total (put y fs)+(match look fs y.name with|none=>0|some x=>x.bytes.size)=total fs+y.bytes.size
 |[],_=>by simp[put,look,total]
 |x::fs,h=>by
  have h':=List.pairwise_cons.1 h;rw[put];split
  ·rename_i e;simp only[look,e,if_true,total];omega
  ·rename_i e1;split
   ·rename_i e2;have:look fs y.name=none:=by
     cases e:look fs y.name with
     |none=>rfl
     |some z =>
      have hz:=ib e;have h3:=Std.lt_trans e2 (h'.1 z hz.2);rw[hz.1]at h3;exact absurd h3 (Std.lt_irrefl)
    simp only[look,if_neg e1,this,total];omega
   ·have:=kj y fs h'.2;simp only[look,if_neg e1,total];omega
theorem vD:∀{fs:List ai} {k:List UInt8} {x:ai},look fs k=some x->x.bytes.size<=total fs
 |[],_,_,h=>by cases h
 |y::fs,k,x,h=>by
  rw[look]at h;split at h
  ·cases h;simp only[total];omega
  ·have:=vD h;simp only[total];omega
theorem Cy (k:List UInt8):∀(fs:List ai) (x:ai),x∈del k fs->x∈fs
 |[],_,h=>by cases h
 |z::fs,x,h=>by
  rw[del]at h;split at h
  ·simp[h]
  ·rcases List.mem_cons.1 h with h|h
   ·simp[h]
   ·simp[Cy k fs x h]
theorem sorted_del (k:List UInt8):∀fs:List ai,Sorted fs->Sorted (del k fs)
 |[],_=>by simp[del,Sorted]
 |x::fs,h=>by
  have h':=List.pairwise_cons.1 h;rw[del];split
  ·exact h'.2
  ·exact List.pairwise_cons.2 ⟨fun z hz=>h'.1 z (Cy k fs z hz),sorted_del k fs h'.2⟩
theorem eT (k:List UInt8):∀fs:List ai,Sorted fs->look (del k fs) k=none
 |[],_=>rfl
 |x::fs,h=>by
  have h':=List.pairwise_cons.1 h;rw[del];split
  ·rename_i e;subst e;exact qX h
  ·rename_i e;rw[look,if_neg e,eT k fs h'.2]
theorem cP (k:List UInt8) {j:List UInt8} (hj:j≠k):∀fs:List ai,look (del k fs) j=look fs j
 |[]=>rfl
 |x::fs=>by
  rw[del];split
  ·rename_i e;rw[look,if_neg (by rw[e];exact Ne.symm hj)]
  ·simp only[look];rw[cP k hj fs]
theorem rY (k:List UInt8):∀fs:List ai,(del k fs).length+(if (look fs k).isSome then 1 else 0)=fs.length
 |[]=>rfl
 |x::fs=>by
  rw[del];split
  ·rename_i e;simp[look,e]
  ·rename_i e;have:=rY k fs;simp only[List.length_cons,look,if_neg e];omega
theorem lP (k:List UInt8):∀fs:List ai,total (del k fs)+(match look fs k with|none=>0|some x=>x.bytes.size)=total fs
 |[]=>rfl
 |x::fs=>by
  rw[del];split
  ·rename_i e;simp only[look,e,if_true,total];omega
  ·rename_i e;have:=lP k fs;simp only[look,if_neg e,total];omega
theorem pG (k:List UInt8):∀fs:List ai,look fs k=none->del k fs=fs
 |[],_=>rfl
 |x::fs,h=>by
  rw[look]at h;split at h
  ·cases h
  ·rename_i e;rw[del,if_neg e,pG k fs h]
def more (k:List UInt8) (s:ByteArray):Option ai->ai
 |none=>⟨k,s,0⟩
 |some x=>⟨k,x.bytes++s,x.synced⟩
def append (room:Int) (k:List UInt8) (s:ByteArray) (fs:List ai):List ai×Nat :=
 if Txt.name k=false then (fs,1) else
 if look fs k=none/\40<=fs.length then (fs,4) else
 if room-(total fs:Int)<(s.size:Int) then (fs,8) else
 (put (more k s (look fs k)) fs,0)
def sync (k:List UInt8) (fs:List ai):List ai×Nat :=
 match look fs k with
 |none=>(fs,6)
 |some x=>(put ⟨k,x.bytes,x.bytes.size⟩ fs,0)
def read (k:List UInt8) (fs:List ai):ByteArray×Nat :=
 match look fs k with
 |none=>(⟨#[]⟩,6)
 |some x=>(x.bytes,0)
def synced (k:List UInt8) (fs:List ai):Nat :=
 match look fs k with
 |none=>0
 |some x=>x.synced
def delete (k:List UInt8) (fs:List ai):List ai×Nat :=
 match look fs k with
 |none=>(fs,6)
 |some _=>(del k fs,0)
def rename (a b:List UInt8) (fs:List ai):List ai×Nat :=
 match look fs a with
 |none=>(fs,6)
 |some x=>if Txt.name b=false then (fs,1) else if a=b then (fs,0) else (put ⟨b,x.bytes,x.synced⟩ (del a (del b fs)),0)
end Dk
structure Env (w:World):Prop where
 LG:Lib.Utf8Tabs 0 1 w
 LX:∃te pe,w.cell? ⟨2,0,none⟩=some (.iface te pe)
 LY:∃te pe,w.cell? ⟨3,0,none⟩=some (.iface te pe)
 pow:∃t fr,w.heap[4]?=some (.cells (Lib.pow10Tab.map fun z=>Value.int .u64 z).toArray t fr)
theorem cell_kept {w w':World} {B:Nat} (hb:Below B w w') (hB:w.heap.size<=B) {a:Addr} {v:Value} (h:w.cell? a=some v):w'.cell? a=some v :=
 (hb.cell (Nat.lt_of_lt_of_le (World.block_lt_of_cell? _ _ h) hB)).trans h
theorem au {w w':World} {B k:Nat} {o:Obj} (hb:Below B w w') (hB:w.heap.size<=B) (h:w.heap[k]?=some o):w'.heap[k]?=some o :=
 (hb.block k (Nat.lt_of_lt_of_le (aA.1 h).1 hB)).trans h
theorem Env.next {w w':World} (h:Env w) (hb:Below w.heap.size w w'):Env w':=by
 have ck:∀{a v},w.cell? a=some v->w'.cell? a=some v:=fun hc=>cell_kept hb ab hc;obtain⟨⟨t1,t2⟩,⟨a,b,h1⟩,⟨c,d,h2⟩,⟨e,f,h3⟩⟩:=h;exact⟨⟨fun c hc=>ck (t1 c hc),fun i hi=>⟨ck (t2 i hi).1,ck (t2 i hi).2⟩⟩,⟨a,b,ck h1⟩,⟨c,d,ck h2⟩,⟨e,f,au hb ab h3⟩⟩
theorem bZ {w w':World} (hb:Below w.heap.size w w'):w.grownBy w' none :=
 ⟨hb.os,hb.tape,hb.output,hb.size,fun k hk _=>hb.block k hk⟩
theorem q_u9 {T e B b:Nat} {p:Value} {bs:List Value} {w w':World} (h:Lib.BuilderAtF T e B b p bs w) (hb:Below w.heap.size w w'):Lib.BuilderAtF T e B b p bs w':=by
 obtain⟨hB,v,hbk,hown,hne⟩:=h;refine⟨hB,v,au hb ab hbk,hown.kept (bZ hb) ?_,hne⟩;cases hv:v.ownBlock <;> simp
theorem fP.next {B b:Nat} {l:List UInt8} {w w':World} (h:fP B b l w) (hb:Below w.heap.size w w'):fP B b l w':=by
 rcases h with h|h
 ·exact .inl (q_u9 h hb)
 ·exact .inr (q_u9 h hb)
theorem fP.alloc {B b:Nat} {l:List UInt8} {w:World} (h:fP B b l w) (o:Obj):fP B b l (w.alloc o):=Lib.IsBuilderF.alloc h o
theorem Below.up {B:Nat} {a w w':World} (h:Below B a w) (hB:B<=a.heap.size) (hb:Below w.heap.size w w'):Below B a w':=h.trans (hb.mono (Nat.le_trans hB h.size))
theorem Env.iterAt {w:World} (h:Env w) {k:Nat} {s:ByteArray} {pos:Nat} (hk:w.heap[k]?=some (.stringIter s pos)) (pos':Nat):Env (w.iterAt k s pos'):=by
 have ck:∀{a v},w.cell? a=some v->(w.iterAt k s pos').cell? a=some v:=by
  intro a v hc;have hne:a.block≠k:=by
   intro e;simp[World.cell?,e,hk]at hc
  rw[World.cell?_of_block (Lib.iterAt_other w k a.block s pos' hne)];exact hc
 obtain⟨⟨t1,t2⟩,⟨a,b,h1⟩,⟨c,d,h2⟩,⟨e,f,h3⟩⟩:=h;refine⟨⟨fun c hc=>ck (t1 c hc),fun i hi=>⟨ck (t2 i hi).1,ck (t2 i hi).2⟩⟩,⟨a,b,ck h1⟩,⟨c,d,ck h2⟩,⟨e,f,?_⟩⟩;rw[Lib.iterAt_other w k _ s pos' (by intro e0;rw[e0,hk]at h3;cases h3)];exact h3
theorem yP {nm:String} {w:World} (hg:prog.globalNamed nm=some 4) (h:∃t fr,w.heap[4]?=some (.cells (Lib.pow10Tab.map fun z=>Value.int .u64 z).toArray t fr)):Lib.TabIs prog w nm .u64 Lib.pow10Tab:=by
 obtain⟨t,fr,h⟩:=h;unfold Lib.TabIs World.var?;rw[hg];simp only[Option.bind_some,h]
theorem Il (n:Int) (h0 : -9223372036854775808<=n) (h1:n<=9223372036854775807) (w:World) (hE:Env w) :
 Calls prog 232 #[.int .i64 n] w fun e w'=>e=.returned (.string ⟨(Lib.itoa n).toArray⟩)/\Below w.heap.size w w':=by
 refine(Any.strconv_Itoa Tryz.Ia n h0 h1 w (yP (by kernel_rfl) hE.pow)).mono ?_;rintro e w' ⟨rfl,k,os,rfl⟩;exact⟨rfl,Lib.below_grow _ w ab k os⟩
theorem CZ (s:ByteArray) (pos:Nat) :
 Txt.tok (s.data.toList.drop pos)=if (Utf8.decode s pos).1=65533/\(Utf8.decode s pos).2=1 then (-1,1) else (((Utf8.decode s pos).1:Int),(Utf8.decode s pos).2):=by
 rw[<-Lib.decodeL_drop,Lib.decodeL_N];rfl
theorem drop_cons (s:ByteArray) (pos:Nat) (h:pos<s.size):∃b t,s.data.toList.drop pos=b::t:=by
 match e:s.data.toList.drop pos with
 |b::t=>exact⟨b,t,rfl⟩
 |[] =>
  have:=congrArg List.length e;simp only[List.length_drop,List.length_nil,Array.length_toList]at this;have e2:s.size=s.data.size:=rfl;omega
theorem Hr (s:ByteArray) (pos:Nat) (h:pos<s.size) :
 ∃(r:Int) (n:Nat) (k:Nat),Utf8.decode s pos=(k,n)/\Txt.iw (s.data.toList.drop pos)=(r,(s.data.toList.drop pos).take n)::Txt.iw (s.data.toList.drop (pos+n)) /\
  1<=n/\pos+n<=s.size/\Txt.Shape (r,(s.data.toList.drop pos).take n) /\
  ((r = -1/\k=65533/\n=1)\/(0<=r/\r=(k:Int)/\¬(k=65533/\n=1))):=by
 obtain⟨b,t,e⟩:=drop_cons s pos h;have ht:=CZ s pos;have hw:=Txt.lJ b t;have hs:=Txt.wI b t;have hl:(b::t).length=s.size-pos:=by rw[<-e,List.length_drop,Array.length_toList];rfl
 have hc:=Txt.nk b t;rw[<-e]at hw hs hc hl;generalize Utf8.decode s pos=d at ht ⊢;obtain⟨k,n⟩:=d;simp only at ht;by_cases hc2:k=65533/\n=1
 ·rw[if_pos hc2]at ht;rw[ht]at hw hs hc;obtain⟨rfl,rfl⟩:=hc2;refine⟨-1,1,65533,rfl,?_,ab,by omega,hs,.inl ⟨rfl,rfl,rfl⟩⟩;rw[hc,List.drop_drop]
 ·rw[if_neg hc2]at ht;rw[ht]at hw hs hc;simp only at hw;refine⟨(k:Int),n,k,rfl,?_,hw.1,by omega,hs,.inr ⟨by omega,rfl,hc2⟩⟩;rw[hc,List.drop_drop]
theorem Cb (s:ByteArray) (pos:Nat) (h:pos<s.size):Lib.decodeGo (s.extract pos s.size)=Utf8.decode s pos:=by
 have hz:¬(s.extract pos s.size).size=0:=by simp[ByteArray.size_extract];omega
 have e:(s.extract pos s.size).data.toList=s.data.toList.drop pos:=by
  rw[Lib.extract_to_end]
 unfold Lib.decodeGo;rw[if_neg hz];have h0:=Lib.decodeL_drop (s.extract pos s.size) 0;rw[List.drop_zero,e,Lib.decodeL_drop]at h0;exact h0.symm
theorem wE (s:ByteArray) (pos k n:Nat) (w:World) (hE:Env w) (_hs:s.size<=1000000000000) (hp:pos<s.size) (hd:Utf8.decode s pos=(k,n)) (b:Bool) (hb:b=(decide (k=65533)&&decide (n=1))) :
 Calls prog 184 #[.string s,.int .i64 pos,.int .i32 k] w fun e w'=>e=.returned (.bool b)/\Below w.heap.size w w':=by
 have HD:=ad (Cb s pos hp);have HK:=ad hd;have HB:=ad hb;clear hd hb;by_cases hk:k=65533
 ·subst hk;go_enter func184,ntmps184;go_wp2_with fail;refine(Tryz.utf8_DecodeRuneInString _ _ hE.LG).mono ?_;rintro e w1 ⟨rfl,hb1⟩;rw[HD.out,HK.out];go_wp2;go_ret;refine⟨?_,hb1⟩;rw[HB.out];simp;cases Classical.em (n=1)with
  |inl h=>subst h;rfl
  |inr h=>simp[h];omega
 ·have hk1:((k:Int) != 65533)=true:=by rw[bne_iff_ne];omega
  go_enter func184,ntmps184;go_wp2;go_ret;refine⟨?_,ae _ _⟩;rw[HB.out];simp[hk]
theorem bX {w w':World} {B e sz n:Nat} {v:Value} {xs:List Value} (h:w.ownsRow B e sz v n xs) (hb:Below w.heap.size w w'):w'.ownsRow B e sz v n xs :=
 h.kept (bZ hb) (by cases v.ownBlock <;> simp)
def Cells (w:World) (v:Value) (sz n:Nat) (xs:List Value):Prop :=
 xs.length=n*sz/\((n=0/\∃a c,v=.slice a 0 c)\/∃b o c,v=.slice (some ⟨b,o,none⟩) n c/\∀j u,xs[j]?=some u->w.cell? ⟨b,o+j,none⟩=some u)
theorem Cells.next {w w':World} {v:Value} {sz n:Nat} {xs:List Value} (h:Cells w v sz n xs) (hb:Below w.heap.size w w'):Cells w' v sz n xs:=by
 refine⟨h.1,?_⟩;rcases h.2 with h|⟨b,o,c,h1,h2⟩
 ·exact .inl h
 ·exact .inr ⟨b,o,c,h1,fun j u hj=>cell_kept hb ab (h2 j u hj)⟩
theorem aj {w:World} {B e sz n:Nat} {v:Value} {xs:List Value} (h:w.ownsRow B e sz v n xs):Cells w v sz n xs:=by
 refine⟨h.1,?_⟩;rcases h.2 with⟨h1,h2⟩|⟨g,cap,cur,rfl,hb,hg,hc,hm,hs,ht⟩
 ·exact .inl ⟨h2,_,_,h1⟩
 ·refine .inr ⟨g,0,cap,rfl,fun j u hj=>?_⟩;have:=h.cells (g:=g) rfl j u hj;rw[show((⟨g,0,none⟩:Addr).add j)=⟨g,0+j,none⟩by unfold Addr.add;split <;> simp_all]at this;exact this
theorem foldl_push (l:List UInt8):∀s:ByteArray,(l.map fun b=>((b.toNat:Nat):Int)).foldl (fun r n=>r.push (UInt8.ofNat n.toNat)) s=⟨(s.data.toList++l).toArray⟩:=by
 induction l with
 |nil=>intro s;simp
 |cons b l ih =>
  intro s;simp only[List.map_cons,List.foldl_cons,ih];simp[ByteArray.push]
theorem mD {w:World} {B:Nat} {v:Value} {acc:List UInt8} (hown:w.ownsRow B 5 1 v acc.length (Lib.byteCells acc)) :
 (convert 167 9 v).run prog w=.ok (.string ⟨acc.toArray⟩) w:=by
 rcases hown.2 with⟨rfl,h0⟩|⟨g,cap,cur,rfl,hb,hg,hc,hm,hs,ht⟩
 ·have:acc=[]:=aP h0;subst this;rw[run_convert_bytes_string w _ _ 5 _ _ _ underlying167 underlying5 underlying9];rfl
 ·rw[run_convert_bytes_string w _ _ 5 _ _ _ underlying167 underlying5 underlying9];have h:=run_loadCells_list (P:=prog) w (⟨g,0,none⟩:Addr) (Lib.byteCells acc) (fun j u hj=>hown.cells (g:=g) rfl j u hj);rw[Lib.byteCells_length]at h;have e:Lib.byteCells acc=(acc.map fun b=>((b.toNat:Nat):Int)).map (Value.int .u8):=by simp[Lib.byteCells]
  rw[e]at h;rw[run_bytesToString w _ _ _ _ h,foldl_push];rfl
def aE (l:List Int):List Value:=l.map (Value.int .i64)
def strCells (l:List (List UInt8)):List Value:=l.map fun x=>Value.string ⟨x.toArray⟩
end Go.Proofs.YtmgmknmaepjnoaaGreatDoor
namespace Go.Proofs
open Go.Shelf
def Tryz.sH:Go.Shelf.Ren:=⟨fun|7=>197|10=>228|n=>n,fun|23=>127|26=>9|3=>249|28=>318|0=>0|27=>317|33=>151|4=>4|n=>n,fun|n=>n⟩
theorem Tryz.CB:Go.Proofs.SlLaysZ.n7 Tryz.prog Tryz.sH:={
 mixed:=by kernel_rfl
 f7:=⟨Tryz.f197.name,by decide,Tryz.func197.trans (congrArg some (by kernel_rfl))⟩
 f10:=⟨Tryz.f228.name,by decide,Tryz.func228.trans (congrArg some (by kernel_rfl))⟩
 t0:=Tryz.underlying0
 a0:=Tryz.isAgg0
 z0:=Tryz.sizeOf0
 v0:=Tryz.zeroValue0
 t4:=Tryz.underlying4
 a4:=Tryz.isAgg4
 z4:=Tryz.sizeOf4
 v4:=Tryz.zeroValue4
 t23:=Tryz.underlying127
 a23:=Tryz.isAgg127
 z23:=Tryz.sizeOf127
 v23:=Tryz.zeroValue127
 t26:=Tryz.underlying9
 a26:=Tryz.isAgg9
 z26:=Tryz.sizeOf9
 v26:=Tryz.zeroValue9
 t27:=Tryz.underlying317
 a27:=Tryz.isAgg317
 z27:=Tryz.sizeOf317
 v27:=Tryz.zeroValue317
 t28:=Tryz.underlying318
 a28:=Tryz.isAgg318
 z28:=Tryz.sizeOf318
 v28:=Tryz.zeroValue318
 t33:=Tryz.underlying151
 a33:=Tryz.isAgg151
 z33:=Tryz.sizeOf151
 v33:=Tryz.zeroValue151}
def Tryz.pQ:Go.Shelf.Ren:=⟨fun|6=>196|8=>226|9=>227|11=>260|13=>217|12=>261|23=>252|24=>253|14=>279|15=>280|16=>281|17=>282|18=>283|19=>284|20=>285|21=>286|22=>287|25=>298|26=>272|27=>273|28=>299|29=>300|30=>301|31=>309|n=>n,fun|26=>9|28=>318|24=>260|0=>0|3=>3|37=>235|48=>246|50=>380|4=>4|40=>373|39=>372|45=>293|5=>5|9=>9|51=>397|55=>336|57=>423|58=>339|33=>151|n=>n,fun|n=>n⟩
theorem Tryz.Fj:Go.Proofs.SlLaysZ.n6 Tryz.prog Tryz.pQ:={
 mixed:=by kernel_rfl
 f6:=⟨Tryz.f196.name,by decide,Tryz.func196.trans (congrArg some (by kernel_rfl))⟩
 f8:=⟨Tryz.f226.name,by decide,Tryz.func226.trans (congrArg some (by kernel_rfl))⟩
 f11:=⟨Tryz.f260.name,by decide,Tryz.func260.trans (congrArg some (by kernel_rfl))⟩
 t0:=Tryz.underlying0
 a0:=Tryz.isAgg0
 z0:=Tryz.sizeOf0
 v0:=Tryz.zeroValue0
 t24:=Tryz.underlying260
 a24:=Tryz.isAgg260
 z24:=Tryz.sizeOf260
 v24:=Tryz.zeroValue260
 t26:=Tryz.underlying9
 a26:=Tryz.isAgg9
 z26:=Tryz.sizeOf9
 v26:=Tryz.zeroValue9
 t28:=Tryz.underlying318
 a28:=Tryz.isAgg318
 z28:=Tryz.sizeOf318
 v28:=Tryz.zeroValue318
 i26:=by kernel_rfl}
def Tryz.A0:Go.Shelf.Ren:=⟨fun|6=>227|8=>217|9=>261|19=>252|20=>253|21=>279|22=>280|23=>281|24=>282|25=>283|26=>284|27=>285|28=>286|29=>287|36=>298|31=>272|32=>273|37=>299|38=>300|39=>301|41=>309|n=>n,fun|27=>260|29=>9|3=>3|32=>235|26=>260|0=>0|44=>246|46=>380|4=>4|36=>373|35=>372|41=>293|5=>5|9=>9|53=>397|57=>336|63=>423|64=>339|n=>n,fun|n=>n⟩
theorem Tryz.Cq:Go.Proofs.SlLaysM.n6 Tryz.prog Tryz.A0:={
 mixed:=by kernel_rfl
 f6:=⟨Tryz.f227.name,by decide,Tryz.func227.trans (congrArg some (by kernel_rfl))⟩
 f8:=Tryz.func217.trans (congrArg some (by kernel_rfl))
 f9:=⟨Tryz.f261.name,by decide,Tryz.func261.trans (congrArg some (by kernel_rfl))⟩
 f19:=Tryz.func252.trans (congrArg some (by kernel_rfl))
 f20:=Tryz.func253.trans (congrArg some (by kernel_rfl))
 f21:=⟨Tryz.f279.name,by decide,Tryz.func279.trans (congrArg some (by kernel_rfl))⟩
 f22:=⟨Tryz.f280.name,by decide,Tryz.func280.trans (congrArg some (by kernel_rfl))⟩
 f23:=⟨Tryz.f281.name,by decide,Tryz.func281.trans (congrArg some (by kernel_rfl))⟩
 f24:=⟨Tryz.f282.name,by decide,Tryz.func282.trans (congrArg some (by kernel_rfl))⟩
 f25:=⟨Tryz.f283.name,by decide,Tryz.func283.trans (congrArg some (by kernel_rfl))⟩
 f26:=⟨Tryz.f284.name,by decide,Tryz.func284.trans (congrArg some (by kernel_rfl))⟩
 f27:=⟨Tryz.f285.name,by decide,Tryz.func285.trans (congrArg some (by kernel_rfl))⟩
 f28:=⟨Tryz.f286.name,by decide,Tryz.func286.trans (congrArg some (by kernel_rfl))⟩
 f29:=⟨Tryz.f287.name,by decide,Tryz.func287.trans (congrArg some (by kernel_rfl))⟩
 f31:=Tryz.func272.trans (congrArg some (by kernel_rfl))
 f32:=Tryz.func273.trans (congrArg some (by kernel_rfl))
 f36:=⟨Tryz.f298.name,by decide,Tryz.func298.trans (congrArg some (by kernel_rfl))⟩
 f37:=⟨Tryz.f299.name,by decide,Tryz.func299.trans (congrArg some (by kernel_rfl))⟩
 f38:=⟨Tryz.f300.name,by decide,Tryz.func300.trans (congrArg some (by kernel_rfl))⟩
 f39:=⟨Tryz.f301.name,by decide,Tryz.func301.trans (congrArg some (by kernel_rfl))⟩
 f41:=⟨Tryz.f309.name,by decide,Tryz.func309.trans (congrArg some (by kernel_rfl))⟩
 t0:=Tryz.underlying0
 a0:=Tryz.isAgg0
 z0:=Tryz.sizeOf0
 v0:=Tryz.zeroValue0
 t3:=Tryz.underlying3
 a3:=Tryz.isAgg3
 z3:=Tryz.sizeOf3
 v3:=Tryz.zeroValue3
 t4:=Tryz.underlying4
 a4:=Tryz.isAgg4
 z4:=Tryz.sizeOf4
 v4:=Tryz.zeroValue4
 t5:=Tryz.underlying5
 a5:=Tryz.isAgg5
 z5:=Tryz.sizeOf5
 v5:=Tryz.zeroValue5
 t9:=Tryz.underlying9
 a9:=Tryz.isAgg9
 z9:=Tryz.sizeOf9
 v9:=Tryz.zeroValue9
 t26:=Tryz.underlying260
 a26:=Tryz.isAgg260
 z26:=Tryz.sizeOf260
 v26:=Tryz.zeroValue260
 t27:=Tryz.underlying260
 a27:=Tryz.isAgg260
 z27:=Tryz.sizeOf260
 v27:=Tryz.zeroValue260
 t29:=Tryz.underlying9
 a29:=Tryz.isAgg9
 z29:=Tryz.sizeOf9
 v29:=Tryz.zeroValue9
 t32:=Tryz.underlying235
 a32:=Tryz.isAgg235
 z32:=Tryz.sizeOf235
 v32:=Tryz.zeroValue235
 t35:=Tryz.underlying372
 a35:=Tryz.isAgg372
 z35:=Tryz.sizeOf372
 v35:=Tryz.zeroValue372
 t36:=Tryz.underlying373
 a36:=Tryz.isAgg373
 z36:=Tryz.sizeOf373
 v36:=Tryz.zeroValue373
 t41:=Tryz.underlying293
 a41:=Tryz.isAgg293
 z41:=Tryz.sizeOf293
 v41:=Tryz.zeroValue293
 t44:=Tryz.underlying246
 a44:=Tryz.isAgg246
 z44:=Tryz.sizeOf246
 v44:=Tryz.zeroValue246
 t46:=Tryz.underlying380
 a46:=Tryz.isAgg380
 z46:=Tryz.sizeOf380
 v46:=Tryz.zeroValue380
 t53:=Tryz.underlying397
 a53:=Tryz.isAgg397
 z53:=Tryz.sizeOf397
 v53:=Tryz.zeroValue397
 t57:=Tryz.underlying336
 a57:=Tryz.isAgg336
 z57:=Tryz.sizeOf336
 v57:=Tryz.zeroValue336
 t63:=Tryz.underlying423
 a63:=Tryz.isAgg423
 z63:=Tryz.sizeOf423
 v63:=Tryz.zeroValue423
 t64:=Tryz.underlying339
 a64:=Tryz.isAgg339
 z64:=Tryz.sizeOf339
 v64:=Tryz.zeroValue339}
open Go.RowKit Go.Maps Go.Sort
theorem Tryz.GZ (m:Nat):AnyZ.SortsIn Tryz.prog Tryz.pQ Fence.wide m :=
 ⟨fun blk off cap ss W hH hblk hsz=>callsIn_wide.2 (AnyM.slices_Sort_string Tryz.Cq blk off cap ss W hH hblk hsz),
  fun p cap W=>callsIn_wide.2 (AnyM.slices_Sort_string_none Tryz.Cq p cap W)⟩
theorem Tryz.yg (mb:Option Nat) (W:World):CallsIn Fence.wide 5 Tryz.prog 197 #[.map mb] W fun e w'=>e=.returned (.func (.func 228) #[] #[.pointer (some ⟨W.heap.size,0,none⟩)])/\w'=W.alloc (.cells #[.map mb] 127) :=
 AnyZ.keys_in Tryz.CB Fence.wide 5 trivial rfl mb W
set_option maxHeartbeats 1000000 in
theorem Tryz.lT {H:Type} (b nn:Nat) (D0:DataW H) (R:Value->Option (DataW H×List MemPlace)) (w:World) (hown:w.ownsMap Tryz.prog 9 R b nn D0) (hmax:Maps.size D0<=maxLen) (hbytes:Maps.size D0*16<=140737488355328) :
 CallsIn Fence.wide 5 Tryz.prog 196 #[.func (.func 228) #[] #[.pointer (some ⟨w.heap.size,0,none⟩)]] (w.alloc (.cells #[.map (some b)] 127)) fun e w'=>∃(v:Value) (ss:List (List UInt8)),e=.returned v/\ss.Perm (strKeys D0) /\
  w'.ownsRow (w.alloc (.cells #[.map (some b)] 127)).heap.size 9 1 v ss.length ((ss.mergeSort (fun x y=>decide (x<=y))).map encStr)/\(v=.slice none 0 0↔ss=[])/\Below (w.alloc (.cells #[.map (some b)] 127)).heap.size (w.alloc (.cells #[.map (some b)] 127)) w':=by
 have hbl:=hown.lt;have hseq:SeqGives Fence.wide 2 Tryz.prog 228 #[.pointer (some ⟨w.heap.size,0,none⟩)] encStr (fun ss=>ss.Perm (strKeys D0)) (Maps.size D0) (w.alloc (.cells #[.map (some b)] 127)) :=
  AnyZ.keys_gives (ρ:=Tryz.sH) {Tryz.CB with} Fence.wide _ trivial rfl (by omega) w.heap.size b nn D0 _ (by simp) (by simp) (by
   obtain⟨es,clock,hb,Ft,hs,hD⟩:=hown;exact⟨es,clock,(Below.heap_alloc _ _ b hbl).trans hb,Ft,hs,hD⟩)
 exact AnyZ.sorted_in Tryz.Fj Fence.wide 5 trivial trivial trivial trivial rfl (by omega) (Tryz.GZ _) (enters_of Tryz.func227 (by kernel_rfl) rfl) 228 #[.pointer (some ⟨w.heap.size,0,none⟩)] trivial (enters_of Tryz.func228 (by kernel_rfl) rfl) _ _ hmax hbytes _ hseq
end Go.Proofs
namespace Go.Proofs
open Go.Shelf
def Tryz.ri:Go.Shelf.Ren:=⟨fun|7=>214|10=>242|n=>n,fun|23=>275|26=>3|3=>278|28=>346|0=>0|27=>345|33=>150|4=>4|n=>n,fun|n=>n⟩
theorem Tryz.Ac:Go.Proofs.SlLaysZI.n7 Tryz.prog Tryz.ri:={
 mixed:=by kernel_rfl
 f7:=⟨Tryz.f214.name,by decide,Tryz.func214.trans (congrArg some (by kernel_rfl))⟩
 f10:=⟨Tryz.f242.name,by decide,Tryz.func242.trans (congrArg some (by kernel_rfl))⟩
 t0:=Tryz.underlying0
 a0:=Tryz.isAgg0
 z0:=Tryz.sizeOf0
 v0:=Tryz.zeroValue0
 t4:=Tryz.underlying4
 a4:=Tryz.isAgg4
 z4:=Tryz.sizeOf4
 v4:=Tryz.zeroValue4
 t23:=Tryz.underlying275
 a23:=Tryz.isAgg275
 z23:=Tryz.sizeOf275
 v23:=Tryz.zeroValue275
 t26:=Tryz.underlying3
 a26:=Tryz.isAgg3
 z26:=Tryz.sizeOf3
 v26:=Tryz.zeroValue3
 t27:=Tryz.underlying345
 a27:=Tryz.isAgg345
 z27:=Tryz.sizeOf345
 v27:=Tryz.zeroValue345
 t28:=Tryz.underlying346
 a28:=Tryz.isAgg346
 z28:=Tryz.sizeOf346
 v28:=Tryz.zeroValue346
 t33:=Tryz.underlying150
 a33:=Tryz.isAgg150
 z33:=Tryz.sizeOf150
 v33:=Tryz.zeroValue150}
def Tryz.oq:Go.Shelf.Ren:=⟨fun|6=>213|8=>241|9=>172|11=>270|13=>217|12=>216|23=>252|24=>253|14=>243|15=>244|16=>245|17=>246|18=>247|19=>248|20=>249|21=>250|22=>251|25=>271|26=>272|27=>273|28=>274|29=>275|30=>276|31=>294|n=>n,fun|26=>3|28=>346|24=>32|0=>0|3=>3|37=>235|48=>246|50=>380|4=>4|40=>373|39=>372|45=>293|5=>5|9=>9|51=>397|55=>336|57=>423|58=>339|33=>150|n=>n,fun|n=>n⟩
theorem Tryz.Db:Go.Proofs.SlLaysZI.n6 Tryz.prog Tryz.oq:={
 mixed:=by kernel_rfl
 f6:=⟨Tryz.f213.name,by decide,Tryz.func213.trans (congrArg some (by kernel_rfl))⟩
 f8:=⟨Tryz.f241.name,by decide,Tryz.func241.trans (congrArg some (by kernel_rfl))⟩
 f11:=⟨Tryz.f270.name,by decide,Tryz.func270.trans (congrArg some (by kernel_rfl))⟩
 t0:=Tryz.underlying0
 a0:=Tryz.isAgg0
 z0:=Tryz.sizeOf0
 v0:=Tryz.zeroValue0
 t24:=Tryz.underlying32
 a24:=Tryz.isAgg32
 z24:=Tryz.sizeOf32
 v24:=Tryz.zeroValue32
 t26:=Tryz.underlying3
 a26:=Tryz.isAgg3
 z26:=Tryz.sizeOf3
 v26:=Tryz.zeroValue3
 t28:=Tryz.underlying346
 a28:=Tryz.isAgg346
 z28:=Tryz.sizeOf346
 v28:=Tryz.zeroValue346
 i26:=by kernel_rfl}
def Tryz.yR:Go.Shelf.Ren:=⟨fun|5=>172|8=>217|7=>216|19=>252|20=>253|10=>243|11=>244|12=>245|13=>246|14=>247|15=>248|16=>249|17=>250|18=>251|30=>271|31=>272|32=>273|33=>274|34=>275|35=>276|40=>294|n=>n,fun|23=>32|25=>3|3=>3|32=>235|22=>32|0=>0|44=>246|46=>380|4=>4|36=>373|35=>372|41=>293|5=>5|9=>9|53=>397|57=>336|63=>423|64=>339|n=>n,fun|n=>n⟩
theorem Tryz.yS:Go.Proofs.SlLaysM.n5 Tryz.prog Tryz.yR:={
 mixed:=by kernel_rfl
 f5:=⟨Tryz.f172.name,by decide,Tryz.func172.trans (congrArg some (by kernel_rfl))⟩
 f7:=⟨Tryz.f216.name,by decide,Tryz.func216.trans (congrArg some (by kernel_rfl))⟩
 f8:=Tryz.func217.trans (congrArg some (by kernel_rfl))
 f10:=⟨Tryz.f243.name,by decide,Tryz.func243.trans (congrArg some (by kernel_rfl))⟩
 f11:=⟨Tryz.f244.name,by decide,Tryz.func244.trans (congrArg some (by kernel_rfl))⟩
 f12:=⟨Tryz.f245.name,by decide,Tryz.func245.trans (congrArg some (by kernel_rfl))⟩
 f13:=⟨Tryz.f246.name,by decide,Tryz.func246.trans (congrArg some (by kernel_rfl))⟩
 f14:=⟨Tryz.f247.name,by decide,Tryz.func247.trans (congrArg some (by kernel_rfl))⟩
 f15:=⟨Tryz.f248.name,by decide,Tryz.func248.trans (congrArg some (by kernel_rfl))⟩
 f16:=⟨Tryz.f249.name,by decide,Tryz.func249.trans (congrArg some (by kernel_rfl))⟩
 f17:=⟨Tryz.f250.name,by decide,Tryz.func250.trans (congrArg some (by kernel_rfl))⟩
 f18:=⟨Tryz.f251.name,by decide,Tryz.func251.trans (congrArg some (by kernel_rfl))⟩
 f19:=Tryz.func252.trans (congrArg some (by kernel_rfl))
 f20:=Tryz.func253.trans (congrArg some (by kernel_rfl))
 f30:=⟨Tryz.f271.name,by decide,Tryz.func271.trans (congrArg some (by kernel_rfl))⟩
 f31:=Tryz.func272.trans (congrArg some (by kernel_rfl))
 f32:=Tryz.func273.trans (congrArg some (by kernel_rfl))
 f33:=⟨Tryz.f274.name,by decide,Tryz.func274.trans (congrArg some (by kernel_rfl))⟩
 f34:=⟨Tryz.f275.name,by decide,Tryz.func275.trans (congrArg some (by kernel_rfl))⟩
 f35:=⟨Tryz.f276.name,by decide,Tryz.func276.trans (congrArg some (by kernel_rfl))⟩
 f40:=⟨Tryz.f294.name,by decide,Tryz.func294.trans (congrArg some (by kernel_rfl))⟩
 t0:=Tryz.underlying0
 a0:=Tryz.isAgg0
 z0:=Tryz.sizeOf0
 v0:=Tryz.zeroValue0
 t3:=Tryz.underlying3
 a3:=Tryz.isAgg3
 z3:=Tryz.sizeOf3
 v3:=Tryz.zeroValue3
 t4:=Tryz.underlying4
 a4:=Tryz.isAgg4
 z4:=Tryz.sizeOf4
 v4:=Tryz.zeroValue4
 t5:=Tryz.underlying5
 a5:=Tryz.isAgg5
 z5:=Tryz.sizeOf5
 v5:=Tryz.zeroValue5
 t9:=Tryz.underlying9
 a9:=Tryz.isAgg9
 z9:=Tryz.sizeOf9
 v9:=Tryz.zeroValue9
 t22:=Tryz.underlying32
 a22:=Tryz.isAgg32
 z22:=Tryz.sizeOf32
 v22:=Tryz.zeroValue32
 t23:=Tryz.underlying32
 a23:=Tryz.isAgg32
 z23:=Tryz.sizeOf32
 v23:=Tryz.zeroValue32
 t25:=Tryz.underlying3
 a25:=Tryz.isAgg3
 z25:=Tryz.sizeOf3
 v25:=Tryz.zeroValue3
 t32:=Tryz.underlying235
 a32:=Tryz.isAgg235
 z32:=Tryz.sizeOf235
 v32:=Tryz.zeroValue235
 t35:=Tryz.underlying372
 a35:=Tryz.isAgg372
 z35:=Tryz.sizeOf372
 v35:=Tryz.zeroValue372
 t36:=Tryz.underlying373
 a36:=Tryz.isAgg373
 z36:=Tryz.sizeOf373
 v36:=Tryz.zeroValue373
 t41:=Tryz.underlying293
 a41:=Tryz.isAgg293
 z41:=Tryz.sizeOf293
 v41:=Tryz.zeroValue293
 t44:=Tryz.underlying246
 a44:=Tryz.isAgg246
 z44:=Tryz.sizeOf246
 v44:=Tryz.zeroValue246
 t46:=Tryz.underlying380
 a46:=Tryz.isAgg380
 z46:=Tryz.sizeOf380
 v46:=Tryz.zeroValue380
 t53:=Tryz.underlying397
 a53:=Tryz.isAgg397
 z53:=Tryz.sizeOf397
 v53:=Tryz.zeroValue397
 t57:=Tryz.underlying336
 a57:=Tryz.isAgg336
 z57:=Tryz.sizeOf336
 v57:=Tryz.zeroValue336
 t63:=Tryz.underlying423
 a63:=Tryz.isAgg423
 z63:=Tryz.sizeOf423
 v63:=Tryz.zeroValue423
 t64:=Tryz.underlying339
 a64:=Tryz.isAgg339
 z64:=Tryz.sizeOf339
 v64:=Tryz.zeroValue339}
open Go.RowKit Go.Maps Go.Sort
theorem Tryz.Fi (m:Nat):AnyZI.SortsIn Tryz.prog Tryz.oq Fence.wide m :=
 ⟨fun blk off cap ss W hH hblk hsz=>callsIn_wide.2 (AnyM.slices_Sort_int Tryz.yS blk off cap ss W hH hblk hsz),
  fun p cap W=>callsIn_wide.2 (AnyM.slices_Sort_int_none Tryz.yS p cap W)⟩
theorem Tryz.ow (mb:Option Nat) (W:World):CallsIn Fence.wide 5 Tryz.prog 214 #[.map mb] W fun e w'=>e=.returned (.func (.func 242) #[] #[.pointer (some ⟨W.heap.size,0,none⟩)])/\w'=W.alloc (.cells #[.map mb] 275) :=
 AnyZI.keys_in Tryz.Ac Fence.wide 5 trivial rfl mb W
set_option maxHeartbeats 1000000 in
theorem Tryz.iG {H:Type} (b nn:Nat) (D0:DataW H) (R:Value->Option (DataW H×List MemPlace)) (w:World) (hown:w.ownsMap Tryz.prog 3 R b nn D0) (hmax:Maps.size D0<=maxLen) (hbytes:Maps.size D0*8<=140737488355328) :
 CallsIn Fence.wide 5 Tryz.prog 213 #[.func (.func 242) #[] #[.pointer (some ⟨w.heap.size,0,none⟩)]] (w.alloc (.cells #[.map (some b)] 275)) fun e w'=>∃(v:Value) (ss:List Int),e=.returned v/\ss.Perm (intKeys D0) /\
  w'.ownsRow (w.alloc (.cells #[.map (some b)] 275)).heap.size 3 1 v ss.length ((ss.mergeSort (fun x y=>decide (x<=y))).map encZ)/\(v=.slice none 0 0↔ss=[])/\Below (w.alloc (.cells #[.map (some b)] 275)).heap.size (w.alloc (.cells #[.map (some b)] 275)) w':=by
 have hbl:=hown.lt;have hseq:SeqGives Fence.wide 2 Tryz.prog 242 #[.pointer (some ⟨w.heap.size,0,none⟩)] encZ (fun ss=>ss.Perm (intKeys D0)) (Maps.size D0) (w.alloc (.cells #[.map (some b)] 275)) :=
  AnyZI.keys_gives (ρ:=Tryz.ri) {Tryz.Ac with} Fence.wide _ trivial rfl (by omega) w.heap.size b nn D0 _ (by simp) (by simp) (by
   obtain⟨es,clock,hb,Ft,hs,hD⟩:=hown;exact⟨es,clock,(Below.heap_alloc _ _ b hbl).trans hb,Ft,hs,hD⟩)
 exact AnyZI.sorted_in Tryz.Db Fence.wide 5 trivial trivial trivial trivial rfl (by omega) (Tryz.Fi _) (enters_of Tryz.func172 (by kernel_rfl) rfl) 242 #[.pointer (some ⟨w.heap.size,0,none⟩)] trivial (enters_of Tryz.func242 (by kernel_rfl) rfl) _ _ hmax hbytes _ hseq
end Go.Proofs
namespace Go.Proofs
open Go.Shelf
def Tryz.Eu:Go.Shelf.Ren:=⟨fun|5=>188|7=>221|n=>n,fun|23=>275|25=>3|3=>278|4=>4|20=>20|n=>n,fun|n=>n⟩
theorem Tryz.KM:Go.Proofs.SlLaysW.n5 Tryz.prog Tryz.Eu:={
 mixed:=by kernel_rfl
 f5:=⟨Tryz.f188.name,by decide,Tryz.func188.trans (congrArg some (by kernel_rfl))⟩
 f7:=Tryz.func221.trans (congrArg some (by kernel_rfl))
 t4:=Tryz.underlying4
 a4:=Tryz.isAgg4
 z4:=Tryz.sizeOf4
 v4:=Tryz.zeroValue4
 t20:=Tryz.underlying20
 a20:=Tryz.isAgg20
 z20:=Tryz.sizeOf20
 v20:=Tryz.zeroValue20
 t23:=Tryz.underlying275
 a23:=Tryz.isAgg275
 z23:=Tryz.sizeOf275
 v23:=Tryz.zeroValue275}
end Go.Proofs
