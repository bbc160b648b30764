/-
  The contracts of library functions at this dump, in plain words, as the shelf commands lay them: those that the walks use.
-/
import Derived.Shelf.Strings.Builder1
import Derived.Shelf.Small.Bits
import Derived.Shelf.Small.Wraps
import Derived.Shelf.Strings.BuilderF
import Derived.Shelf.Strings.BuilderK
import Derived.Shelf.Strconv.Atoi
import Derived.Shelf.Strconv.Itoa0
import Derived.Shelf.Strconv.Itoa1
import Derived.Shelf.LaysM
import Derived.Shelf.Strconv.Itoa2
import Derived.Shelf.Strconv.Itoa3
import Derived.Shelf.Strconv.AtoiErrFast
import Derived.Shelf.Strconv.ParseIntEmpty
import Derived.Shelf.Strconv.AtoiFail
import Derived.Shelf.Strconv.Clone
import Derived.Shelf.Strconv.SyntaxError
import Derived.Shelf.LaysC
import Derived.Shelf.Strconv.ToError
import Derived.Shelf.Strconv.AtoiErr
import Derived.Shelf.Strconv.Lower
import Derived.Shelf.Strconv.ParseUint10
import Derived.Shelf.Strconv.ParseUint10Empty
import Derived.Shelf.Strconv.ParseUint10Any
import Derived.Shelf.Strconv.ParseInt10
import Derived.Shelf.Strconv.AtoiLong
import Derived.Shelf.Strconv.AtoiInnerAll
import Derived.Shelf.Strconv.RangeError
import Derived.Shelf.Strconv.ToErrorRange
import Derived.Shelf.Strconv.AtoiAll
import Derived.Shelf.Strconv.ErrVarAll
import Derived.Shelf.Strconv.ParseUintEmpty
import Derived.Shelf.Strconv.ParseUint10b64
import Derived.Shelf.Strconv.ParseUint10b32
import Derived.Shelf.Strconv.ParseUint10b16
import Derived.Shelf.Strconv.ParseUint10b8
import Derived.Shelf.Strconv.ParseUint10At
import Derived.Shelf.Strconv.ParseInt10At64
import Derived.Shelf.Strconv.ParseInt10At32
import Derived.Shelf.Strconv.ParseInt10At16
import Derived.Shelf.Strconv.ParseInt10At8
import Derived.Shelf.Strconv.ParseInt10All
import Derived.Shelf.Sort.Plain
import Derived.Shelf.Strings.Prefix
import Derived.Shelf.Unicode.Decode
import Derived.Shelf.Unicode.DecodeSlow
import Derived.Shelf.Unicode.DecodeAny
import Derived.Shelf.Strings.BuilderCap
import Derived.Shelf.Slices.In.SortNone
import Derived.Test.YtmgmknmaepjnoaaGreatDoorProg
import Derived.WalkKit
import Derived.WalkSpells
import Derived.WalkLawsBesides
import Derived.Lib.RuneBytes
import Derived.Lib.DecodeN
import Derived.Lib.AtoiAll
import Derived.Lib.ItoaNum
import Derived.Lib.Hide
import Derived.Lib.TrimUEq
import Derived.Lib.AppendIntMem
import Derived.Shelf.SlIter.Nil
import Derived.Shelf.SortM.Plain
import Derived.Shelf.SortM.SortNone
import Derived.Ground.GgzProg
import Derived.Ground.SlgmProg
import Derived.Shelf.SlIterI.Nil
import Derived.Shelf.SlMaps.Clone
import Derived.Ground.SlmcProg
namespace Go.Proofs
open Go
theorem ab {n:Nat}:n≤n:=Nat.le_refl n
theorem ad {p:Prop} (h:p):RowKit.Hid p:=Lib.hid h
theorem ae (B:Nat) (w:World):RowKit.Below B w w:=RowKit.Below.refl B w
theorem au {w:World} {b:Nat} {cs:Array Value} {T:TypeId} {fr:Nat×Nat} {j:Nat} {v:Value} (h:w.heap[b]?=some (Obj.cells cs T fr)) (g:cs[j]?=some v):w.cell? ⟨b,j,none⟩=some v:=by rw[Lib.cell_of_heap h,g]
theorem aw {w:World} {b:Nat} {cs:Array Value} {T:TypeId} {fr:Nat×Nat} (h:w.heap[b]?=some (Obj.cells cs T fr)) (j:Nat):w.cell? ⟨b,j,none⟩=cs[j]?:=Lib.cell_of_heap h j
theorem az {w:World} {b:Nat} {cs:Array Value} {T:TypeId} (h:w.heap[b]?=some (Obj.cells cs T)) (j:Nat):w.frozen? ⟨b,j,none⟩=false:=Lib.frozen_of_heap h j
theorem aA {α:Type _} {i:Nat} {b:α} {xs:Array α}:xs[i]?=some b↔∃h,xs[i]=b:=Array.getElem?_eq_some_iff
theorem aC {a b:Prop} (h:a) (g:b):a∧b:=⟨h,g⟩
theorem aJ {α:Type _} {b:α} (as_:List α) {bs:List α} (h:b∈bs):b∈as_++bs:=List.mem_append_right as_ h
theorem aK {α:Type _} {b:α} {as_:List α} (bs:List α) (h:b∈as_):b∈as_++bs:=List.mem_append_left bs h
theorem aO {α:Type _} {a:α} {s t:List α}:a∈s++t↔a∈s∨a∈t:=List.mem_append
theorem aQ {α:Type _} {a b:α}:a∈[b]↔a=b:=List.mem_singleton
theorem aR {α:Type _} {l:List α} (h:l.length=0):l=[]:=List.eq_nil_of_length_eq_zero h
theorem aT {α:Type _} {l:List α} {i:Nat} (h:i<l.length):l[i]?=some l[i]:=List.getElem?_eq_getElem h
theorem aV (s:ByteArray):s.size=s.data.toList.length:=Lib.size_eq s
end Go.Proofs
namespace Go.Proofs
open Go.Shelf
def Tryz.rH:Go.Shelf.Ren:=⟨fun|169=>85|n=>n,fun|70=>166|9=>9|0=>0|72=>169|37=>167|127=>236|3=>3|5=>5|n=>n,fun|n=>n⟩
theorem Tryz.Io:Go.Proofs.Lays.n169 Tryz.prog Tryz.rH:={
 mixed:=by kernel_rfl
 f169:=Tryz.func85.trans (congrArg some (by kernel_rfl))
 t0:=Tryz.underlying0
 a0:=Tryz.isAgg0
 z0:=Tryz.sizeOf0
 v0:=Tryz.zeroValue0
 t3:=Tryz.underlying3
 a3:=Tryz.isAgg3
 z3:=Tryz.sizeOf3
 v3:=Tryz.zeroValue3
 t9:=Tryz.underlying9
 a9:=Tryz.isAgg9
 z9:=Tryz.sizeOf9
 v9:=Tryz.zeroValue9
 t37:=Tryz.underlying167
 a37:=Tryz.isAgg167
 z37:=Tryz.sizeOf167
 v37:=Tryz.zeroValue167
 t70:=Tryz.underlying166
 a70:=Tryz.isAgg166
 z70:=Tryz.sizeOf166
 v70:=Tryz.zeroValue166
 t72:=Tryz.underlying169
 a72:=Tryz.isAgg169
 z72:=Tryz.sizeOf169
 v72:=Tryz.zeroValue169
 t127:=Tryz.underlying236
 a127:=Tryz.isAgg236
 z127:=Tryz.sizeOf236
 v127:=Tryz.zeroValue236}
theorem Tryz.rz:Builder.Extra Tryz.prog Tryz.rH:={
 sizeBuilder:=by kernel_rfl
 liesBuilder:=by kernel_rfl
 t5:=Tryz.underlying5
 a5:=Tryz.isAgg5
 z5:=Tryz.sizeOf5
 v5:=Tryz.zeroValue5
 infoByte:=by kernel_rfl
 cellsByte:=by kernel_rfl
 sizeByte:=by kernel_rfl
 neB5:=by decide}
def Tryz.AN:Go.Shelf.Ren:=⟨fun|103=>258|210=>277|206=>256|n=>n,fun|9=>9|4=>4|24=>164|3=>3|n=>n,fun|n=>n⟩
theorem Tryz.Ip:Go.Proofs.Lays.n103 Tryz.prog Tryz.AN:={
 mixed:=by kernel_rfl
 f103:=Tryz.func258.trans (congrArg some (by kernel_rfl))
 f206:=Tryz.func256.trans (congrArg some (by kernel_rfl))
 f210:=Tryz.func277.trans (congrArg some (by kernel_rfl))
 t3:=Tryz.underlying3
 a3:=Tryz.isAgg3
 z3:=Tryz.sizeOf3
 v3:=Tryz.zeroValue3
 t4:=Tryz.underlying4
 a4:=Tryz.isAgg4
 z4:=Tryz.sizeOf4
 v4:=Tryz.zeroValue4
 t9:=Tryz.underlying9
 a9:=Tryz.isAgg9
 z9:=Tryz.sizeOf9
 v9:=Tryz.zeroValue9
 t24:=Tryz.underlying164
 a24:=Tryz.isAgg164
 z24:=Tryz.sizeOf164
 v24:=Tryz.zeroValue164}
open Go.RowKit in
theorem Tryz.strings_CutPrefix (s p:ByteArray) (w:World) :
 Calls Tryz.prog 258 #[.string s,.string p] w fun e w'=>e=.returned (.tuple #[.string ⟨(Lib.trimPrefix s.data.toList p.data.toList).toArray⟩,.bool (Lib.hasPrefix s.data.toList p.data.toList)])∧w'=w:=Any.strings_CutPrefix Tryz.Ip s p w
open Go.RowKit in
theorem Tryz.Builder_String_any_k (B b:Nat) (l:List UInt8) (w:World) (h:Lib.IsBuilderF 169 5 B b (Lib.byteCells l) w) (hBw:B≤w.heap.size) :
 Calls Tryz.prog 85 #[.pointer (some ⟨b,0,none⟩)] w fun e w'=>e=.returned (.string ⟨l.toArray⟩)∧(Lib.IsBuilderF 169 5 B b (Lib.byteCells l) w'∧Below B w w'∧Lib.OthersKept 5 (some b) w w'):=Any.Builder_String_any_k Tryz.Io Tryz.rz B b l w h hBw
def Tryz.yW:Go.Shelf.Ren:=⟨fun|171=>232|243=>267|246=>291|283=>304|284=>305|285=>306|286=>307|129=>253|317=>310|318=>311|319=>312|320=>313|337=>314|338=>315|n=>n,fun|3=>3|9=>9|2=>2|4=>4|171=>431|0=>0|53=>380|37=>167|5=>5|173=>433|212=>437|51=>246|20=>20|213=>438|46=>235|232=>439|233=>440|n=>n,fun|17=>4|18=>5|19=>6|n=>n⟩
theorem Tryz.Gt:Go.Proofs.LaysM.n171 Tryz.prog Tryz.yW:={
 mixed:=by kernel_rfl
 f129:=Tryz.func253.trans (congrArg some (by kernel_rfl))
 f171:=Tryz.func232.trans (congrArg some (by kernel_rfl))
 f243:=Tryz.func267.trans (congrArg some (by kernel_rfl))
 f246:=Tryz.func291.trans (congrArg some (by kernel_rfl))
 f283:=Tryz.func304.trans (congrArg some (by kernel_rfl))
 f284:=Tryz.func305.trans (congrArg some (by kernel_rfl))
 f285:=Tryz.func306.trans (congrArg some (by kernel_rfl))
 f286:=Tryz.func307.trans (congrArg some (by kernel_rfl))
 f317:=Tryz.func310.trans (congrArg some (by kernel_rfl))
 f318:=Tryz.func311.trans (congrArg some (by kernel_rfl))
 f319:=Tryz.func312.trans (congrArg some (by kernel_rfl))
 f320:=Tryz.func313.trans (congrArg some (by kernel_rfl))
 f337:=Tryz.func314.trans (congrArg some (by kernel_rfl))
 f338:=Tryz.func315.trans (congrArg some (by kernel_rfl))
 t0:=Tryz.underlying0
 a0:=Tryz.isAgg0
 z0:=Tryz.sizeOf0
 v0:=Tryz.zeroValue0
 t2:=Tryz.underlying2
 a2:=Tryz.isAgg2
 z2:=Tryz.sizeOf2
 v2:=Tryz.zeroValue2
 t3:=Tryz.underlying3
 a3:=Tryz.isAgg3
 z3:=Tryz.sizeOf3
 v3:=Tryz.zeroValue3
 t4:=Tryz.underlying4
 a4:=Tryz.isAgg4
 z4:=Tryz.sizeOf4
 v4:=Tryz.zeroValue4
 t5:=Tryz.underlying5
 a5:=Tryz.isAgg5
 z5:=Tryz.sizeOf5
 v5:=Tryz.zeroValue5
 t9:=Tryz.underlying9
 a9:=Tryz.isAgg9
 z9:=Tryz.sizeOf9
 v9:=Tryz.zeroValue9
 t20:=Tryz.underlying20
 a20:=Tryz.isAgg20
 z20:=Tryz.sizeOf20
 v20:=Tryz.zeroValue20
 t37:=Tryz.underlying167
 a37:=Tryz.isAgg167
 z37:=Tryz.sizeOf167
 v37:=Tryz.zeroValue167
 t46:=Tryz.underlying235
 a46:=Tryz.isAgg235
 z46:=Tryz.sizeOf235
 v46:=Tryz.zeroValue235
 t51:=Tryz.underlying246
 a51:=Tryz.isAgg246
 z51:=Tryz.sizeOf246
 v51:=Tryz.zeroValue246
 t53:=Tryz.underlying380
 a53:=Tryz.isAgg380
 z53:=Tryz.sizeOf380
 v53:=Tryz.zeroValue380
 t171:=Tryz.underlying431
 a171:=Tryz.isAgg431
 z171:=Tryz.sizeOf431
 v171:=Tryz.zeroValue431
 t173:=Tryz.underlying433
 a173:=Tryz.isAgg433
 z173:=Tryz.sizeOf433
 v173:=Tryz.zeroValue433
 t212:=Tryz.underlying437
 a212:=Tryz.isAgg437
 z212:=Tryz.sizeOf437
 v212:=Tryz.zeroValue437
 t213:=Tryz.underlying438
 a213:=Tryz.isAgg438
 z213:=Tryz.sizeOf438
 t232:=Tryz.underlying439
 a232:=Tryz.isAgg439
 z232:=Tryz.sizeOf439
 v232:=Tryz.zeroValue439
 t233:=Tryz.underlying440
 a233:=Tryz.isAgg440
 z233:=Tryz.sizeOf440
 v233:=Tryz.zeroValue440
 g17:=by kernel_rfl
 g18:=by kernel_rfl
 g19:=by kernel_rfl
 i0:=by kernel_rfl
 i2:=by kernel_rfl
 i3:=by kernel_rfl
 i4:=by kernel_rfl
 i5:=by kernel_rfl
 i9:=by kernel_rfl
 i20:=by kernel_rfl
 i37:=by kernel_rfl
 i46:=by kernel_rfl
 i51:=by kernel_rfl
 i53:=by kernel_rfl
 i171:=by kernel_rfl
 i173:=by kernel_rfl
 i212:=by kernel_rfl
 i232:=by kernel_rfl
 i233:=by kernel_rfl
 m17:=by kernel_rfl
 m18:=by kernel_rfl
 m19:=by kernel_rfl}
def Tryz.yX:Go.Shelf.Ren:=⟨fun|172=>198|244=>229|245=>230|247=>262|279=>263|280=>264|281=>265|282=>266|287=>288|316=>289|171=>232|205=>290|321=>302|322=>303|243=>267|246=>291|283=>304|284=>305|285=>306|286=>307|129=>253|317=>310|318=>311|319=>312|320=>313|337=>314|338=>315|n=>n,fun|9=>9|3=>3|75=>171|76=>173|4=>4|5=>5|167=>387|37=>167|0=>0|85=>388|2=>2|168=>390|53=>380|175=>413|46=>235|210=>416|127=>236|145=>430|143=>428|21=>21|171=>431|173=>433|212=>437|51=>246|20=>20|213=>438|232=>439|233=>440|80=>176|n=>n,fun|15=>2|16=>3|17=>4|18=>5|19=>6|n=>n⟩
theorem Tryz.sH:Go.Proofs.LaysC.n172 Tryz.prog Tryz.yX:={
 mixed:=by kernel_rfl
 f129:=Tryz.func253.trans (congrArg some (by kernel_rfl))
 f171:=Tryz.func232.trans (congrArg some (by kernel_rfl))
 f172:=Tryz.func198.trans (congrArg some (by kernel_rfl))
 f205:=Tryz.func290.trans (congrArg some (by kernel_rfl))
 f243:=Tryz.func267.trans (congrArg some (by kernel_rfl))
 f244:=Tryz.func229.trans (congrArg some (by kernel_rfl))
 f245:=Tryz.func230.trans (congrArg some (by kernel_rfl))
 f246:=Tryz.func291.trans (congrArg some (by kernel_rfl))
 f247:=Tryz.func262.trans (congrArg some (by kernel_rfl))
 f279:=Tryz.func263.trans (congrArg some (by kernel_rfl))
 f280:=Tryz.func264.trans (congrArg some (by kernel_rfl))
 f281:=Tryz.func265.trans (congrArg some (by kernel_rfl))
 f282:=Tryz.func266.trans (congrArg some (by kernel_rfl))
 f283:=Tryz.func304.trans (congrArg some (by kernel_rfl))
 f284:=Tryz.func305.trans (congrArg some (by kernel_rfl))
 f285:=Tryz.func306.trans (congrArg some (by kernel_rfl))
 f286:=Tryz.func307.trans (congrArg some (by kernel_rfl))
 f287:=Tryz.func288.trans (congrArg some (by kernel_rfl))
 f316:=Tryz.func289.trans (congrArg some (by kernel_rfl))
 f317:=Tryz.func310.trans (congrArg some (by kernel_rfl))
 f318:=Tryz.func311.trans (congrArg some (by kernel_rfl))
 f319:=Tryz.func312.trans (congrArg some (by kernel_rfl))
 f320:=Tryz.func313.trans (congrArg some (by kernel_rfl))
 f321:=Tryz.func302.trans (congrArg some (by kernel_rfl))
 f322:=Tryz.func303.trans (congrArg some (by kernel_rfl))
 f337:=Tryz.func314.trans (congrArg some (by kernel_rfl))
 f338:=Tryz.func315.trans (congrArg some (by kernel_rfl))
 t0:=Tryz.underlying0
 a0:=Tryz.isAgg0
 z0:=Tryz.sizeOf0
 v0:=Tryz.zeroValue0
 t2:=Tryz.underlying2
 a2:=Tryz.isAgg2
 z2:=Tryz.sizeOf2
 v2:=Tryz.zeroValue2
 t3:=Tryz.underlying3
 a3:=Tryz.isAgg3
 z3:=Tryz.sizeOf3
 v3:=Tryz.zeroValue3
 t4:=Tryz.underlying4
 a4:=Tryz.isAgg4
 z4:=Tryz.sizeOf4
 v4:=Tryz.zeroValue4
 t5:=Tryz.underlying5
 a5:=Tryz.isAgg5
 z5:=Tryz.sizeOf5
 v5:=Tryz.zeroValue5
 t9:=Tryz.underlying9
 a9:=Tryz.isAgg9
 z9:=Tryz.sizeOf9
 v9:=Tryz.zeroValue9
 t20:=Tryz.underlying20
 a20:=Tryz.isAgg20
 z20:=Tryz.sizeOf20
 v20:=Tryz.zeroValue20
 t21:=Tryz.underlying21
 a21:=Tryz.isAgg21
 z21:=Tryz.sizeOf21
 v21:=Tryz.zeroValue21
 t37:=Tryz.underlying167
 a37:=Tryz.isAgg167
 z37:=Tryz.sizeOf167
 v37:=Tryz.zeroValue167
 t46:=Tryz.underlying235
 a46:=Tryz.isAgg235
 z46:=Tryz.sizeOf235
 v46:=Tryz.zeroValue235
 t51:=Tryz.underlying246
 a51:=Tryz.isAgg246
 z51:=Tryz.sizeOf246
 v51:=Tryz.zeroValue246
 t53:=Tryz.underlying380
 a53:=Tryz.isAgg380
 z53:=Tryz.sizeOf380
 v53:=Tryz.zeroValue380
 t75:=Tryz.underlying171
 a75:=Tryz.isAgg171
 z75:=Tryz.sizeOf171
 v75:=Tryz.zeroValue171
 t76:=Tryz.underlying173
 a76:=Tryz.isAgg173
 z76:=Tryz.sizeOf173
 v76:=Tryz.zeroValue173
 t85:=Tryz.underlying388
 a85:=Tryz.isAgg388
 z85:=Tryz.sizeOf388
 v85:=Tryz.zeroValue388
 t127:=Tryz.underlying236
 a127:=Tryz.isAgg236
 z127:=Tryz.sizeOf236
 v127:=Tryz.zeroValue236
 t143:=Tryz.underlying428
 a143:=Tryz.isAgg428
 z143:=Tryz.sizeOf428
 v143:=Tryz.zeroValue428
 t145:=Tryz.underlying430
 a145:=Tryz.isAgg430
 z145:=Tryz.sizeOf430
 v145:=Tryz.zeroValue430
 t167:=Tryz.underlying387
 a167:=Tryz.isAgg387
 z167:=Tryz.sizeOf387
 v167:=Tryz.zeroValue387
 t168:=Tryz.underlying390
 a168:=Tryz.isAgg390
 z168:=Tryz.sizeOf390
 v168:=Tryz.zeroValue390
 t171:=Tryz.underlying431
 a171:=Tryz.isAgg431
 z171:=Tryz.sizeOf431
 v171:=Tryz.zeroValue431
 t173:=Tryz.underlying433
 a173:=Tryz.isAgg433
 z173:=Tryz.sizeOf433
 v173:=Tryz.zeroValue433
 t175:=Tryz.underlying413
 a175:=Tryz.isAgg413
 z175:=Tryz.sizeOf413
 v175:=Tryz.zeroValue413
 t210:=Tryz.underlying416
 a210:=Tryz.isAgg416
 z210:=Tryz.sizeOf416
 v210:=Tryz.zeroValue416
 t212:=Tryz.underlying437
 a212:=Tryz.isAgg437
 z212:=Tryz.sizeOf437
 v212:=Tryz.zeroValue437
 t213:=Tryz.underlying438
 a213:=Tryz.isAgg438
 z213:=Tryz.sizeOf438
 t232:=Tryz.underlying439
 a232:=Tryz.isAgg439
 z232:=Tryz.sizeOf439
 v232:=Tryz.zeroValue439
 t233:=Tryz.underlying440
 a233:=Tryz.isAgg440
 z233:=Tryz.sizeOf440
 v233:=Tryz.zeroValue440
 g15:=by kernel_rfl
 g16:=by kernel_rfl
 g17:=by kernel_rfl
 g18:=by kernel_rfl
 g19:=by kernel_rfl
 t80:=Tryz.underlying176
 a80:=Tryz.isAgg176
 z80:=Tryz.sizeOf176
 v80:=Tryz.zeroValue176
 i0:=by kernel_rfl
 i2:=by kernel_rfl
 i3:=by kernel_rfl
 i4:=by kernel_rfl
 i5:=by kernel_rfl
 i9:=by kernel_rfl
 i20:=by kernel_rfl
 i21:=by kernel_rfl
 i37:=by kernel_rfl
 i46:=by kernel_rfl
 i51:=by kernel_rfl
 i53:=by kernel_rfl
 i75:=by kernel_rfl
 i76:=by kernel_rfl
 i80:=by kernel_rfl
 i85:=by kernel_rfl
 i127:=by kernel_rfl
 i143:=by kernel_rfl
 i145:=by kernel_rfl
 i167:=by kernel_rfl
 i168:=by kernel_rfl
 i171:=by kernel_rfl
 i173:=by kernel_rfl
 i175:=by kernel_rfl
 i210:=by kernel_rfl
 i212:=by kernel_rfl
 i232:=by kernel_rfl
 i233:=by kernel_rfl
 m15:=by kernel_rfl
 m16:=by kernel_rfl
 m17:=by kernel_rfl
 m18:=by kernel_rfl
 m19:=by kernel_rfl
 c0:=by kernel_rfl
 c2:=by kernel_rfl
 c3:=by kernel_rfl
 c4:=by kernel_rfl
 c5:=by kernel_rfl
 c9:=by kernel_rfl
 c20:=by kernel_rfl
 c21:=by kernel_rfl
 c37:=by kernel_rfl
 c46:=by kernel_rfl
 c51:=by kernel_rfl
 c53:=by kernel_rfl
 c75:=by kernel_rfl
 c76:=by kernel_rfl
 c80:=by kernel_rfl
 c85:=by kernel_rfl
 c127:=by kernel_rfl
 c143:=by kernel_rfl
 c145:=by kernel_rfl
 c167:=by kernel_rfl
 c168:=by kernel_rfl
 c171:=by kernel_rfl
 c173:=by kernel_rfl
 c175:=by kernel_rfl
 c210:=by kernel_rfl
 c212:=by kernel_rfl
 c213:=by kernel_rfl
 c232:=by kernel_rfl
 c233:=by kernel_rfl}
open Go.RowKit in
theorem Tryz.strconv_Atoi_ok (s:ByteArray) (hmax:s.size≤9223372036854775806) (v:Int) (h:Lib.atoiAll s.data.toList=.ok v) (w:World) :
 Calls Tryz.prog 198 #[.string s] w fun e w'=>e=.returned (.tuple #[.int .i64 v,.nilIface])∧(w'=w∨∃t,w'=Lib.bytesWorld w 5 t):=Any.strconv_Atoi_ok Tryz.sH s hmax v h w
open Go.RowKit in
theorem Tryz.strconv_Atoi_range (s:ByteArray) (hlim:s.size≤281474976710656) (h:Lib.atoiAll s.data.toList=.range) (ev:Value) (w:World) (hv:w.cell? ⟨3,0,none⟩=some ev) (hev:ev=.nilIface∨∃te pe,ev=.iface te pe) :
 Calls Tryz.prog 198 #[.string s] w fun e w'=>∃N,e=.returned (.tuple #[.int .i64 (Lib.atoiSat s.data.toList),.iface 390 (.pointer (some ⟨N,0,none⟩))])∧w.heap.size≤N∧w'.heap[N]?=some (.cells #[.string ⟨#[65,116,111,105]⟩,.string s,ev] 416 (0,0))∧Below w.heap.size w w':=Any.strconv_Atoi_range Tryz.sH s hlim h ev w hv hev
def Tryz.CW:Go.Shelf.Ren:=⟨fun|99=>223|206=>256|n=>n,fun|9=>9|4=>4|3=>3|n=>n,fun|n=>n⟩
theorem Tryz.Jb:Go.Proofs.Lays.n99 Tryz.prog Tryz.CW:={
 mixed:=by kernel_rfl
 f99:=Tryz.func223.trans (congrArg some (by kernel_rfl))
 f206:=Tryz.func256.trans (congrArg some (by kernel_rfl))
 t3:=Tryz.underlying3
 a3:=Tryz.isAgg3
 z3:=Tryz.sizeOf3
 v3:=Tryz.zeroValue3
 t4:=Tryz.underlying4
 a4:=Tryz.isAgg4
 z4:=Tryz.sizeOf4
 v4:=Tryz.zeroValue4
 t9:=Tryz.underlying9
 a9:=Tryz.isAgg9
 z9:=Tryz.sizeOf9
 v9:=Tryz.zeroValue9}
open Go.RowKit Go.Lib in
theorem Tryz.strings_HasPrefix (s p:ByteArray) (w:World) :
 Calls Tryz.prog 223 #[.string s,.string p] w fun e w'=>e=.returned (.bool (Lib.hasPrefix s.data.toList p.data.toList))∧w'=w:=Any.strings_HasPrefix Tryz.Jb s p w
def Tryz.AO:Go.Shelf.Ren:=⟨fun|101=>199|208=>231|206=>256|n=>n,fun|9=>9|4=>4|3=>3|n=>n,fun|n=>n⟩
theorem Tryz.Iq:Go.Proofs.Lays.n101 Tryz.prog Tryz.AO:={
 mixed:=by kernel_rfl
 f101:=Tryz.func199.trans (congrArg some (by kernel_rfl))
 f206:=Tryz.func256.trans (congrArg some (by kernel_rfl))
 f208:=Tryz.func231.trans (congrArg some (by kernel_rfl))
 t3:=Tryz.underlying3
 a3:=Tryz.isAgg3
 z3:=Tryz.sizeOf3
 v3:=Tryz.zeroValue3
 t4:=Tryz.underlying4
 a4:=Tryz.isAgg4
 z4:=Tryz.sizeOf4
 v4:=Tryz.zeroValue4
 t9:=Tryz.underlying9
 a9:=Tryz.isAgg9
 z9:=Tryz.sizeOf9
 v9:=Tryz.zeroValue9}
open Go.RowKit Go.Lib in
theorem Tryz.strings_TrimPrefix (s p:ByteArray) (w:World) :
 Calls Tryz.prog 199 #[.string s,.string p] w fun e w'=>e=.returned (.string ⟨(Lib.trimPrefix s.data.toList p.data.toList).toArray⟩)∧w'=w:=Any.strings_TrimPrefix Tryz.Iq s p w
def Tryz.AM:Go.Shelf.Ren:=⟨fun|197=>220|260=>254|n=>n,fun|9=>9|21=>21|3=>3|4=>4|5=>5|105=>353|119=>402|0=>0|46=>235|139=>405|138=>404|n=>n,fun|3=>0|4=>1|n=>n⟩
theorem Tryz.Im:Go.Proofs.Lays.n197 Tryz.prog Tryz.AM:={
 mixed:=by kernel_rfl
 f197:=Tryz.func220.trans (congrArg some (by kernel_rfl))
 f260:=Tryz.func254.trans (congrArg some (by kernel_rfl))
 t0:=Tryz.underlying0
 a0:=Tryz.isAgg0
 z0:=Tryz.sizeOf0
 v0:=Tryz.zeroValue0
 t3:=Tryz.underlying3
 a3:=Tryz.isAgg3
 z3:=Tryz.sizeOf3
 v3:=Tryz.zeroValue3
 t4:=Tryz.underlying4
 a4:=Tryz.isAgg4
 z4:=Tryz.sizeOf4
 v4:=Tryz.zeroValue4
 t5:=Tryz.underlying5
 a5:=Tryz.isAgg5
 z5:=Tryz.sizeOf5
 v5:=Tryz.zeroValue5
 t9:=Tryz.underlying9
 a9:=Tryz.isAgg9
 z9:=Tryz.sizeOf9
 v9:=Tryz.zeroValue9
 t21:=Tryz.underlying21
 a21:=Tryz.isAgg21
 z21:=Tryz.sizeOf21
 v21:=Tryz.zeroValue21
 t46:=Tryz.underlying235
 a46:=Tryz.isAgg235
 z46:=Tryz.sizeOf235
 v46:=Tryz.zeroValue235
 t105:=Tryz.underlying353
 a105:=Tryz.isAgg353
 z105:=Tryz.sizeOf353
 v105:=Tryz.zeroValue353
 t119:=Tryz.underlying402
 a119:=Tryz.isAgg402
 z119:=Tryz.sizeOf402
 t138:=Tryz.underlying404
 a138:=Tryz.isAgg404
 z138:=Tryz.sizeOf404
 v138:=Tryz.zeroValue404
 t139:=Tryz.underlying405
 a139:=Tryz.isAgg405
 z139:=Tryz.sizeOf405
 v139:=Tryz.zeroValue405
 g3:=by kernel_rfl
 g4:=by kernel_rfl}
open Go.RowKit Go.Lib in
theorem Tryz.utf8_DecodeRuneInString (s:ByteArray) (w:World) (hT:Lib.Utf8Tabs 0 1 w) :
 Calls Tryz.prog 220 #[.string s] w fun e w'=>e=.returned (.tuple #[.int .i32 (Lib.decodeGo s).1,.int .i64 (Lib.decodeGo s).2])∧Below w.heap.size w w':=Any.utf8_DecodeRuneInString Tryz.Im s w hT
end Go.Proofs
namespace Go.Proofs.YtmgmknmaepjnoaaGreatDoor
open Go.RowKit Go.Shelf Proofs.Tryz
def fR (B b:Nat) (l:List UInt8) (w:World):Prop:=Lib.IsBuilderF 169 5 B b (Lib.byteCells l) w
theorem zB:(prog.info? 169).map (·.size)=some 2:=by kernel_rfl
theorem GQ:liesAt prog prog.depth 169 (2 / prog.cellsOf 169) 0 169 1=true:=by kernel_rfl
theorem qP:(prog.info? 5).map (fun i=>(i.zero,i.size,i.bytes))=some (some (.int .u8 0),1,1):=by kernel_rfl
set_option maxRecDepth 100000 in
theorem uX (b:Nat) (w:World) (h0:w.cell? ⟨b,0,none⟩=some (.pointer (some ⟨b,0,none⟩))) :
 Calls prog 135 #[.pointer (some ⟨b,0,none⟩)] w fun e w'=>e=.returned (.tuple #[])∧w'=w:=by
 obtain⟨j,hj,_⟩:=Option.map_eq_some_iff.1 zB
 go_enter func135,ntmps135
 go_wp2
 rw[Lib.run_neq_ptr_same w _ underlying166 hj]
 go_wp2
 go_end0
 exact⟨rfl,rfl⟩
set_option maxRecDepth 100000 in
theorem uh (b:Nat) (w:World) (h0:w.cell? ⟨b,0,none⟩=some (.pointer none)) (hsh:w.shape? b=some (169,2)) (hfz:w.frozen? ⟨b,0,none⟩=false) :
 Calls prog 135 #[.pointer (some ⟨b,0,none⟩)] w fun e w'=>e=.returned (.tuple #[])∧w'=w.setCell ⟨b,0,none⟩ (.pointer (some ⟨b,0,none⟩)):=by
 obtain⟨j,hj,hjs⟩:=Option.map_eq_some_iff.1 zB
 go_enter func135,ntmps135
 go_wp2
 rw[Lib.run_to_unsafe w ⟨b,0,none⟩ underlying166 underlying302 hj (by rw[hjs];decide) hsh (Nat.zero_lt_succ 1)]
 simp only[Result.andThen]
 rw[Oper.upon_value]
 go_wp2
 rw[run_callFunc_extern func186 (by kernel_rfl) (by kernel_rfl) (by kernel_rfl) (e:=Extern.AbiNoEscape.same) (by kernel_rfl)]
 rw[Lib.run_noEscape]
 simp only[Result.andThen]
 rw[Oper.upon_value]
 go_wp2
 rw[Lib.run_from_unsafe w ⟨b,0,none⟩ underlying302 underlying166 hj hsh GQ]
 simp only[Result.andThen]
 rw[Oper.upon_value]
 go_wp2
 go_end0
 exact⟨rfl,rfl⟩
theorem rR (B b:Nat) (bs:List Value) (w:World) (h:Lib.IsBuilderF 169 5 B b bs w) :
 Calls prog 135 #[.pointer (some ⟨b,0,none⟩)] w fun e w'=>e=.returned (.tuple #[])∧(Lib.BuilderAtF 169 5 B b (.pointer (some ⟨b,0,none⟩)) bs w'∧Below B w w'∧Lib.OthersKept 5 (some b) w w'):=by
 rcases h with h|h
 ·refine(uh b w h.cell0 h.shape h.frozen0).mono ?_
  rintro e w' ⟨rfl,rfl⟩
  exact⟨rfl,h.used _,(ae B w).setCell (p:=⟨b,0,none⟩) h.1 _,(Lib.OthersKept.refl _ _ w).setCell ⟨b,0,none⟩ rfl _⟩
 ·refine(uX b w h.cell0).mono ?_
  rintro e w' ⟨rfl,rfl⟩
  exact⟨rfl,h,ae B _,Lib.OthersKept.refl _ _ _⟩
set_option maxHeartbeats 2000000 in
set_option maxRecDepth 100000 in
theorem wH (B b:Nat) (bs:List Value) (s:ByteArray) (w:World) (h:Lib.IsBuilderF 169 5 B b bs w) (hlen:bs.length+s.size≤140737488355328) (hBw:B≤w.heap.size) :
 Calls prog 83 #[.pointer (some ⟨b,0,none⟩),.string s] w fun e w'=>e=.returned (.tuple #[.int .i64 s.size,.nilIface])∧(Lib.BuilderAtF 169 5 B b (.pointer (some ⟨b,0,none⟩)) (bs++Lib.strCells s) w'∧Below B w w'∧Lib.OthersKept 5 (some b) w w'):=by
 obtain⟨i0,hi,hz0,hz1,hz2⟩:=info_parts qP
 go_enter func83,ntmps83
 go_wp2_with (go_at_call 135;refine(rR B b bs _ h).mono ?_)
 rintro e w1 ⟨rfl,h1,hb1,hk1⟩
 obtain⟨hB,v,hbk,hown,hne⟩:=h1
 have c0:w1.cell? ⟨b,0,none⟩=some (.pointer (some ⟨b,0,none⟩)):=au hbk rfl
 have c1:w1.cell? ⟨b,1,none⟩=some v:=au hbk rfl
 go_wp2_with (at_builtin;refine Lib.wpList_append_own_stringF _ rfl _ _ 167 9 rfl B 5 i0 underlying167 underlying9 hi hz0 hz1 hz2 _ _ _ rfl hown s rfl ?c3 ?c4 ?c5 ?_)
 case c3=>unfold maxLen;omega
 case c4=>omega
 case c5=>have:=hb1.size;omega
 intro v' w2 hown' hgrow _
 have hlt:b<w1.heap.size:=by
  rcases Nat.lt_or_ge b w1.heap.size with h'|h'
  ·exact h'
  ·simp[Array.getElem?_eq_none h']at hbk
 have hb2:w2.heap[b]?=some (.cells #[.pointer (some ⟨b,0,none⟩),v] 169 (0,0)):=by
  rw[hgrow.block b hlt (fun e=>hne e.symm)]
  exact hbk
 have d0:w2.cell? ⟨b,0,none⟩=some (.pointer (some ⟨b,0,none⟩)):=au hb2 rfl
 have d1:w2.cell? ⟨b,1,none⟩=some v:=au hb2 rfl
 have f1:w2.frozen? ⟨b,1,none⟩=false:=az hb2 1
 obtain⟨ao,n',cap,rfl⟩:∃ao n' cap,v'=.slice ao n' cap:=by
  rcases hown'.2 with⟨hv,_⟩|⟨g,cap,cur,fz,hv,_⟩
  ·exact⟨_,_,_,hv⟩
  ·exact⟨_,_,_,hv⟩
 go_wp2
 go_ret2
 refine⟨rfl,?_,?_,(hk1.grown hgrow (Lib.ownsRowF_kind hown)).setCell ⟨b,1,none⟩ rfl _⟩
 ·exact Lib.BuilderAtF.put (T:=169) (e:=5) hB hb2 (bs':=bs++Lib.strCells s) (by simpa[Lib.strCells_length]using hown') (by decide)
 ·exact(hb1.grown hgrow (by have:=hb1.size;omega) (fun k hk=>(hown.lt k hk).1)).setCell (p:=⟨b,1,none⟩) hB _
theorem jd (w:World):fR w.heap.size w.heap.size [] (w.alloc (.cells #[.pointer none,.slice none 0 0] 169)):=Lib.IsBuilderF.of (Lib.fresh_isBuilder _ _ w)
theorem writeString (B b:Nat) (l:List UInt8) (s:ByteArray) (w:World) (h:fR B b l w) (hlen:l.length+s.size≤140737488355328) (hBw:B≤w.heap.size) :
 Calls prog 83 #[.pointer (some ⟨b,0,none⟩),.string s] w fun e w'=>e=.returned (.tuple #[.int .i64 s.size,.nilIface])∧fR B b (l++s.data.toList) w'∧Below B w w'∧Lib.OthersKept 5 (some b) w w':=by
 refine(wH B b _ _ w h (by rw[Lib.byteCells_length];omega) hBw).mono ?_
 rintro e w' ⟨rfl,h1,h2,h3⟩
 exact⟨rfl,.inr (by rw[Lib.byteCells_append];exact h1),h2,h3⟩
theorem je (B b:Nat) (l:List UInt8) (w:World) (h:fR B b l w) (hBw:B≤w.heap.size) :
 Calls prog 85 #[.pointer (some ⟨b,0,none⟩)] w fun e w'=>e=.returned (.string ⟨l.toArray⟩)∧Below B w w':=by
 refine(Tryz.Builder_String_any_k B b l w h hBw).mono ?_
 rintro e w' ⟨rfl,_,h2,_⟩
 exact⟨rfl,h2⟩
namespace Txt
open Go.Lib (decodeN encodeRune encodeRuneZ)
def tok (l:List UInt8):Int×Nat :=
 let d:=decodeN l.length (l.getD 0 0).toNat (l.getD 1 0).toNat (l.getD 2 0).toNat (l.getD 3 0).toNat
 if d.1=65533∧d.2=1 then (-1,1) else ((d.1:Int),d.2)
def ou:Nat→List UInt8→List (Int×List UInt8)
 |0,_=>[]
 |_+1,[]=>[]
 |f+1,b::l=>((tok (b::l)).1,(b::l).take (tok (b::l)).2)::ou f ((b::l).drop (tok (b::l)).2)
def ij (l:List UInt8):List (Int×List UInt8):=ou l.length l
theorem G9 (b:UInt8):b.toNat<256:=b.toNat_lt
theorem JF {a b:UInt8} (h:a.toNat=b.toNat):a=b:=UInt8.toNat_inj.1 h
theorem pL (b:UInt8) (l:List UInt8) :
 (tok (b::l)=(-1,1)∧128≤b.toNat) ∨
 (tok (b::l)=((b.toNat:Int),1)∧b.toNat<128) ∨
 (∃b1 t,l=b1::t∧192≤b.toNat∧b.toNat<224∧b1.toNat / 64=2∧128≤b.toNat % 32*64+b1.toNat % 64 ∧
  tok (b::l)=(((b.toNat % 32*64+b1.toNat % 64:Nat):Int),2)) ∨
 (∃b1 b2 t,l=b1::b2::t∧224≤b.toNat∧b.toNat<240∧b1.toNat / 64=2∧b2.toNat / 64=2 ∧
  2048≤b.toNat % 16*4096+b1.toNat % 64*64+b2.toNat % 64 ∧
  (b.toNat % 16*4096+b1.toNat % 64*64+b2.toNat % 64<55296∨57344≤b.toNat % 16*4096+b1.toNat % 64*64+b2.toNat % 64) ∧
  tok (b::l)=(((b.toNat % 16*4096+b1.toNat % 64*64+b2.toNat % 64:Nat):Int),3)) ∨
 (∃b1 b2 b3 t,l=b1::b2::b3::t∧240≤b.toNat∧b.toNat<248∧b1.toNat / 64=2∧b2.toNat / 64=2∧b3.toNat / 64=2 ∧
  65536≤b.toNat % 8*262144+b1.toNat % 64*4096+b2.toNat % 64*64+b3.toNat % 64 ∧
  b.toNat % 8*262144+b1.toNat % 64*4096+b2.toNat % 64*64+b3.toNat % 64≤1114111 ∧
  tok (b::l)=(((b.toNat % 8*262144+b1.toNat % 64*4096+b2.toNat % 64*64+b3.toNat % 64:Nat):Int),4)):=by
 have hb:=G9 b
 by_cases h0:b.toNat<128
 ·refine .inr (.inl ⟨?_,h0⟩)
  have:b.toNat≠65533:=by omega
  simp[tok,decodeN,h0,this]
 by_cases h2:b.toNat / 32=6∧(1<(b::l).length∧((b::l).getD 1 0).toNat / 64=2)∧b.toNat % 32*64+((b::l).getD 1 0).toNat % 64≥128
 ·obtain⟨e1,⟨e2,e3⟩,e4⟩:=h2
  match l,e2,e3,e4 with
  |b1::t,_,e3,e4 =>
   simp only[List.getD_cons_succ,List.getD_cons_zero]at e3 e4
   refine .inr (.inr (.inl ⟨b1,t,rfl,by omega,by omega,e3,e4,?_⟩))
   have hne:¬(b.toNat % 32*64+b1.toNat % 64=65533):=by omega
   simp[tok,decodeN,h0,e1,e3,e4,hne]
 by_cases h3:b.toNat / 16=14∧(1<(b::l).length∧((b::l).getD 1 0).toNat / 64=2)∧(2<(b::l).length∧((b::l).getD 2 0).toNat / 64=2)∧b.toNat % 16*4096+((b::l).getD 1 0).toNat % 64*64+((b::l).getD 2 0).toNat % 64≥2048∧(b.toNat % 16*4096+((b::l).getD 1 0).toNat % 64*64+((b::l).getD 2 0).toNat % 64<55296∨(57344≤b.toNat % 16*4096+((b::l).getD 1 0).toNat % 64*64+((b::l).getD 2 0).toNat % 64))
 ·obtain⟨e1,⟨e2,e3⟩,⟨e4,e5⟩,e6,e7⟩:=h3
  match l,e2,e3,e4,e5,e6,e7 with
  |b1::b2::t,_,e3,_,e5,e6,e7 =>
   simp only[List.getD_cons_succ,List.getD_cons_zero]at e3 e5 e6 e7
   refine .inr (.inr (.inr (.inl ⟨b1,b2,t,rfl,by omega,by omega,e3,e5,e6,e7,?_⟩)))
   have e0:¬b.toNat / 32=6:=by omega
   have e8:b.toNat % 16*4096+b1.toNat % 64*64+b2.toNat % 64≤1114111:=by omega
   simp[tok,decodeN,h0,e0,e1,e3,e5,e6,e7,e8]
 by_cases h4:b.toNat / 8=30∧(1<(b::l).length∧((b::l).getD 1 0).toNat / 64=2)∧(2<(b::l).length∧((b::l).getD 2 0).toNat / 64=2)∧(3<(b::l).length∧((b::l).getD 3 0).toNat / 64=2)∧b.toNat % 8*262144+((b::l).getD 1 0).toNat % 64*4096+((b::l).getD 2 0).toNat % 64*64+((b::l).getD 3 0).toNat % 64≥65536∧b.toNat % 8*262144+((b::l).getD 1 0).toNat % 64*4096+((b::l).getD 2 0).toNat % 64*64+((b::l).getD 3 0).toNat % 64≤1114111
 ·obtain⟨e1,⟨e2,e3⟩,⟨e4,e5⟩,⟨e6,e7⟩,e8,e9⟩:=h4
  rcases l with _|⟨b1,_|⟨b2,_|⟨b3,t⟩⟩⟩
  ·simp at e2
  ·simp at e4
  ·simp at e6
  ·simp only[List.getD_cons_succ,List.getD_cons_zero]at e3 e5 e7 e8 e9
   clear h2 h3 e2 e4 e6
   refine .inr (.inr (.inr (.inr ⟨b1,b2,b3,t,rfl,by omega,by omega,e3,e5,e7,e8,e9,?_⟩)))
   have e0:¬b.toNat / 32=6:=by omega
   have e0':¬b.toNat / 16=14:=by omega
   have ea:b.toNat % 8*262144+b1.toNat % 64*4096+b2.toNat % 64*64+b3.toNat % 64<55296∨57344≤b.toNat % 8*262144+b1.toNat % 64*4096+b2.toNat % 64*64+b3.toNat % 64:=by omega
   simp[tok,decodeN,h0,e0,e0',e1,e3,e5,e7,e8,e9,ea]
 ·refine .inl ⟨?_,by omega⟩
  have e:decodeN (b::l).length ((b::l).getD 0 0).toNat ((b::l).getD 1 0).toNat ((b::l).getD 2 0).toNat ((b::l).getD 3 0).toNat=(65533,1):=by
   simp only[decodeN,List.getD_cons_zero,if_neg h0]
   split
   ·rename_i g;rw[if_neg (fun g'=>h2 ⟨g.1,g.2,g'⟩)]
   ·split
    ·rename_i g
     rw[if_neg (fun g'=>h3 ⟨g.1,g.2.1,g.2.2,g'.1,by omega⟩)]
    ·split
     ·rename_i g
      rw[if_neg (fun g'=>h4 ⟨g.1,g.2.1,g.2.2.1,g.2.2.2,g'.1,by omega⟩)]
     ·rfl
  simp only[tok,e]
  simp
theorem ll (b:UInt8) (l:List UInt8):1≤(tok (b::l)).2∧(tok (b::l)).2≤4∧(tok (b::l)).2≤(b::l).length:=by
 rcases pL b l with⟨h,_⟩|⟨h,_⟩|⟨b1,t,rfl,_,_,_,_,h⟩|⟨b1,b2,t,rfl,_,_,_,_,_,_,h⟩|⟨b1,b2,b3,t,rfl,_,_,_,_,_,_,_,h⟩ <;> simp[h] <;> omega
theorem sZ:∀(f g:Nat) (l:List UInt8),l.length≤f→l.length≤g→ou f l=ou g l
 |0,g,l,h,_=>by
  have:l=[]:=aR (by omega)
  subst this;cases g <;> rfl
 |f+1,0,l,_,h=>by
  have:l=[]:=aR (by omega)
  subst this;rfl
 |f+1,g+1,[],_,_=>rfl
 |f+1,g+1,b::l,hf,hg=>by
  have hw:=ll b l
  simp only[ou]
  rw[sZ f g]
  ·simp only[List.length_drop,List.length_cons]at *;omega
  ·simp only[List.length_drop,List.length_cons]at *;omega
theorem iF:ij []=[]:=rfl
theorem mO (b:UInt8) (l:List UInt8) :
 ij (b::l)=((tok (b::l)).1,(b::l).take (tok (b::l)).2)::ij ((b::l).drop (tok (b::l)).2):=by
 have hw:=ll b l
 show ou (l.length+1) (b::l)=_
 simp only[ou,ij]
 rw[sZ l.length]
 ·simp only[List.length_drop,List.length_cons];omega
 ·omega
theorem sY:∀(n:Nat) (l:List UInt8),l.length≤n→(ij l).flatMap (·.2)=l
 |0,l,h=>by
  have:l=[]:=aR (by omega)
  subst this;rfl
 |n+1,[],_=>rfl
 |n+1,b::l,h=>by
  have hw:=ll b l
  rw[mO,List.flatMap_cons,sY n]
  ·exact List.take_append_drop _ _
  ·simp only[List.length_drop,List.length_cons]at *;omega
theorem DU (l:List UInt8):(ij l).flatMap (·.2)=l:=sY l.length l ab
def Shape (t:Int×List UInt8):Prop :=
 (t.1 = -1∧∃b:UInt8,t.2=[b]∧128≤b.toNat) ∨
 (0≤t.1∧t.1<128∧t.2=[t.1.toNat.toUInt8]) ∨
 (128≤t.1∧t.1≤1114111∧t.2=encodeRune t.1∧2≤t.2.length∧t.2.length≤4∧∀b∈t.2,128≤b.toNat)
theorem jg (b:UInt8) (n:Nat) (h:b.toNat=n):n.toUInt8=b:=by
 apply JF;subst h;simp
theorem l9 (b:UInt8) (h:b.toNat / 64=2):b.toNat=128+b.toNat % 64:=by omega
theorem uI (n:Nat):n % 64<64:=Nat.mod_lt _ (by decide)
theorem oA (v:Nat) (l:List UInt8) (n:Nat) (h1:128≤v) (h2:v≤1114111) (he:encodeRune (v:Int)=l.take n) (h3:2≤(l.take n).length) (h4:(l.take n).length≤4)
 (h5:∀b∈l.take n,128≤b.toNat):Shape ((v:Int),l.take n) :=
 .inr (.inr ⟨by show(128:Int)≤v;omega,by show(v:Int)≤1114111;omega,he.symm,h3,h4,h5⟩)
theorem vu (b:UInt8) (l:List UInt8):Shape ((tok (b::l)).1,(b::l).take (tok (b::l)).2):=by
 have hb:=G9 b
 rcases pL b l with⟨h,h1⟩|⟨h,h1⟩|⟨b1,t,rfl,h1,h2,h3,h4,h⟩|⟨b1,b2,t,rfl,h1,h2,h3,h4,h5,h6,h⟩|⟨b1,b2,b3,t,rfl,h1,h2,h3,h4,h5,h6,h7,h⟩
 ·exact .inl ⟨by rw[h],b,by rw[h];rfl,h1⟩
 ·exact .inr (.inl ⟨by rw[h];simp,by rw[h];simp;omega,by rw[h];simp⟩)
 ·have c1:=l9 b1 h3
  have eb:b.toNat=192+b.toNat % 32:=by omega
  have l1:=uI b1.toNat
  have hx:b.toNat % 32<32:=Nat.mod_lt _ (by decide)
  rw[h]
  clear h
  generalize b.toNat % 32=x at *
  generalize b1.toNat % 64=y at *
  obtain⟨v,hv⟩:∃v,v=x*64+y:=⟨_,rfl⟩
  rw[←hv]at h4 ⊢
  have eA:(192+(v:Int) / 64).toNat=b.toNat:=by omega
  have eB:(128+(v:Int) % 64).toNat=b1.toNat:=by omega
  refine oA v _ _ h4 (by omega) ?_ (by simp) (by simp) ?_
  ·rw[encodeRune,Go.Lib.encodeRuneZ_two (by omega) (by omega)]
   simp only[List.map_cons,List.map_nil,eA,eB,jg b _ rfl,jg b1 _ rfl,List.take_succ_cons,List.take_zero]
  ·simp only[List.take_succ_cons,List.take_zero,List.mem_cons,List.not_mem_nil,or_false,forall_eq_or_imp,forall_eq]
   clear eA eB
   exact⟨by omega,by omega⟩
 ·have c1:=l9 b1 h3
  have c2:=l9 b2 h4
  have eb:b.toNat=224+b.toNat % 16:=by omega
  have hx:b.toNat % 16<16:=Nat.mod_lt _ (by decide)
  have l1:=uI b1.toNat
  have l2:=uI b2.toNat
  rw[h]
  clear h
  generalize b.toNat % 16=x at *
  generalize b1.toNat % 64=y at *
  generalize b2.toNat % 64=z at *
  obtain⟨v,hv⟩:∃v,v=x*4096+y*64+z:=⟨_,rfl⟩
  rw[←hv]at h5 h6 ⊢
  have eA:(224+(v:Int) / 4096).toNat=b.toNat:=by omega
  have eB:(128+(v:Int) / 64 % 64).toNat=b1.toNat:=by omega
  have eC:(128+(v:Int) % 64).toNat=b2.toNat:=by omega
  refine oA v _ _ (Nat.le_trans (by decide) h5) (by omega) ?_ (by simp) (by simp) ?_
  ·rw[encodeRune,Go.Lib.encodeRuneZ_three (by omega)]
   simp only[List.map_cons,List.map_nil,eA,eB,eC,jg b _ rfl,jg b1 _ rfl,jg b2 _ rfl,List.take_succ_cons,List.take_zero]
  ·simp only[List.take_succ_cons,List.take_zero,List.mem_cons,List.not_mem_nil,or_false,forall_eq_or_imp,forall_eq]
   clear eA eB eC h5 h6 hv
   exact⟨by omega,by omega,by omega⟩
 ·have c1:=l9 b1 h3
  have c2:=l9 b2 h4
  have c3:=l9 b3 h5
  have eb:b.toNat=240+b.toNat % 8:=by omega
  have l1:=uI b1.toNat
  have l2:=uI b2.toNat
  have l3:=uI b3.toNat
  rw[h]
  clear h
  generalize b.toNat % 8=x at *
  generalize b1.toNat % 64=y at *
  generalize b2.toNat % 64=z at *
  generalize b3.toNat % 64=u at *
  obtain⟨v,hv⟩:∃v,v=x*262144+y*4096+z*64+u:=⟨_,rfl⟩
  rw[←hv]at h6 h7 ⊢
  have eA:(240+(v:Int) / 262144).toNat=b.toNat:=by omega
  have eB:(128+(v:Int) / 4096 % 64).toNat=b1.toNat:=by omega
  have eC:(128+(v:Int) / 64 % 64).toNat=b2.toNat:=by omega
  have eD:(128+(v:Int) % 64).toNat=b3.toNat:=by omega
  refine oA v _ _ (Nat.le_trans (by decide) h6) h7 ?_ (by simp) (by simp) ?_
  ·rw[encodeRune,Go.Lib.encodeRuneZ_four (by omega) (by omega)]
   simp only[List.map_cons,List.map_nil,eA,eB,eC,eD,jg b _ rfl,jg b1 _ rfl,jg b2 _ rfl,jg b3 _ rfl,List.take_succ_cons,List.take_zero]
  ·simp only[List.take_succ_cons,List.take_zero,List.mem_cons,List.not_mem_nil,or_false,forall_eq_or_imp,forall_eq]
   clear eA eB eC eD h6 h7 hv
   exact⟨by omega,by omega,by omega,by omega⟩
theorem sW:∀(n:Nat) (l:List UInt8),l.length≤n→∀t∈ij l,Shape t
 |0,l,h=>by
  have:l=[]:=aR (by omega)
  subst this;intro t ht;cases ht
 |n+1,[],_=>by intro t ht;cases ht
 |n+1,b::l,h=>by
  have hw:=ll b l
  rw[mO]
  intro t ht
  rcases List.mem_cons.1 ht with rfl|ht
  ·exact vu b l
  ·exact sW n _ (by simp only[List.length_drop,List.length_cons]at *;omega) t ht
theorem FP (l:List UInt8):∀t∈ij l,Shape t:=sW l.length l ab
theorem gP (c:UInt8) (l:List UInt8) (h:c.toNat<128):ij (c::l)=((c.toNat:Int),[c])::ij l:=by
 rw[mO]
 rcases pL c l with⟨e,h1⟩|⟨e,h1⟩|⟨b1,t,rfl,h1,_⟩|⟨b1,b2,t,rfl,h1,_⟩|⟨b1,b2,b3,t,rfl,h1,_⟩
 ·omega
 ·rw[e];simp
 ·omega
 ·omega
 ·omega
def named (r:Int):Bool :=
 decide (97≤r∧r≤122)||decide (65≤r∧r≤90)||decide (48≤r∧r≤57)||r==45||r==95||r==46||decide (160≤r)
def name (l:List UInt8):Bool:=decide (1≤(ij l).length)&&decide ((ij l).length≤32)&&(ij l).all fun t=>named t.1
def inner (dg:UInt8→Option Nat):List UInt8→Option (List UInt8)
 |[]=>some []
 |c::t =>
  if c≠92 then (inner dg t).map (c::·)
  else match t with
   |[]=>none
   |d::t =>
    if d=34∨d=92 then (inner dg t).map (d::·)
    else if d=110 then (inner dg t).map (10::·)
    else if d=120 then
     match t with
     |a::b::t =>
      match dg a,dg b with
      |some x,some y=>(inner dg t).map ((16*x+y).toUInt8::·)
      |_,_=>none
     |_=>none
    else none
end Txt
namespace Num
def put (n:Nat):List UInt8:=if h:n<128 then [n.toUInt8] else (n % 128+128).toUInt8::put (n / 128)
termination_by n
decreasing_by omega
theorem jQ (n:Nat) (h:n<128):put n=[n.toUInt8]:=by rw[put,dif_pos h]
theorem pW (n:Nat) (h:¬n<128):put n=(n % 128+128).toUInt8::put (n / 128):=by rw[put,dif_neg h]
def held (n:Int):Nat:=if n≤0 then 0 else if n≤1099511627776 then n.toNat else 1099511627776
theorem cB (n:Int):held n≤1099511627776:=by unfold held;split;omega;split <;> omega
theorem jk (n:Nat) (h:n≤1099511627776):held (n:Int)=n:=by unfold held;split;omega;split <;> omega
theorem Eo (n:Nat):put n≠[]:=by rw[put];split <;> simp
theorem gq (k:Nat):∀n:Nat,n<128 ^ (k+1)→(put n).length≤k+1:=by
 induction k with
 |zero=>intro n h;rw[jQ n (by simpa using h)];simp
 |succ k ih =>
  intro n h
  by_cases h1:n<128
  ·rw[jQ n h1];simp
  ·rw[pW n h1,List.length_cons]
   have:=ih (n / 128) (by rw[Nat.pow_succ]at h;exact Nat.div_lt_of_lt_mul (by rw[Nat.mul_comm];exact h))
   omega
theorem cr (n:Nat) (h:n≤1099511627776):(put n).length≤6:=gq 5 n (by omega)
def eY (i n:Nat):List UInt8→Nat×List UInt8×Nat
 |[]=>(0,[],3)
 |c::l =>
  if i=6 then (0,[],2) else
  if 128≤c.toNat then eY (i+1) (n+c.toNat % 128*128 ^ i) l else
  if c.toNat=0∧0<i then (0,[],2) else
  if 1099511627776<n+c.toNat % 128*128 ^ i then (0,[],4) else
  (n+c.toNat % 128*128 ^ i,l,0)
def take (l:List UInt8):Nat×List UInt8×Nat:=eY 0 0 l
theorem ow (n:Nat) (h:n<256):(n.toUInt8).toNat=n:=by
 simp[Nat.toUInt8,UInt8.toNat_ofNat',Nat.mod_eq_of_lt h]
theorem vy (r:List UInt8):∀(k i n acc:Nat),n<128 ^ k→i+k=6→(0<i→0<n)→acc+n*128 ^ i≤1099511627776→eY i acc (put n++r)=(acc+n*128 ^ i,r,0)
 |0,i,n,acc,h,hi,h0,_=>by
  have:n=0:=by simp at h;exact h
  omega
 |k+1,i,n,acc,h,hi,h0,hm=>by
  by_cases h1:n<128
  ·rw[jQ n h1]
   have e:=ow n (by omega)
   have em:n % 128=n:=Nat.mod_eq_of_lt h1
   simp only[List.singleton_append,eY,e,em]
   rw[if_neg (by omega),if_neg (by omega),if_neg (by omega),if_neg (by omega)]
  ·rw[pW n h1]
   have e:=ow (n % 128+128) (by omega)
   have em:(n % 128+128) % 128=n % 128:=by omega
   have hp:128 ^ (i+1)=128 ^ i*128:=Nat.pow_succ ..
   have hs:n % 128*128 ^ i+n / 128*128 ^ (i+1)=n*128 ^ i:=by
    rw[hp,Nat.mul_comm (128 ^ i) 128,←Nat.mul_assoc,←Nat.add_mul]
    congr 1;omega
   simp only[List.cons_append,eY,e,em]
   rw[if_neg (by omega),if_pos (by omega),vy r k (i+1) (n / 128) _ (by rw[Nat.pow_succ]at h;omega) (by omega) (by omega) (by omega)]
   rw[Nat.add_assoc,hs]
theorem gu (n:Nat) (h:n≤1099511627776) (r:List UInt8):take (put n++r)=(n,r,0):=by
 unfold take
 rw[vy r 6 0 n 0 (by omega) rfl (by omega) (by omega)]
 simp
theorem xP:∀(l:List UInt8) (i n:Nat),(eY i n l).1≤1099511627776∧(eY i n l).2.1.length≤l.length∧(eY i n l).2.2≤4∧((eY i n l).2.2≠0→(eY i n l).1=0∧(eY i n l).2.1=[]) ∧
 ((eY i n l).2.2=0→(eY i n l).2.1.length<l.length∧∃p,l=p++(eY i n l).2.1)
 |[],i,n=>by simp[eY]
 |c::l,i,n=>by
  have ih:=xP l (i+1) (n+c.toNat % 128*128 ^ i)
  simp only[eY]
  split
  ·simp
  ·split
   ·obtain⟨h1,h2,h3,h4,h5⟩:=ih
    refine⟨h1,by simp;omega,h3,h4,fun h=>?_⟩
    obtain⟨h6,p,h7⟩:=h5 h
    exact⟨by simp;omega,c::p,by rw[List.cons_append,←h7]⟩
   ·split
    ·simp
    ·split
     ·simp
     ·refine⟨by simp;omega,by simp,by simp,by simp,fun _=>⟨by simp,[c],by simp⟩⟩
theorem fv (l:List UInt8):(take l).1≤1099511627776∧(take l).2.1.length≤l.length∧(take l).2.2≤4∧((take l).2.2≠0→(take l).1=0∧(take l).2.1=[]) ∧
 ((take l).2.2=0→(take l).2.1.length<l.length∧∃p,l=p++(take l).2.1):=xP l 0 0
def vk (n:Int):Nat:=if 0≤n then (2*n).toNat else (-2*n-1).toNat
def Bc (m:Nat):Int:=if m % 2=0 then ((m / 2:Nat):Int) else -((m / 2:Nat):Int)-1
theorem Ho (n:Int):Bc (vk n)=n:=by
 unfold Bc vk
 split <;> split <;> omega
def gM (n:Int):Int:=if n≤-549755813888 then -549755813888 else if n≤549755813888 then n else 549755813888
theorem tS (n:Int) : -549755813888≤gM n∧gM n≤549755813888:=by unfold gM;split <;> (try split) <;> omega
theorem C4 (n:Int) (h1 : -549755813888≤n) (h2:n≤549755813888):gM n=n:=by unfold gM;split <;> (try split) <;> omega
theorem sR (n:Int):vk (gM n)≤1099511627776:=by have:=tS n;unfold vk;split <;> omega
def ki (n:Int):List UInt8:=put (vk (gM n))
def jh (l:List UInt8):Int×List UInt8×Nat:=(Bc (take l).1,(take l).2.1,(take l).2.2)
theorem zR (n:Int) (h1 : -549755813888≤n) (h2:n≤549755813888) (r:List UInt8):jh (ki n++r)=(n,r,0):=by
 unfold jh ki
 rw[gu _ (sR n),C4 n h1 h2,Ho]
def eQ (l:List UInt8):List UInt8:=put (held l.length)++l
def cV (l:List UInt8) (long:Int):List UInt8×List UInt8×Nat :=
 if (take l).2.2≠0 then ([],[],(take l).2.2) else
 if long<(take l).1 then ([],[],4) else
 if (take l).2.1.length<(take l).1 then ([],[],3) else
 ((take l).2.1.take (take l).1,(take l).2.1.drop (take l).1,0)
theorem xL (t r:List UInt8) (long:Int) (h1:(t.length:Int)≤long) (h2:t.length≤1099511627776):cV (eQ t++r) long=(t,r,0):=by
 unfold cV eQ
 rw[jk _ h2,List.append_assoc,gu _ h2]
 simp only[ne_eq,not_true_eq_false,if_false]
 rw[if_neg (by omega),if_neg (by simp)]
 simp
theorem zQ (l:List UInt8) (long:Int):(cV l long).2.2≤4∧((cV l long).2.2≠0→(cV l long).1=[]∧(cV l long).2.1=[])∧(cV l long).1.length≤l.length∧(cV l long).2.1.length≤l.length ∧
 ((cV l long).2.2=0→((cV l long).1.length:Int)≤long∧(cV l long).2.1.length<l.length):=by
 obtain⟨h1,h2,h3,h4,h5⟩:=fv l
 unfold cV
 split
 ·rename_i h;simp;omega
 ·split
  ·simp
  ·split
   ·simp
   ·rename_i ha hb hc
    have:=(h5 (by omega)).1
    simp only[List.length_take,List.length_drop]
    refine⟨by omega,by simp,by omega,by omega,fun _=>⟨by omega,by omega⟩⟩
def fixed (n:Nat):List UInt8:=[(n / 16777216).toUInt8,(n / 65536).toUInt8,(n / 256).toUInt8,n.toUInt8]
def cY (l:List UInt8):Nat×List UInt8×Nat :=
 match l with
 |a::b::c::d::r=>(((a.toNat*256+b.toNat)*256+c.toNat)*256+d.toNat,r,0)
 |_=>(0,[],3)
theorem jS (n:Nat):(fixed n).length=4:=rfl
theorem xI (n:Nat):(n.toUInt8).toNat=n % 256:=by simp[Nat.toUInt8,UInt8.toNat_ofNat']
theorem jZ (n:Nat) (h:n<4294967296) (r:List UInt8):cY (fixed n++r)=(n,r,0):=by
 simp only[fixed,List.cons_append,List.nil_append,cY,xI]
 congr 1
 omega
theorem pO (l:List UInt8) (h:4≤l.length):∃n,cY l=(n,l.drop 4,0)∧n<4294967296:=by
 match l,h with
 |a::b::c::d::r,_ =>
  have ha:=a.toNat_lt;have hb:=b.toNat_lt;have hc:=c.toNat_lt;have hd:=d.toNat_lt
  exact⟨_,rfl,by omega⟩
theorem td (l:List UInt8) (h:l.length<4):cY l=(0,[],3):=by
 match l,h with
 |[],_=>rfl
 |[_],_=>rfl
 |[_,_],_=>rfl
 |[_,_,_],_=>rfl
end Num
namespace Crc
def step (r:Nat):Nat:=if r % 2=1 then (r / 2) ^^^ 0xEDB88320 else r / 2
def qX (r:Nat):Nat:=step (step (step (step r)))
def ED (r c:Nat):Nat:=qX ((r ^^^ c) % 16) ^^^ (r / 16)
def byte (r c:Nat):Nat:=ED (ED r c) (c / 16)
def run (r:Nat) (l:List UInt8):Nat:=l.foldl (fun r c=>byte r c.toNat) r
def lh (s:Nat) (l:List UInt8):Nat:=4294967295 ^^^ run (4294967295 ^^^ s) l
def sum (l:List UInt8):Nat:=lh 0 l
theorem Cn (r:Nat) (a b:List UInt8):run r (a++b)=run (run r a) b:=by simp[run]
theorem not_not (r:Nat):4294967295 ^^^ (4294967295 ^^^ r)=r:=by rw[←Nat.xor_assoc,Nat.xor_self,Nat.zero_xor]
theorem sV (s:Nat) (a b:List UInt8):lh (lh s a) b=lh s (a++b):=by
 unfold lh;rw[not_not,Cn]
theorem nM {a b:Nat} (ha:a<4294967296) (hb:b<4294967296):a ^^^ b<4294967296:=Nat.xor_lt_two_pow (n:=32) ha hb
theorem qW {r:Nat} (h:r<4294967296):step r<4294967296:=by
 unfold step;split
 ·exact nM (by omega) (by omega)
 ·omega
theorem xS {r:Nat} (h:r<4294967296):qX r<4294967296:=qW (qW (qW (qW h)))
theorem yJ {r c:Nat} (h:r<4294967296):ED r c<4294967296:=nM (xS (by omega)) (by omega)
theorem IL {r c:Nat} (h:r<4294967296):byte r c<4294967296:=yJ (yJ h)
theorem Ef:∀(l:List UInt8) {r:Nat},r<4294967296→run r l<4294967296
 |[],_,h=>h
 |c::l,r,h=>Ef l (r:=byte r c.toNat) (IL h)
theorem DR {s:Nat} (h:s<4294967296) (l:List UInt8):lh s l<4294967296:=nM (by omega) (Ef l (nM (by omega) h))
theorem tf (l:List UInt8):sum l<4294967296:=DR (by omega) l
end Crc
namespace Frm
open Go.Proofs.YtmgmknmaepjnoaaGreatDoor (Num.fixed Num.cY)
def bE (p:List UInt8):List UInt8:=Num.fixed p.length++(Num.fixed (Crc.sum (Num.fixed p.length++p))++p)
def put (p:List UInt8):List UInt8×Nat:=if p=[] then ([],2) else if 8000<p.length then ([],4) else (bE p,0)
def take (s:List UInt8):List UInt8×List UInt8×Nat :=
 if s.length<8 then ([],[],3) else
 if (Num.cY s).1=0 then ([],[],2) else
 if 8000<(Num.cY s).1 then ([],[],4) else
 if (s.drop 8).length<(Num.cY s).1 then ([],[],3) else
 if Crc.sum (s.take 4++(s.drop 8).take (Num.cY s).1)≠(Num.cY (s.drop 4)).1 then ([],[],5) else
 ((s.drop 8).take (Num.cY s).1,(s.drop 8).drop (Num.cY s).1,0)
theorem gi (p:List UInt8):(bE p).length=p.length+8:=by simp[bE,Num.fixed]
theorem nk (p r:List UInt8) (h0:p≠[]) (h1:p.length≤8000):take (bE p++r)=(p,r,0):=by
 have hp:0<p.length:=List.length_pos_iff.2 h0
 have e1:Num.cY (bE p++r)=(p.length,Num.fixed (Crc.sum (Num.fixed p.length++p))++p++r,0):=by
  rw[bE,List.append_assoc,Num.jZ _ (by omega)]
 have e2:(bE p++r).drop 4=Num.fixed (Crc.sum (Num.fixed p.length++p))++(p++r):=by
  rw[bE,List.append_assoc,List.drop_append_of_le_length (by simp[Num.jS]),List.drop_of_length_le (by simp[Num.jS])];simp
 have e3:(bE p++r).drop 8=p++r:=by
  rw[show 8=4+4 from rfl,←List.drop_drop,e2,List.drop_append_of_le_length (by simp[Num.jS]),List.drop_of_length_le (by simp[Num.jS])];simp
 have e4:(bE p++r).take 4=Num.fixed p.length:=by
  rw[bE,List.append_assoc,List.take_append_of_le_length (by simp[Num.jS]),List.take_of_length_le (by simp[Num.jS])]
 have e5:(bE p++r).length=p.length+8+r.length:=by rw[List.length_append,gi]
 unfold take
 rw[e1,e2,e3,e4,e5,Num.jZ _ (Crc.tf _)]
 simp only
 rw[if_neg (by omega),if_neg (by omega),if_neg (by omega),if_neg (by simp),if_neg (by simp)]
 simp
theorem fv (s:List UInt8):(take s).2.2≤5∧((take s).2.2≠0→(take s).1=[]∧(take s).2.1=[])∧((take s).2.2=0→1≤(take s).1.length∧(take s).1.length≤8000∧(take s).2.1.length+9≤s.length∧(take s).2.1.length+(take s).1.length+8=s.length):=by
 unfold take
 split
 ·simp
 ·split
  ·simp
  ·split
   ·simp
   ·split
    ·simp
    ·split
     ·simp
     ·rename_i h1 h2 h3 h4 h5
      simp only[List.length_drop]at h4
      simp only[List.length_take,List.length_drop]
      refine⟨by omega,by simp,fun _=>⟨by omega,by omega,by omega,by omega⟩⟩
def mS:Nat→List UInt8→List (List UInt8)×List UInt8
 |0,s=>([],s)
 |f+1,s=>if (take s).2.2≠0 then ([],s) else ((take s).1::(mS f (take s).2.1).1,(mS f (take s).2.1).2)
def scan (s:List UInt8):List (List UInt8)×List UInt8:=mS s.length s
theorem tn:∀(f g:Nat) (s:List UInt8),s.length≤f→s.length≤g→mS f s=mS g s
 |0,0,s,_,_=>rfl
 |0,g+1,s,h,_=>by
  have:s=[]:=aR (by omega)
  subst this;rfl
 |f+1,0,s,_,h=>by
  have:s=[]:=aR (by omega)
  subst this;rfl
 |f+1,g+1,s,hf,hg=>by
  unfold mS
  split
  ·rfl
  ·rename_i h
   have:=((fv s).2.2 (by omega)).2.2.1
   rw[tn f g _ (by omega) (by omega)]
theorem mR (s:List UInt8) (h:(take s).2.2≠0):scan s=([],s):=by
 unfold scan
 cases e:s.length with
 |zero=>rfl
 |succ n=>rw[mS,if_pos h]
theorem qY (s:List UInt8) (h:(take s).2.2=0):scan s=((take s).1::(scan (take s).2.1).1,(scan (take s).2.1).2):=by
 have h2:=((fv s).2.2 h).2.2.1
 unfold scan
 cases e:s.length with
 |zero=>omega
 |succ n =>
  rw[mS,if_neg (by omega),tn n (take s).2.1.length _ (by omega) (by omega)]
theorem rC (p r:List UInt8) (h0:p≠[]) (h1:p.length≤8000):scan (bE p++r)=(p::(scan r).1,(scan r).2):=by
 have h:=nk p r h0 h1
 rw[qY _ (by rw[h]),h]
theorem FQ:scan []=([],[]):=rfl
theorem mg:∀(n:Nat) (s:List UInt8),s.length≤n→∀p∈(scan s).1,1≤p.length∧p.length≤8000
 |n,s,hn=>by
  by_cases h:(take s).2.2=0
  ·rw[qY s h]
   have h2:=(fv s).2.2 h
   match n with
   |0=>omega
   |n+1 =>
    have ih:=mg n (take s).2.1 (by omega)
    intro p hp
    rcases List.mem_cons.1 hp with rfl|hp
    ·exact⟨h2.1,h2.2.1⟩
    ·exact ih p hp
  ·rw[mR s h];intro p hp;cases hp
theorem lM:∀(n:Nat) (s:List UInt8),s.length≤n→9*(scan s).1.length≤s.length
 |n,s,hn=>by
  by_cases h:(take s).2.2=0
  ·rw[qY s h]
   have h2:=(fv s).2.2 h
   match n with
   |0=>omega
   |n+1 =>
    have ih:=lM n (take s).2.1 (by omega)
    simp only[List.length_cons];omega
  ·rw[mR s h];simp
def oS (p:List UInt8):Prop:=p≠[]∧p.length≤8000
theorem i' {p:List UInt8} (h:oS p):put p=(bE p,0):=by
 unfold put;rw[if_neg h.1,if_neg (by have:=h.2;omega)]
theorem yb:∀(l:List (List UInt8)) (r:List UInt8),(∀p∈l,oS p)→scan (l.flatMap bE++r)=(l++(scan r).1,(scan r).2)
 |[],r,_=>by simp
 |p::l,r,h=>by
  have h1:=h p (by simp)
  rw[List.flatMap_cons,List.append_assoc,rC p _ h1.1 h1.2,yb l r (fun q hq=>h q (by simp[hq]))]
  simp
theorem DZ (p q r:List UInt8) (h0:p≠[]) (h1:p.length≤8000) (he:bE p=q++r) (hr:r≠[]):(take q).2.2≠0:=by
 have hl:q.length+r.length=p.length+8:=by rw[←gi,he,List.length_append]
 have hr1:0<r.length:=List.length_pos_iff.2 hr
 by_cases hs:q.length<8
 ·unfold take;rw[if_pos hs];simp
 ·have e1:(Num.cY q).1=p.length:=by
   rcases q with _|⟨a,_|⟨b,_|⟨c,_|⟨d,q'⟩⟩⟩⟩
   ·simp at hs
   ·simp at hs
   ·simp at hs
   ·simp at hs
   ·have e2:=Num.jZ p.length (by omega) (Num.fixed (Crc.sum (Num.fixed p.length++p))++p)
    rw[bE]at he
    rw[he]at e2
    simp only[List.cons_append,Num.cY]at e2 ⊢
    exact congrArg Prod.fst e2
  have hp:0<p.length:=List.length_pos_iff.2 h0
  unfold take
  rw[if_neg hs,e1,if_neg (by omega),if_neg (by omega),if_pos (by rw[List.length_drop];omega)]
  simp
theorem rB:∀(l:List (List UInt8)) (q r:List UInt8),(∀p∈l,oS p)→l.flatMap bE=q++r →
 ∃k,k≤l.length∧(scan q).1=l.take k∧∀j,j≤l.length→((l.take j).flatMap bE).length≤q.length→j≤k
 |[],q,r,_,he=>by
  have:q=[]:=by simp at he;exact he.1
  subst this
  exact⟨0,by simp,rfl,fun j h _=>by simpa using h⟩
 |p::l,q,r,hg,he=>by
  have h1:=hg p (by simp)
  by_cases hq:(bE p).length≤q.length
  ·obtain⟨q',rfl⟩:∃q',q=bE p++q':=by
    have:bE p <+: q:=List.prefix_of_prefix_length_le ⟨_,List.flatMap_cons.symm⟩ ⟨r,he.symm⟩ hq
    obtain⟨q',h⟩:=this
    exact⟨q',h.symm⟩
   rw[List.flatMap_cons,List.append_assoc]at he
   have he':=List.append_cancel_left he
   obtain⟨k,hk1,hk2,hk3⟩:=rB l q' r (fun q hq=>hg q (by simp[hq])) he'
   refine⟨k+1,by simp;omega,?_,?_⟩
   ·rw[rC p q' h1.1 h1.2,hk2];simp
   ·intro j hj hl
    match j with
    |0=>omega
    |j+1 =>
     simp only[List.take_succ_cons,List.flatMap_cons,List.length_append]at hl
     have:=hk3 j (by simpa using hj) (by omega)
     omega
  ·refine⟨0,by simp,?_,?_⟩
   ·have hx:∃x,bE p=q++x∧x≠[]:=by
     have:q <+: bE p:=List.prefix_of_prefix_length_le ⟨r,he.symm⟩ ⟨_,List.flatMap_cons.symm⟩ (by omega)
     obtain⟨x,h⟩:=this
     refine⟨x,h.symm,?_⟩
     rintro rfl
     rw[List.append_nil]at h
     rw[←h]at hq;omega
    obtain⟨x,hx1,hx2⟩:=hx
    rw[mR q (DZ p q x h1.1 h1.2 hx1 hx2)];simp
   ·intro j hj hl
    match j with
    |0=>omega
    |j+1 =>
     simp only[List.take_succ_cons,List.flatMap_cons,List.length_append]at hl
     omega
end Frm
namespace Evt
structure Event where
 kind:List UInt8
 data:List UInt8
structure Batch where
 stream:List UInt8
 expect:Int
 bg:Int
 seq:Int
 events:List Event
structure Entry where
 pos:Int
 epoch:Int
 b:Batch
def sT:Batch:=⟨[],0,0,0,[]⟩
def kR:Entry:=⟨0,0,sT⟩
def right (e:Event):Bool:=decide (e.data.length≤200)&&Txt.name e.kind
def number (n:Int):Bool:=decide (1≤n)&&decide (n≤274877906944)
def tV (b:Batch):Bool:=Txt.name b.stream&&decide (-1≤b.expect)&&decide (b.expect≤274877906944)&&number b.bg&&number b.seq&&!b.events.isEmpty
def fits (b:Batch):Nat :=
 if tV b=false then 1 else if 8<b.events.length then 4 else if b.events.all right=false then 1 else 0
def fP (e:Event):List UInt8:=Num.eQ e.kind++Num.eQ e.data
def aM (b:Batch):List UInt8 :=
 (Num.eQ b.stream++Num.ki b.expect++Num.put (Num.held b.bg)++Num.put (Num.held b.seq)++Num.put (Num.held b.events.length))++b.events.flatMap fP
def de (b:Batch):List UInt8:=if fits b≠0 then [] else aM b
def il (st:List UInt8×Nat):List UInt8×(List UInt8×Nat):=if st.2≠0 then ([],st) else ((Num.cV st.1 200).1,(Num.cV st.1 200).2.1,(Num.cV st.1 200).2.2)
def kT (st:List UInt8×Nat):Nat×(List UInt8×Nat):=if st.2≠0 then (0,st) else ((Num.take st.1).1,(Num.take st.1).2.1,(Num.take st.1).2.2)
def mW (st:List UInt8×Nat):Int×(List UInt8×Nat):=if st.2≠0 then (0,st) else ((Num.jh st.1).1,(Num.jh st.1).2.1,(Num.jh st.1).2.2)
def note (st:List UInt8×Nat) (e:Nat):List UInt8×Nat:=if st.2=0 then (st.1,e) else st
def jO (st:List UInt8×Nat):Event×(List UInt8×Nat):=(⟨(il st).1,(il (il st).2).1⟩,(il (il st).2).2)
def dT:Nat→List UInt8×Nat→List Event×(List UInt8×Nat)
 |0,st=>([],st)
 |n+1,st=>if st.2≠0 then ([],st) else ((jO st).1::(dT n (jO st).2).1,(dT n (jO st).2).2)
def pV (s:List UInt8):List UInt8×Int×Nat×Nat×Nat×(List UInt8×Nat) :=
 let a:=il (s,0);let b:=mW a.2;let c:=kT b.2;let d:=kT c.2;let e:=kT d.2
 (a.1,b.1,c.1,d.1,e.1,e.2)
def mj (many:Nat) (st:List UInt8×Nat):List UInt8×Nat:=if 8<many then note st 4 else st
def kg (b:Batch) (st:List UInt8×Nat):List UInt8×Nat:=if fits b≠0 then note st 2 else st
def gQ (s:List UInt8):Batch×List UInt8×Nat :=
 let h:=pV s
 let q:=dT h.2.2.2.2.1 (mj h.2.2.2.2.1 h.2.2.2.2.2)
 let b:Batch:=⟨h.1,h.2.1,h.2.2.1,h.2.2.2.1,q.1⟩
 let st:=kg b q.2
 if st.2≠0 then (sT,[],st.2) else (b,st.1,0)
def bB (e:Entry):Bool:=number e.pos&&number e.epoch&&(fits e.b==0)
def put (e:Entry):List UInt8:=if bB e then Num.put (Num.held e.pos)++Num.put (Num.held e.epoch)++de e.b else []
def take (s:List UInt8):Entry×List UInt8×Nat :=
 let p:=Num.take s
 if p.2.2≠0 then (kR,[],p.2.2) else
 let q:=Num.take p.2.1
 if q.2.2≠0 then (kR,[],q.2.2) else
 let b:=gQ q.2.1
 if b.2.2≠0 then (kR,[],b.2.2) else
 if bB ⟨p.1,q.1,b.1⟩ then (⟨p.1,q.1,b.1⟩,b.2.1,0) else (kR,[],2)
def follows:List Entry→Int→Int→Bool
 |[],_,_=>true
 |e::l,pos,epoch=>if e.pos≠pos+1∨e.epoch<epoch∨bB e=false then false else follows l e.pos e.epoch
theorem fj (n:Int):number n=true↔1≤n∧n≤274877906944:=by simp[number]
theorem kY {n:Int} (h:number n=true):Num.held n≤1099511627776∧((Num.held n:Nat):Int)=n:=by
 have:=(fj n).1 h
 refine⟨Num.cB n,?_⟩
 unfold Num.held
 rw[if_neg (by omega),if_pos (by omega)];omega
theorem FH {t:Int×List UInt8} (h:Txt.Shape t):t.2.length≤4:=by
 rcases h with⟨_,b,h,_⟩|⟨_,_,h⟩|⟨_,_,_,_,h,_⟩
 ·rw[h];simp
 ·rw[h];simp
 ·exact h
theorem vS:∀(ts:List (Int×List UInt8)),(∀t∈ts,Txt.Shape t)→(ts.flatMap (·.2)).length≤4*ts.length
 |[],_=>by simp
 |t::ts,h=>by
  have h1:=FH (h t (by simp))
  have h2:=vS ts (fun u hu=>h u (by simp[hu]))
  simp only[List.flatMap_cons,List.length_append,List.length_cons];omega
theorem gy {l:List UInt8} (h:Txt.name l=true):l.length≤128:=by
 have h1:=vS (Txt.ij l) (Txt.FP l)
 rw[Txt.DU]at h1
 simp only[Txt.name,Bool.and_eq_true,decide_eq_true_eq]at h
 omega
theorem pR {e:Event} (h:right e=true):e.kind.length≤128∧e.data.length≤200:=by
 simp only[right,Bool.and_eq_true,decide_eq_true_eq]at h
 exact⟨gy h.2,h.1⟩
theorem iD {b:Batch} (h:fits b=0):Txt.name b.stream=true∧(-1≤b.expect∧b.expect≤274877906944)∧number b.bg=true∧number b.seq=true∧b.events≠[]∧b.events.length≤8∧∀e∈b.events,right e=true:=by
 unfold fits at h
 split at h
 ·cases h
 ·split at h
  ·cases h
  ·split at h
   ·cases h
   ·rename_i h1 h2 h3
    simp only[tV,Bool.and_eq_true,decide_eq_true_eq,Bool.not_eq_false,Bool.not_eq_true',List.isEmpty_eq_false_iff,ne_eq,List.all_eq_true]at h1 h2 h3
    obtain⟨⟨⟨⟨⟨a,b1⟩,b2⟩,c⟩,d⟩,e⟩:=h1
    exact⟨a,⟨b1,b2⟩,c,d,e,by omega,h3⟩
theorem kJ (t r:List UInt8) (h:t.length≤200):il (Num.eQ t++r,0)=(t,r,0):=by
 unfold il
 rw[if_neg (by simp),Num.xL t r 200 (by omega) (by omega)]
theorem pU (n:Nat) (r:List UInt8) (h:n≤1099511627776):kT (Num.put n++r,0)=(n,r,0):=by
 unfold kT
 rw[if_neg (by simp),Num.gu n h r]
theorem Em (n:Int) (r:List UInt8) (h1 : -1≤n) (h2:n≤274877906944):mW (Num.ki n++r,0)=(n,r,0):=by
 unfold mW
 rw[if_neg (by simp),Num.zR n (by omega) (by omega) r]
theorem wW (e:Event) (r:List UInt8) (h:right e=true):jO (fP e++r,0)=(e,r,0):=by
 obtain⟨h1,h2⟩:=pR h
 unfold jO fP
 rw[List.append_assoc,kJ _ _ (by omega),kJ _ _ (by omega)]
theorem nR:∀(l:List Event) (r:List UInt8),(∀e∈l,right e=true)→dT l.length (l.flatMap fP++r,0)=(l,r,0)
 |[],r,_=>by simp[dT]
 |e::l,r,h=>by
  rw[List.length_cons,dT,if_neg (by simp),List.flatMap_cons,List.append_assoc,wW e _ (h e (by simp))]
  simp only[nR l r (fun x hx=>h x (by simp[hx]))]
theorem wM (b:Batch) (r:List UInt8) (h:fits b=0):gQ (de b++r)=(b,r,0):=by
 obtain⟨h1,⟨h2,h3⟩,h4,h5,h6,h7,h8⟩:=iD h
 have hn:=gy h1
 obtain⟨i1,i2⟩:=kY h4
 obtain⟨j1,j2⟩:=kY h5
 have hk:Num.held (b.events.length:Int)=b.events.length:=Num.jk _ (by omega)
 have e:pV (de b++r)=(b.stream,b.expect,Num.held b.bg,Num.held b.seq,b.events.length,b.events.flatMap fP++r,0):=by
  unfold pV de
  rw[if_neg (by simp[h]),aM,hk]
  simp only[List.append_assoc]
  rw[kJ _ _ (by omega)]
  simp only
  rw[Em _ _ h2 h3]
  simp only
  rw[pU _ _ i1]
  simp only
  rw[pU _ _ j1]
  simp only
  rw[pU _ _ (by omega)]
 unfold gQ
 rw[e]
 simp only[mj]
 rw[if_neg (show ¬8<b.events.length by omega),nR _ _ h8]
 simp only[i2,j2]
 rw[show(⟨b.stream,b.expect,b.bg,b.seq,b.events⟩:Batch)=b from rfl,kg,if_neg (show ¬fits b≠0 by simp[h])]
 simp
theorem ke {e:Entry}:bB e=true↔number e.pos=true∧number e.epoch=true∧fits e.b=0:=by
 simp[bB,and_assoc]
theorem gu (e:Entry) (r:List UInt8) (h:bB e=true):take (put e++r)=(e,r,0):=by
 obtain⟨h1,h2,h3⟩:=ke.1 h
 obtain⟨i1,i2⟩:=kY h1
 obtain⟨j1,j2⟩:=kY h2
 unfold put
 rw[if_pos h]
 simp only[List.append_assoc,take]
 rw[Num.gu _ i1]
 simp only[ne_eq,not_true_eq_false,if_false]
 rw[Num.gu _ j1]
 simp only[not_true_eq_false,if_false]
 rw[wM _ _ h3]
 simp only[not_true_eq_false,if_false,i2,j2]
 rw[show(⟨e.pos,e.epoch,e.b⟩:Entry)=e from rfl,if_pos h]
theorem tc (s:List UInt8) (h:(take s).2.2=0):bB (take s).1=true:=by
 unfold take at h ⊢
 simp only at h ⊢
 split at h
 ·rename_i g;exact absurd h g
 ·split at h
  ·rename_i g;exact absurd h g
  ·split at h
   ·rename_i g;exact absurd h g
   ·split at h
    ·rename_i g1 g2 g3 g4
     rw[if_neg g1,if_neg g2,if_neg g3,if_pos g4]
     exact g4
    ·cases h
theorem gZ (t:List UInt8):(Num.eQ t).length≤6+t.length:=by
 have:=Num.cr _ (Num.cB t.length)
 simp only[Num.eQ,List.length_append];omega
theorem Dx {e:Event} (h:right e=true):(fP e).length≤340:=by
 obtain⟨h1,h2⟩:=pR h
 have h3:=gZ e.kind
 have h4:=gZ e.data
 simp only[fP,List.length_append];omega
theorem zi (k:Nat):∀(l:List Event),(∀e∈l,(fP e).length≤k)→(l.flatMap fP).length≤k*l.length
 |[],_=>by simp
 |e::l,h=>by
  have h1:=h e (by simp)
  have h2:=zi k l (fun x hx=>h x (by simp[hx]))
  simp only[List.flatMap_cons,List.length_append,List.length_cons,Nat.mul_add];omega
theorem ml (b:Batch):(de b).length≤3000:=by
 unfold de
 split
 ·simp
 ·rename_i h
  have h0:fits b=0:=by omega
  obtain⟨h1,_,_,_,_,h7,h8⟩:=iD h0
  have a1:=gZ b.stream
  have a2:=gy h1
  have a3:=Num.cr _ (Num.sR b.expect)
  have a4:=Num.cr _ (Num.cB b.bg)
  have a5:=Num.cr _ (Num.cB b.seq)
  have a6:=Num.cr _ (Num.cB b.events.length)
  have a7:=zi 340 b.events (fun e he=>Dx (h8 e he))
  simp only[aM,Num.ki,List.length_append];omega
theorem gq (e:Entry):(put e).length≤3012:=by
 unfold put
 split
 ·have a4:=Num.cr _ (Num.cB e.pos)
  have a5:=Num.cr _ (Num.cB e.epoch)
  have a6:=ml e.b
  simp only[List.length_append];omega
 ·simp
end Evt
namespace af
open Evt
def iI (first:Int):List UInt8:=115::Num.put (Num.held first)
def cz (first:Int):List UInt8:=Frm.bE (iI first)
def dk (e:Entry):List UInt8:=101::Evt.put e
def aM (l:List Entry):List UInt8:=(l.map dk).flatMap Frm.bE
theorem oP (first:Int):Frm.oS (iI first):=by
 have:=Num.cr _ (Num.cB first)
 exact⟨by simp[iI],by simp only[iI,List.length_cons];omega⟩
theorem kW (e:Entry):Frm.oS (dk e):=by
 have:=Evt.gq e
 exact⟨by simp[dk],by simp only[dk,List.length_cons];omega⟩
theorem jD (a b:List Entry):aM (a++b)=aM a++aM b:=by simp[aM]
theorem Dy:aM []=[]:=rfl
theorem iK:∀(l:List Entry),(aM l).length≤3021*l.length
 |[]=>by simp[aM]
 |e::l=>by
  have h1:=Evt.gq e
  have h2:=iK l
  have h3:aM (e::l)=Frm.bE (dk e)++aM l:=rfl
  rw[h3,List.length_append,Frm.gi,dk,List.length_cons,List.length_cons];omega
theorem gj (first:Int):(cz first).length≤15:=by
 have:=Num.cr _ (Num.cB first)
 rw[cz,Frm.gi,iI,List.length_cons];omega
def goes (pos epoch:Int) (s:List UInt8):Bool :=
 (s.head?==some 101)&&((Evt.take (s.drop 1)).2.2==0)&&((Evt.take (s.drop 1)).2.1.isEmpty)&&((Evt.take (s.drop 1)).1.pos==pos+1)&&decide (epoch≤(Evt.take (s.drop 1)).1.epoch)
def eO:Int→Int→List (List UInt8)→List Entry
 |_,_,[]=>[]
 |pos,epoch,s::l=>if goes pos epoch s then (Evt.take (s.drop 1)).1::eO (Evt.take (s.drop 1)).1.pos (Evt.take (s.drop 1)).1.epoch l else []
structure af where
 first:Int
 entries:List Entry
 cC:Bool
def oo:af:=⟨0,[],false⟩
def opens (h:List UInt8):Bool :=
 (h.head?==some 115)&&((Num.take (h.drop 1)).2.2==0)&&((Num.take (h.drop 1)).2.1.isEmpty)&&decide (1≤(Num.take (h.drop 1)).1)&&decide ((Num.take (h.drop 1)).1≤274877906944)
def kt (first:Int) (l:List Entry) (s:List UInt8):af:=⟨first,l,cz first++aM l != s⟩
def load (s:List UInt8):af×Nat :=
 match (Frm.scan s).1 with
 |[]=>(oo,2)
 |h::l=>if opens h then (kt (Num.take (h.drop 1)).1 (eO ((Num.take (h.drop 1)).1-1) 0 l) s,0) else (oo,2)
def last (g:af):Int×Int:=match g.entries.getLast? with|none=>(g.first-1,0)|some e=>(e.pos,e.epoch)
theorem cZ {e:Entry} {l:List Entry} {pos epoch:Int}:follows (e::l) pos epoch=true↔e.pos=pos+1∧epoch≤e.epoch∧bB e=true∧follows l e.pos e.epoch=true:=by
 rw[follows]
 split
 ·rename_i h
  simp only[Bool.false_eq_true,false_iff]
  rintro ⟨h1,h2,h3,_⟩
  rcases h with h|h|h
  ·exact h h1
  ·omega
  ·rw[h3]at h;cases h
 ·rename_i h
  have h1:¬(bB e=false):=fun g=>h (.inr (.inr g))
  constructor
  ·intro g;exact⟨by omega,by omega,by simpa using h1,g⟩
  ·rintro ⟨_,_,_,g⟩;exact g
def dQ (pos epoch:Int):List Entry→Int×Int
 |[]=>(pos,epoch)
 |e::l=>dQ e.pos e.epoch l
theorem cM:∀(a b:List Entry) (pos epoch:Int),follows (a++b) pos epoch=true↔follows a pos epoch=true∧follows b (dQ pos epoch a).1 (dQ pos epoch a).2=true
 |[],b,pos,epoch=>by simp[follows,dQ]
 |e::a,b,pos,epoch=>by
  rw[List.cons_append,cZ,cZ,cM a b,dQ];simp[and_assoc]
theorem o4:∀(l:List Entry) (pos epoch:Int),dQ pos epoch l=match l.getLast? with|none=>(pos,epoch)|some e=>(e.pos,e.epoch)
 |[],pos,epoch=>rfl
 |[e],pos,epoch=>rfl
 |e::f::l,pos,epoch=>by
  rw[dQ,o4 (f::l)]
  simp[List.getLast?_cons]
theorem Gu (g:af):last g=dQ (g.first-1) 0 g.entries:=by
 rw[o4,last]
theorem AR {e:Entry} {pos epoch:Int} (h:bB e=true) (h1:e.pos=pos+1) (h2:epoch≤e.epoch):goes pos epoch (dk e)=true∧(Evt.take ((dk e).drop 1)).1=e:=by
 have ht:Evt.take ((dk e).drop 1)=(e,[],0):=by
  have:=Evt.gu e [] h
  simpa[dk]using this
 refine⟨?_,by rw[ht]⟩
 unfold goes
 rw[ht]
 simp[dk,h1,h2]
theorem qH:∀(l:List Entry) (r:List (List UInt8)) (pos epoch:Int),follows l pos epoch=true→eO pos epoch (l.map dk++r)=l++eO (dQ pos epoch l).1 (dQ pos epoch l).2 r
 |[],r,pos,epoch,_=>rfl
 |e::l,r,pos,epoch,h=>by
  obtain⟨h1,h2,h3,h4⟩:=cZ.1 h
  obtain⟨g1,g2⟩:=AR h3 h1 h2
  rw[List.map_cons,List.cons_append,eO,if_pos g1,g2,qH l r _ _ h4,dQ,List.cons_append]
theorem qI:∀(l:List (List UInt8)) (pos epoch:Int),follows (eO pos epoch l) pos epoch=true
 |[],_,_=>rfl
 |s::l,pos,epoch=>by
  rw[eO]
  split
  ·rename_i h
   simp only[goes,Bool.and_eq_true,beq_iff_eq,decide_eq_true_eq]at h
   obtain⟨⟨⟨⟨h1,h2⟩,h3⟩,h4⟩,h5⟩:=h
   exact cZ.2 ⟨h4,h5,Evt.tc _ h2,qI l _ _⟩
  ·rfl
theorem oZ:∀(l:List (List UInt8)) (pos epoch:Int),(eO pos epoch l).length≤l.length
 |[],_,_=>ab
 |s::l,pos,epoch=>by
  rw[eO]
  split
  ·have:=oZ l (Evt.take (s.drop 1)).1.pos (Evt.take (s.drop 1)).1.epoch
   simp only[List.length_cons];omega
  ·simp
theorem AQ (first:Int) (h1:1≤first) (h2:first≤274877906944):opens (iI first)=true∧(((Num.take ((iI first).drop 1)).1:Nat):Int)=first:=by
 have e:Num.held first=first.toNat:=by unfold Num.held;rw[if_neg (by omega),if_pos (by omega)]
 have ht:Num.take ((iI first).drop 1)=(first.toNat,[],0):=by
  have:=Num.gu first.toNat (by omega) []
  simpa[iI,e]using this
 unfold opens
 rw[ht]
 refine⟨?_,by simp only;omega⟩
 simp[iI];omega
theorem AK (first:Int) (l:List Entry) (q r:List UInt8) (h1:1≤first) (h2:first≤274877906944) (hf:follows l (first-1) 0=true) (he:cz first++aM l=q++r) (hq:(cz first).length≤q.length) :
 ∃k,k≤l.length∧load q=(kt first (l.take k) q,0)∧(∀j,j≤l.length→(cz first++aM (l.take j)).length≤q.length→j≤k):=by
 have hall:∀p∈iI first::l.map dk,Frm.oS p:=by
  intro p hp
  rcases List.mem_cons.1 hp with rfl|hp
  ·exact oP first
  ·obtain⟨e,_,rfl⟩:=List.mem_map.1 hp;exact kW e
 obtain⟨k,hk1,hk2,hk3⟩:=Frm.rB (iI first::l.map dk) q r hall (by simpa[cz,aM]using he)
 have hk0:1≤k:=hk3 1 (by simp) (by simpa[cz]using hq)
 obtain⟨k,rfl⟩:∃m,k=m+1:=⟨k-1,by omega⟩
 simp only[List.length_cons,List.length_map]at hk1
 obtain⟨o1,o2⟩:=AQ first h1 h2
 have hs:(Frm.scan q).1=iI first::(l.take k).map dk:=by rw[hk2];simp[List.map_take]
 have hft:follows (l.take k) (first-1) 0=true:=by
  have:=(cM (l.take k) (l.drop k) (first-1) 0).1 (by rw[List.take_append_drop];exact hf)
  exact this.1
 refine⟨k,by omega,?_,?_⟩
 ·unfold load
  rw[hs]
  simp only[o1,if_true,o2]
  have:=qH (l.take k) [] (first-1) 0 hft
  simp only[List.append_nil]at this
  rw[this,eO,List.append_nil]
 ·intro j hj hl
  have:=hk3 (j+1) (by simp;omega) (by
   simp only[List.take_succ_cons,List.flatMap_cons,←List.map_take]
   simpa[cz,aM]using hl)
  omega
theorem tL (first:Int) (l:List Entry) (h1:1≤first) (h2:first≤274877906944) (hf:follows l (first-1) 0=true):load (cz first++aM l)=(⟨first,l,false⟩,0):=by
 obtain⟨k,k1,k2,k3⟩:=AK first l (cz first++aM l) [] h1 h2 hf (by simp) (by simp)
 have:=k3 l.length ab (by simp)
 have e:l.take k=l:=List.take_of_length_le (by omega)
 rw[k2,e,kt]
 simp
theorem Bx (s:List UInt8):(load s).2≤2∧((load s).2≠0→load s=(oo,2)) ∧
 ((load s).2=0→1≤(load s).1.first∧(load s).1.first≤274877906944∧follows (load s).1.entries ((load s).1.first-1) 0=true∧(load s).1.cC=(cz (load s).1.first++aM (load s).1.entries != s)∧9*(load s).1.entries.length≤s.length):=by
 have hc:=Frm.lM s.length s ab
 unfold load
 split
 ·simp
 ·rename_i h l hs
  rw[hs]at hc
  split
  ·rename_i g
   simp only[opens,Bool.and_eq_true,beq_iff_eq,decide_eq_true_eq]at g
   have:=oZ l (((Num.take (h.drop 1)).1:Nat)-1:Int) 0
   simp only[List.length_cons]at hc
   refine⟨by simp,by simp,fun _=>⟨?_,?_,qI _ _ _,rfl,?_⟩⟩
   ·simp only[kt];omega
   ·simp only[kt];omega
   ·simp only[kt];omega
  ·simp
def nameOf (n:Int):List UInt8:=if 1≤n∧n≤1073741824 then [115,101,103,45]++Lib.decDigits n.toNat else []
theorem lz (d:Nat) (h:d<10):(UInt8.ofNat (48+d)).toNat=48+d:=by
 rw[UInt8.toNat_ofNat'];omega
theorem vC:∀(n:Nat) (r:List UInt8),n≤1073741824→Lib.parseUint10 0 (Lib.decDigits n++r)=Lib.parseUint10 n r:=by
 intro n
 induction n using Nat.strongRecOn with
 |ind n ih =>
  intro r h
  rw[Lib.decDigits]
  by_cases h1:n<10
  ·rw[dif_pos h1]
   have e:=lz n h1
   simp only[List.singleton_append,Lib.parseUint10]
   rw[e,if_pos (by omega),if_neg (by omega),if_neg (by omega)]
   congr 1;omega
  ·rw[dif_neg h1,List.append_assoc,ih (n / 10) (by omega) _ (by omega)]
   have e:=lz (n % 10) (by omega)
   simp only[List.singleton_append,Lib.parseUint10]
   rw[e,if_pos (by omega),if_neg (by omega),if_neg (by omega)]
   congr 1;omega
theorem sM:∀n:Nat,∃c r,Lib.decDigits n=c::r∧48≤c.toNat∧c.toNat≤57:=by
 intro n
 induction n using Nat.strongRecOn with
 |ind n ih =>
  rw[Lib.decDigits]
  by_cases h1:n<10
  ·rw[dif_pos h1]
   have e:=lz n h1
   exact⟨_,_,rfl,by omega,by omega⟩
  ·rw[dif_neg h1]
   obtain⟨c,r,e,h2,h3⟩:=ih (n / 10) (by omega)
   exact⟨c,r++[_],by rw[e];rfl,h2,h3⟩
theorem BP:∀(k n:Nat),n<10 ^ (k+1)→(Lib.decDigits n).length≤k+1:=by
 intro k
 induction k with
 |zero=>intro n h;rw[Lib.decDigits,dif_pos (by simpa using h)];simp
 |succ k ih =>
  intro n h
  rw[Lib.decDigits]
  by_cases h1:n<10
  ·rw[dif_pos h1];simp
  ·rw[dif_neg h1,List.length_append]
   have:=ih (n / 10) (Nat.div_lt_of_lt_mul (by rw[Nat.pow_succ]at h;omega))
   simp;omega
theorem yz (n:Nat) (h:n≤1073741824):Lib.parseMag (Lib.decDigits n)=.ok n:=by
 obtain⟨c,r,e,h2,h3⟩:=sM n
 have:=vC n [] h
 rw[List.append_nil]at this
 rw[Lib.parseMag,if_neg (by rw[e];simp),this];rfl
theorem GR (n:Nat) (h:n≤1073741824):Lib.atoiAll (Lib.decDigits n)=.ok (n:Int):=by
 obtain⟨c,r,e,h2,h3⟩:=sM n
 have hm:=yz n h
 rw[e]at hm ⊢
 unfold Lib.atoiAll
 simp only
 rw[if_neg (by omega),hm]
 simp only
 rw[if_neg (by omega),if_neg (by omega),if_neg (by omega)]
theorem gy (n:Int):(nameOf n).length≤14:=by
 unfold nameOf
 split
 ·have:=BP 9 n.toNat (by omega)
  simp only[List.length_append,List.length_cons,List.length_nil];omega
 ·simp
theorem yN (n:Int) (h1:1≤n) (h2:n≤1073741824):5≤(nameOf n).length:=by
 obtain⟨c,r,e,h2,h3⟩:=sM n.toNat
 unfold nameOf
 rw[if_pos ⟨h1,by omega⟩,e];simp only[List.length_append,List.length_cons,List.length_nil];omega
theorem Bv (n:Int) (h1:1≤n) (h2:n≤1073741824):nameOf n≠[]:=fun h=>by
 have:=yN n h1 h2;rw[h]at this;simp at this
def numberOf (s:List UInt8):Int :=
 match Lib.parseUint10 0 (s.drop 4)with
 |.ok u=>if nameOf u=s∧s≠[] then u else 0
 |_=>0
def J5 (s:List UInt8) (n:Int):Prop:=(1≤n∧n≤1073741824∧nameOf n=s)∨(n=0∧∀m:Int,1≤m→m≤1073741824→nameOf m≠s)
theorem jt (n:Int) (h1:1≤n) (h2:n≤1073741824):numberOf (nameOf n)=n:=by
 have e:(nameOf n).drop 4=Lib.decDigits n.toNat:=by unfold nameOf;rw[if_pos ⟨h1,h2⟩];rfl
 have hp:=vC n.toNat [] (by omega)
 rw[List.append_nil]at hp
 have en:((n.toNat:Nat):Int)=n:=by omega
 rw[numberOf,e,hp]
 simp only[Lib.parseUint10]
 rw[en,if_pos ⟨rfl,Bv n h1 h2⟩]
theorem sK {s:List UInt8} {n:Int} (h:J5 s n):n=numberOf s:=by
 rcases h with⟨h1,h2,rfl⟩|⟨rfl,h⟩
 ·exact(jt n h1 h2).symm
 ·unfold numberOf
  split
  ·rename_i u hu
   split
   ·rename_i g
    by_cases h1:1≤(u:Int)∧(u:Int)≤1073741824
    ·exact absurd g.1 (h u h1.1 h1.2)
    ·exfalso
     have:=g.1
     unfold nameOf at this
     rw[if_neg h1]at this
     exact g.2 this.symm
   ·rfl
  ·rfl
theorem sE {n m:Int} (h1:1≤n) (h2:n≤1073741824) (h3:1≤m) (h4:m≤1073741824) (h:nameOf n=nameOf m):n=m:=by
 rw[←jt n h1 h2,h,jt m h3 h4]
theorem DT (m:Int) (h1:1≤m) (h2:m≤1073741824):(nameOf m).drop 4=Lib.decDigits m.toNat∧(nameOf m).take 4=[115,101,103,45]:=by
 unfold nameOf;rw[if_pos ⟨h1,h2⟩];exact⟨rfl,rfl⟩
end af
namespace Dk
structure ah where
 name:List UInt8
 bytes:ByteArray
 synced:Nat
def look:List ah→List UInt8→Option ah
 |[],_=>none
 |x::fs,k=>if x.name=k then some x else look fs k
def put (y:ah):List ah→List ah
 |[]=>[y]
 |x::fs=>if x.name=y.name then y::fs else if y.name<x.name then y::x::fs else x::put y fs
def del (k:List UInt8):List ah→List ah
 |[]=>[]
 |x::fs=>if x.name=k then fs else x::del k fs
def total:List ah→Nat
 |[]=>0
 |x::fs=>x.bytes.size+total fs
def Sorted (fs:List ah):Prop:=fs.Pairwise fun a b=>a.name<b.name
theorem gR:∀{fs:List ah} {k:List UInt8} {x:ah},look fs k=some x→x.name=k∧x∈fs
 |[],_,_,h=>by cases h
 |y::fs,k,x,h=>by
  rw[look]at h
  split at h
  ·rename_i e;cases h;exact⟨e,by simp⟩
  ·have:=gR h;exact⟨this.1,by simp[this.2]⟩
theorem vJ:∀{fs:List ah} {k:List UInt8},look fs k=none→∀x∈fs,x.name≠k
 |[],_,_,x,hx=>by cases hx
 |y::fs,k,h,x,hx=>by
  rw[look]at h
  split at h
  ·cases h
  ·rename_i e
   rcases List.mem_cons.1 hx with rfl|hx
   ·exact e
   ·exact vJ h x hx
theorem aZ (y:ah):∀fs:List ah,look (put y fs) y.name=some y
 |[]=>by simp[put,look]
 |x::fs=>by
  rw[put]
  split
  ·simp[look]
  ·split
   ·simp[look]
   ·rename_i h _;rw[look,if_neg h,aZ y fs]
theorem aF (y:ah) {k:List UInt8} (hk:k≠y.name):∀fs:List ah,look (put y fs) k=look fs k
 |[]=>by simp only[put,look];rw[if_neg (Ne.symm hk)]
 |x::fs=>by
  rw[put]
  split
  ·rename_i h;simp only[look];rw[if_neg (Ne.symm hk),h,if_neg (Ne.symm hk)]
  ·split
   ·simp only[look];rw[if_neg (Ne.symm hk)]
   ·simp only[look];rw[aF y hk fs]
theorem rh (y:ah):∀(fs:List ah) (x:ah),x∈put y fs→x=y∨x∈fs
 |[],x,h=>by simp[put]at h;exact .inl h
 |z::fs,x,h=>by
  rw[put]at h
  split at h
  ·rcases List.mem_cons.1 h with h|h
   ·exact .inl h
   ·exact .inr (by simp[h])
  ·split at h
   ·rcases List.mem_cons.1 h with h|h
    ·exact .inl h
    ·exact .inr h
   ·rcases List.mem_cons.1 h with h|h
    ·exact .inr (by simp[h])
    ·rcases rh y fs x h with h|h
     ·exact .inl h
     ·exact .inr (by simp[h])
theorem EI {a b:List UInt8} (h1:a≠b) (h2:¬b<a):a<b :=
 Std.lt_of_le_of_ne (Std.not_lt.1 h2) h1
theorem sorted_put (y:ah):∀fs:List ah,Sorted fs→Sorted (put y fs)
 |[],_=>by simp[put,Sorted]
 |x::fs,h=>by
  have h':=List.pairwise_cons.1 h
  rw[put]
  split
  ·rename_i e
   exact List.pairwise_cons.2 ⟨fun z hz=>by rw[←e];exact h'.1 z hz,h'.2⟩
  ·split
   ·rename_i e
    refine List.pairwise_cons.2 ⟨fun z hz=>?_,h⟩
    rcases List.mem_cons.1 hz with rfl|hz
    ·exact e
    ·exact Std.lt_trans e (h'.1 z hz)
   ·rename_i e1 e2
    refine List.pairwise_cons.2 ⟨fun z hz=>?_,sorted_put y fs h'.2⟩
    rcases rh y fs z hz with rfl|hz
    ·exact EI e1 e2
    ·exact h'.1 z hz
theorem qo {x:ah} {fs:List ah} (h:Sorted (x::fs)):look fs x.name=none:=by
 have h':=(List.pairwise_cons.1 h).1
 cases e:look fs x.name with
 |none=>rfl
 |some z =>
  have:=gR e
  have h2:=h' z this.2
  rw[this.1]at h2
  exact absurd h2 (Std.lt_irrefl)
theorem gq (y:ah):∀fs:List ah,Sorted fs→(put y fs).length=if (look fs y.name).isSome then fs.length else fs.length+1
 |[],_=>by simp[put,look]
 |x::fs,h=>by
  have h':=List.pairwise_cons.1 h
  rw[put]
  split
  ·rename_i e;simp[look,e]
  ·rename_i e1
   split
   ·rename_i e2
    have:look fs y.name=none:=by
     cases e:look fs y.name with
     |none=>rfl
     |some z =>
      have hz:=gR e
      have h3:=Std.lt_trans e2 (h'.1 z hz.2)
      rw[hz.1]at h3
      exact absurd h3 (Std.lt_irrefl)
    simp[look,e1,this]
   ·have:=gq y fs h'.2
    simp only[List.length_cons,this,look,if_neg e1]
    split <;> rfl
theorem jP (y:ah):∀fs:List ah,Sorted fs→total (put y fs)+(match look fs y.name with|none=>0|some x=>x.bytes.size)=total fs+y.bytes.size
 |[],_=>by simp[put,look,total]
 |x::fs,h=>by
  have h':=List.pairwise_cons.1 h
  rw[put]
  split
  ·rename_i e;simp only[look,e,if_true,total];omega
  ·rename_i e1
   split
   ·rename_i e2
    have:look fs y.name=none:=by
     cases e:look fs y.name with
     |none=>rfl
     |some z =>
      have hz:=gR e
      have h3:=Std.lt_trans e2 (h'.1 z hz.2)
      rw[hz.1]at h3
      exact absurd h3 (Std.lt_irrefl)
    simp only[look,if_neg e1,this,total];omega
   ·have:=jP y fs h'.2
    simp only[look,if_neg e1,total];omega
theorem uJ:∀{fs:List ah} {k:List UInt8} {x:ah},look fs k=some x→x.bytes.size≤total fs
 |[],_,_,h=>by cases h
 |y::fs,k,x,h=>by
  rw[look]at h
  split at h
  ·cases h;simp only[total];omega
  ·have:=uJ h;simp only[total];omega
theorem Bw (k:List UInt8):∀(fs:List ah) (x:ah),x∈del k fs→x∈fs
 |[],_,h=>by cases h
 |z::fs,x,h=>by
  rw[del]at h
  split at h
  ·simp[h]
  ·rcases List.mem_cons.1 h with h|h
   ·simp[h]
   ·simp[Bw k fs x h]
theorem sorted_del (k:List UInt8):∀fs:List ah,Sorted fs→Sorted (del k fs)
 |[],_=>by simp[del,Sorted]
 |x::fs,h=>by
  have h':=List.pairwise_cons.1 h
  rw[del]
  split
  ·exact h'.2
  ·exact List.pairwise_cons.2 ⟨fun z hz=>h'.1 z (Bw k fs z hz),sorted_del k fs h'.2⟩
theorem eN (k:List UInt8):∀fs:List ah,Sorted fs→look (del k fs) k=none
 |[],_=>rfl
 |x::fs,h=>by
  have h':=List.pairwise_cons.1 h
  rw[del]
  split
  ·rename_i e;subst e;exact qo h
  ·rename_i e;rw[look,if_neg e,eN k fs h'.2]
theorem cL (k:List UInt8) {j:List UInt8} (hj:j≠k):∀fs:List ah,look (del k fs) j=look fs j
 |[]=>rfl
 |x::fs=>by
  rw[del]
  split
  ·rename_i e;rw[look,if_neg (by rw[e];exact Ne.symm hj)]
  ·simp only[look];rw[cL k hj fs]
theorem rm (k:List UInt8):∀fs:List ah,(del k fs).length+(if (look fs k).isSome then 1 else 0)=fs.length
 |[]=>rfl
 |x::fs=>by
  rw[del]
  split
  ·rename_i e;simp[look,e]
  ·rename_i e;have:=rm k fs;simp only[List.length_cons,look,if_neg e];omega
theorem lA (k:List UInt8):∀fs:List ah,total (del k fs)+(match look fs k with|none=>0|some x=>x.bytes.size)=total fs
 |[]=>rfl
 |x::fs=>by
  rw[del]
  split
  ·rename_i e;simp only[look,e,if_true,total];omega
  ·rename_i e;have:=lA k fs;simp only[look,if_neg e,total];omega
theorem o6 (k:List UInt8):∀fs:List ah,look fs k=none→del k fs=fs
 |[],_=>rfl
 |x::fs,h=>by
  rw[look]at h
  split at h
  ·cases h
  ·rename_i e;rw[del,if_neg e,o6 k fs h]
def more (k:List UInt8) (s:ByteArray):Option ah→ah
 |none=>⟨k,s,0⟩
 |some x=>⟨k,x.bytes++s,x.synced⟩
def append (room:Int) (k:List UInt8) (s:ByteArray) (fs:List ah):List ah×Nat :=
 if Txt.name k=false then (fs,1) else
 if look fs k=none∧40≤fs.length then (fs,4) else
 if room-(total fs:Int)<(s.size:Int) then (fs,8) else
 (put (more k s (look fs k)) fs,0)
def sync (k:List UInt8) (fs:List ah):List ah×Nat :=
 match look fs k with
 |none=>(fs,6)
 |some x=>(put ⟨k,x.bytes,x.bytes.size⟩ fs,0)
def read (k:List UInt8) (fs:List ah):ByteArray×Nat :=
 match look fs k with
 |none=>(⟨#[]⟩,6)
 |some x=>(x.bytes,0)
def synced (k:List UInt8) (fs:List ah):Nat :=
 match look fs k with
 |none=>0
 |some x=>x.synced
def delete (k:List UInt8) (fs:List ah):List ah×Nat :=
 match look fs k with
 |none=>(fs,6)
 |some _=>(del k fs,0)
def rename (a b:List UInt8) (fs:List ah):List ah×Nat :=
 match look fs a with
 |none=>(fs,6)
 |some x=>if Txt.name b=false then (fs,1) else if a=b then (fs,0) else (put ⟨b,x.bytes,x.synced⟩ (del a (del b fs)),0)
end Dk
structure Env (w:World):Prop where
 Ke:Lib.Utf8Tabs 0 1 w
 Kw:∃te pe,w.cell? ⟨2,0,none⟩=some (.iface te pe)
 Ky:∃te pe,w.cell? ⟨3,0,none⟩=some (.iface te pe)
 pow:∃t fr,w.heap[4]?=some (.cells (Lib.pow10Tab.map fun z=>Value.int .u64 z).toArray t fr)
theorem cell_kept {w w':World} {B:Nat} (hb:Below B w w') (hB:w.heap.size≤B) {a:Addr} {v:Value} (h:w.cell? a=some v):w'.cell? a=some v :=
 (hb.cell (Nat.lt_of_lt_of_le (World.block_lt_of_cell? _ _ h) hB)).trans h
theorem ax {w w':World} {B k:Nat} {o:Obj} (hb:Below B w w') (hB:w.heap.size≤B) (h:w.heap[k]?=some o):w'.heap[k]?=some o :=
 (hb.block k (Nat.lt_of_lt_of_le (aA.1 h).1 hB)).trans h
theorem Env.next {w w':World} (h:Env w) (hb:Below w.heap.size w w'):Env w':=by
 have ck:∀{a v},w.cell? a=some v→w'.cell? a=some v:=fun hc=>cell_kept hb ab hc
 obtain⟨⟨t1,t2⟩,⟨a,b,h1⟩,⟨c,d,h2⟩,⟨e,f,h3⟩⟩:=h
 exact⟨⟨fun c hc=>ck (t1 c hc),fun i hi=>⟨ck (t2 i hi).1,ck (t2 i hi).2⟩⟩,⟨a,b,ck h1⟩,⟨c,d,ck h2⟩,⟨e,f,ax hb ab h3⟩⟩
theorem bR {w w':World} (hb:Below w.heap.size w w'):w.grownBy w' none :=
 ⟨hb.os,hb.tape,hb.output,hb.size,fun k hk _=>hb.block k hk⟩
theorem uo {T e B b:Nat} {p:Value} {bs:List Value} {w w':World} (h:Lib.BuilderAtF T e B b p bs w) (hb:Below w.heap.size w w'):Lib.BuilderAtF T e B b p bs w':=by
 obtain⟨hB,v,hbk,hown,hne⟩:=h
 refine⟨hB,v,ax hb ab hbk,hown.kept (bR hb) ?_,hne⟩
 cases hv:v.ownBlock <;> simp
theorem fR.next {B b:Nat} {l:List UInt8} {w w':World} (h:fR B b l w) (hb:Below w.heap.size w w'):fR B b l w':=by
 rcases h with h|h
 ·exact .inl (uo h hb)
 ·exact .inr (uo h hb)
theorem fR.alloc {B b:Nat} {l:List UInt8} {w:World} (h:fR B b l w) (o:Obj):fR B b l (w.alloc o):=Lib.IsBuilderF.alloc h o
theorem Below.up {B:Nat} {a w w':World} (h:Below B a w) (hB:B≤a.heap.size) (hb:Below w.heap.size w w'):Below B a w':=h.trans (hb.mono (Nat.le_trans hB h.size))
theorem Env.iterAt {w:World} (h:Env w) {k:Nat} {s:ByteArray} {pos:Nat} (hk:w.heap[k]?=some (.stringIter s pos)) (pos':Nat):Env (w.iterAt k s pos'):=by
 have ck:∀{a v},w.cell? a=some v→(w.iterAt k s pos').cell? a=some v:=by
  intro a v hc
  have hne:a.block≠k:=by
   intro e
   simp[World.cell?,e,hk]at hc
  rw[World.cell?_of_block (Lib.iterAt_other w k a.block s pos' hne)]
  exact hc
 obtain⟨⟨t1,t2⟩,⟨a,b,h1⟩,⟨c,d,h2⟩,⟨e,f,h3⟩⟩:=h
 refine⟨⟨fun c hc=>ck (t1 c hc),fun i hi=>⟨ck (t2 i hi).1,ck (t2 i hi).2⟩⟩,⟨a,b,ck h1⟩,⟨c,d,ck h2⟩,⟨e,f,?_⟩⟩
 rw[Lib.iterAt_other w k _ s pos' (by intro e0;rw[e0,hk]at h3;cases h3)]
 exact h3
theorem xR {nm:String} {w:World} (hg:prog.globalNamed nm=some 4) (h:∃t fr,w.heap[4]?=some (.cells (Lib.pow10Tab.map fun z=>Value.int .u64 z).toArray t fr)):Lib.TabIs prog w nm .u64 Lib.pow10Tab:=by
 obtain⟨t,fr,h⟩:=h
 unfold Lib.TabIs World.var?
 rw[hg];simp only[Option.bind_some,h]
theorem GD (n:Int) (h0 : -9223372036854775808≤n) (h1:n≤9223372036854775807) (w:World) (hE:Env w) :
 Calls prog 232 #[.int .i64 n] w fun e w'=>e=.returned (.string ⟨(Lib.itoa n).toArray⟩)∧Below w.heap.size w w':=by
 refine(Any.strconv_Itoa Tryz.Gt n h0 h1 w (xR (by kernel_rfl) hE.pow)).mono ?_
 rintro e w' ⟨rfl,k,os,rfl⟩
 exact⟨rfl,Lib.below_grow _ w ab k os⟩
theorem B9 (s:ByteArray) (pos:Nat) :
 Txt.tok (s.data.toList.drop pos)=if (Utf8.decode s pos).1=65533∧(Utf8.decode s pos).2=1 then (-1,1) else (((Utf8.decode s pos).1:Int),(Utf8.decode s pos).2):=by
 rw[←Lib.decodeL_drop,Lib.decodeL_N];rfl
theorem drop_cons (s:ByteArray) (pos:Nat) (h:pos<s.size):∃b t,s.data.toList.drop pos=b::t:=by
 match e:s.data.toList.drop pos with
 |b::t=>exact⟨b,t,rfl⟩
 |[] =>
  have:=congrArg List.length e
  simp only[List.length_drop,List.length_nil,Array.length_toList]at this
  have e2:s.size=s.data.size:=rfl
  omega
theorem Gj (s:ByteArray) (pos:Nat) (h:pos<s.size) :
 ∃(r:Int) (n:Nat) (k:Nat),Utf8.decode s pos=(k,n)∧Txt.ij (s.data.toList.drop pos)=(r,(s.data.toList.drop pos).take n)::Txt.ij (s.data.toList.drop (pos+n)) ∧
  1≤n∧pos+n≤s.size∧Txt.Shape (r,(s.data.toList.drop pos).take n) ∧
  ((r = -1∧k=65533∧n=1)∨(0≤r∧r=(k:Int)∧¬(k=65533∧n=1))):=by
 obtain⟨b,t,e⟩:=drop_cons s pos h
 have ht:=B9 s pos
 have hw:=Txt.ll b t
 have hs:=Txt.vu b t
 have hl:(b::t).length=s.size-pos:=by rw[←e,List.length_drop,Array.length_toList];rfl
 have hc:=Txt.mO b t
 rw[←e]at hw hs hc hl
 generalize Utf8.decode s pos=d at ht ⊢
 obtain⟨k,n⟩:=d
 simp only at ht
 by_cases hc2:k=65533∧n=1
 ·rw[if_pos hc2]at ht
  rw[ht]at hw hs hc
  obtain⟨rfl,rfl⟩:=hc2
  refine⟨-1,1,65533,rfl,?_,ab,by omega,hs,.inl ⟨rfl,rfl,rfl⟩⟩
  rw[hc,List.drop_drop]
 ·rw[if_neg hc2]at ht
  rw[ht]at hw hs hc
  simp only at hw
  refine⟨(k:Int),n,k,rfl,?_,hw.1,by omega,hs,.inr ⟨by omega,rfl,hc2⟩⟩
  rw[hc,List.drop_drop]
theorem A7 (s:ByteArray) (pos:Nat) (h:pos<s.size):Lib.decodeGo (s.extract pos s.size)=Utf8.decode s pos:=by
 have hz:¬(s.extract pos s.size).size=0:=by simp[ByteArray.size_extract];omega
 have e:(s.extract pos s.size).data.toList=s.data.toList.drop pos:=by
  rw[Lib.extract_to_end]
 unfold Lib.decodeGo
 rw[if_neg hz]
 have h0:=Lib.decodeL_drop (s.extract pos s.size) 0
 rw[List.drop_zero,e,Lib.decodeL_drop]at h0
 exact h0.symm
theorem vn (s:ByteArray) (pos k n:Nat) (w:World) (hE:Env w) (_hs:s.size≤1000000000000) (hp:pos<s.size) (hd:Utf8.decode s pos=(k,n)) (b:Bool) (hb:b=(decide (k=65533)&&decide (n=1))) :
 Calls prog 184 #[.string s,.int .i64 pos,.int .i32 k] w fun e w'=>e=.returned (.bool b)∧Below w.heap.size w w':=by
 have HD:=ad (A7 s pos hp);have HK:=ad hd;have HB:=ad hb
 clear hd hb
 by_cases hk:k=65533
 ·subst hk
  go_enter func184,ntmps184
  go_wp2_with fail
  refine(Tryz.utf8_DecodeRuneInString _ _ hE.Ke).mono ?_
  rintro e w1 ⟨rfl,hb1⟩
  rw[HD.out,HK.out]
  go_wp2
  go_ret
  refine⟨?_,hb1⟩
  rw[HB.out];simp
  cases Classical.em (n=1)with
  |inl h=>subst h;rfl
  |inr h=>simp[h];omega
 ·have hk1:((k:Int) != 65533)=true:=by rw[bne_iff_ne];omega
  go_enter func184,ntmps184
  go_wp2
  go_ret
  refine⟨?_,ae _ _⟩
  rw[HB.out];simp[hk]
theorem bM {w w':World} {B e sz n:Nat} {v:Value} {xs:List Value} (h:w.ownsRow B e sz v n xs) (hb:Below w.heap.size w w'):w'.ownsRow B e sz v n xs :=
 h.kept (bR hb) (by cases v.ownBlock <;> simp)
def Cells (w:World) (v:Value) (sz n:Nat) (xs:List Value):Prop :=
 xs.length=n*sz∧((n=0∧∃a c,v=.slice a 0 c)∨∃b o c,v=.slice (some ⟨b,o,none⟩) n c∧∀j u,xs[j]?=some u→w.cell? ⟨b,o+j,none⟩=some u)
theorem Cells.next {w w':World} {v:Value} {sz n:Nat} {xs:List Value} (h:Cells w v sz n xs) (hb:Below w.heap.size w w'):Cells w' v sz n xs:=by
 refine⟨h.1,?_⟩
 rcases h.2 with h|⟨b,o,c,h1,h2⟩
 ·exact .inl h
 ·exact .inr ⟨b,o,c,h1,fun j u hj=>cell_kept hb ab (h2 j u hj)⟩
theorem ai {w:World} {B e sz n:Nat} {v:Value} {xs:List Value} (h:w.ownsRow B e sz v n xs):Cells w v sz n xs:=by
 refine⟨h.1,?_⟩
 rcases h.2 with⟨h1,h2⟩|⟨g,cap,cur,rfl,hb,hg,hc,hm,hs,ht⟩
 ·exact .inl ⟨h2,_,_,h1⟩
 ·refine .inr ⟨g,0,cap,rfl,fun j u hj=>?_⟩
  have:=h.cells (g:=g) rfl j u hj
  rw[show((⟨g,0,none⟩:Addr).add j)=⟨g,0+j,none⟩by unfold Addr.add;split <;> simp_all]at this
  exact this
theorem foldl_push (l:List UInt8):∀s:ByteArray,(l.map fun b=>((b.toNat:Nat):Int)).foldl (fun r n=>r.push (UInt8.ofNat n.toNat)) s=⟨(s.data.toList++l).toArray⟩:=by
 induction l with
 |nil=>intro s;simp
 |cons b l ih =>
  intro s
  simp only[List.map_cons,List.foldl_cons,ih]
  simp[ByteArray.push]
theorem mh {w:World} {B:Nat} {v:Value} {acc:List UInt8} (hown:w.ownsRow B 5 1 v acc.length (Lib.byteCells acc)) :
 (convert 167 9 v).run prog w=.ok (.string ⟨acc.toArray⟩) w:=by
 rcases hown.2 with⟨rfl,h0⟩|⟨g,cap,cur,rfl,hb,hg,hc,hm,hs,ht⟩
 ·have:acc=[]:=aR h0
  subst this
  rw[run_convert_bytes_string w _ _ 5 _ _ _ underlying167 underlying5 underlying9]
  rfl
 ·rw[run_convert_bytes_string w _ _ 5 _ _ _ underlying167 underlying5 underlying9]
  have h:=run_loadCells_list (P:=prog) w (⟨g,0,none⟩:Addr) (Lib.byteCells acc) (fun j u hj=>hown.cells (g:=g) rfl j u hj)
  rw[Lib.byteCells_length]at h
  have e:Lib.byteCells acc=(acc.map fun b=>((b.toNat:Nat):Int)).map (Value.int .u8):=by simp[Lib.byteCells]
  rw[e]at h
  rw[run_bytesToString w _ _ _ _ h,foldl_push]
  rfl
def aD (l:List Int):List Value:=l.map (Value.int .i64)
def strCells (l:List (List UInt8)):List Value:=l.map fun x=>Value.string ⟨x.toArray⟩
end Go.Proofs.YtmgmknmaepjnoaaGreatDoor
namespace Go.Proofs
open Go.Shelf
def Tryz.AL:Go.Shelf.Ren:=⟨fun|260=>254|n=>n,fun|9=>9|21=>21|3=>3|4=>4|5=>5|119=>402|0=>0|46=>235|139=>405|138=>404|n=>n,fun|3=>0|4=>1|n=>n⟩
theorem Tryz.Il:Go.Proofs.Lays.n260 Tryz.prog Tryz.AL:={
 mixed:=by kernel_rfl
 f260:=Tryz.func254.trans (congrArg some (by kernel_rfl))
 t0:=Tryz.underlying0
 a0:=Tryz.isAgg0
 z0:=Tryz.sizeOf0
 v0:=Tryz.zeroValue0
 t3:=Tryz.underlying3
 a3:=Tryz.isAgg3
 z3:=Tryz.sizeOf3
 v3:=Tryz.zeroValue3
 t4:=Tryz.underlying4
 a4:=Tryz.isAgg4
 z4:=Tryz.sizeOf4
 v4:=Tryz.zeroValue4
 t5:=Tryz.underlying5
 a5:=Tryz.isAgg5
 z5:=Tryz.sizeOf5
 v5:=Tryz.zeroValue5
 t9:=Tryz.underlying9
 a9:=Tryz.isAgg9
 z9:=Tryz.sizeOf9
 v9:=Tryz.zeroValue9
 t21:=Tryz.underlying21
 a21:=Tryz.isAgg21
 z21:=Tryz.sizeOf21
 v21:=Tryz.zeroValue21
 t46:=Tryz.underlying235
 a46:=Tryz.isAgg235
 z46:=Tryz.sizeOf235
 v46:=Tryz.zeroValue235
 t119:=Tryz.underlying402
 a119:=Tryz.isAgg402
 z119:=Tryz.sizeOf402
 t138:=Tryz.underlying404
 a138:=Tryz.isAgg404
 z138:=Tryz.sizeOf404
 v138:=Tryz.zeroValue404
 t139:=Tryz.underlying405
 a139:=Tryz.isAgg405
 z139:=Tryz.sizeOf405
 v139:=Tryz.zeroValue405
 g3:=by kernel_rfl
 g4:=by kernel_rfl}
end Go.Proofs
namespace Go.Proofs
open Go.Shelf
def Tryz.rJ:Go.Shelf.Ren:=⟨fun|7=>197|10=>228|n=>n,fun|23=>127|26=>9|3=>249|28=>318|0=>0|27=>317|33=>151|4=>4|n=>n,fun|n=>n⟩
theorem Tryz.Bz:Go.Proofs.SlLaysZ.n7 Tryz.prog Tryz.rJ:={
 mixed:=by kernel_rfl
 f7:=⟨Tryz.f197.name,by decide,Tryz.func197.trans (congrArg some (by kernel_rfl))⟩
 f10:=⟨Tryz.f228.name,by decide,Tryz.func228.trans (congrArg some (by kernel_rfl))⟩
 t0:=Tryz.underlying0
 a0:=Tryz.isAgg0
 z0:=Tryz.sizeOf0
 v0:=Tryz.zeroValue0
 t4:=Tryz.underlying4
 a4:=Tryz.isAgg4
 z4:=Tryz.sizeOf4
 v4:=Tryz.zeroValue4
 t23:=Tryz.underlying127
 a23:=Tryz.isAgg127
 z23:=Tryz.sizeOf127
 v23:=Tryz.zeroValue127
 t26:=Tryz.underlying9
 a26:=Tryz.isAgg9
 z26:=Tryz.sizeOf9
 v26:=Tryz.zeroValue9
 t27:=Tryz.underlying317
 a27:=Tryz.isAgg317
 z27:=Tryz.sizeOf317
 v27:=Tryz.zeroValue317
 t28:=Tryz.underlying318
 a28:=Tryz.isAgg318
 z28:=Tryz.sizeOf318
 v28:=Tryz.zeroValue318
 t33:=Tryz.underlying151
 a33:=Tryz.isAgg151
 z33:=Tryz.sizeOf151
 v33:=Tryz.zeroValue151}
def Tryz.pr:Go.Shelf.Ren:=⟨fun|6=>196|8=>226|9=>227|11=>260|13=>217|12=>261|23=>252|24=>253|14=>279|15=>280|16=>281|17=>282|18=>283|19=>284|20=>285|21=>286|22=>287|25=>298|26=>272|27=>273|28=>299|29=>300|30=>301|31=>309|n=>n,fun|26=>9|28=>318|24=>260|0=>0|3=>3|37=>235|48=>246|50=>380|4=>4|40=>373|39=>372|45=>293|5=>5|9=>9|51=>397|55=>336|57=>423|58=>339|33=>151|n=>n,fun|n=>n⟩
theorem Tryz.Ed:Go.Proofs.SlLaysZ.n6 Tryz.prog Tryz.pr:={
 mixed:=by kernel_rfl
 f6:=⟨Tryz.f196.name,by decide,Tryz.func196.trans (congrArg some (by kernel_rfl))⟩
 f8:=⟨Tryz.f226.name,by decide,Tryz.func226.trans (congrArg some (by kernel_rfl))⟩
 f11:=⟨Tryz.f260.name,by decide,Tryz.func260.trans (congrArg some (by kernel_rfl))⟩
 t0:=Tryz.underlying0
 a0:=Tryz.isAgg0
 z0:=Tryz.sizeOf0
 v0:=Tryz.zeroValue0
 t24:=Tryz.underlying260
 a24:=Tryz.isAgg260
 z24:=Tryz.sizeOf260
 v24:=Tryz.zeroValue260
 t26:=Tryz.underlying9
 a26:=Tryz.isAgg9
 z26:=Tryz.sizeOf9
 v26:=Tryz.zeroValue9
 t28:=Tryz.underlying318
 a28:=Tryz.isAgg318
 z28:=Tryz.sizeOf318
 v28:=Tryz.zeroValue318
 i26:=by kernel_rfl}
def Tryz.zY:Go.Shelf.Ren:=⟨fun|6=>227|8=>217|9=>261|19=>252|20=>253|21=>279|22=>280|23=>281|24=>282|25=>283|26=>284|27=>285|28=>286|29=>287|36=>298|31=>272|32=>273|37=>299|38=>300|39=>301|41=>309|n=>n,fun|27=>260|29=>9|3=>3|32=>235|26=>260|0=>0|44=>246|46=>380|4=>4|36=>373|35=>372|41=>293|5=>5|9=>9|53=>397|57=>336|63=>423|64=>339|n=>n,fun|n=>n⟩
theorem Tryz.Bo:Go.Proofs.SlLaysM.n6 Tryz.prog Tryz.zY:={
 mixed:=by kernel_rfl
 f6:=⟨Tryz.f227.name,by decide,Tryz.func227.trans (congrArg some (by kernel_rfl))⟩
 f8:=Tryz.func217.trans (congrArg some (by kernel_rfl))
 f9:=⟨Tryz.f261.name,by decide,Tryz.func261.trans (congrArg some (by kernel_rfl))⟩
 f19:=Tryz.func252.trans (congrArg some (by kernel_rfl))
 f20:=Tryz.func253.trans (congrArg some (by kernel_rfl))
 f21:=⟨Tryz.f279.name,by decide,Tryz.func279.trans (congrArg some (by kernel_rfl))⟩
 f22:=⟨Tryz.f280.name,by decide,Tryz.func280.trans (congrArg some (by kernel_rfl))⟩
 f23:=⟨Tryz.f281.name,by decide,Tryz.func281.trans (congrArg some (by kernel_rfl))⟩
 f24:=⟨Tryz.f282.name,by decide,Tryz.func282.trans (congrArg some (by kernel_rfl))⟩
 f25:=⟨Tryz.f283.name,by decide,Tryz.func283.trans (congrArg some (by kernel_rfl))⟩
 f26:=⟨Tryz.f284.name,by decide,Tryz.func284.trans (congrArg some (by kernel_rfl))⟩
 f27:=⟨Tryz.f285.name,by decide,Tryz.func285.trans (congrArg some (by kernel_rfl))⟩
 f28:=⟨Tryz.f286.name,by decide,Tryz.func286.trans (congrArg some (by kernel_rfl))⟩
 f29:=⟨Tryz.f287.name,by decide,Tryz.func287.trans (congrArg some (by kernel_rfl))⟩
 f31:=Tryz.func272.trans (congrArg some (by kernel_rfl))
 f32:=Tryz.func273.trans (congrArg some (by kernel_rfl))
 f36:=⟨Tryz.f298.name,by decide,Tryz.func298.trans (congrArg some (by kernel_rfl))⟩
 f37:=⟨Tryz.f299.name,by decide,Tryz.func299.trans (congrArg some (by kernel_rfl))⟩
 f38:=⟨Tryz.f300.name,by decide,Tryz.func300.trans (congrArg some (by kernel_rfl))⟩
 f39:=⟨Tryz.f301.name,by decide,Tryz.func301.trans (congrArg some (by kernel_rfl))⟩
 f41:=⟨Tryz.f309.name,by decide,Tryz.func309.trans (congrArg some (by kernel_rfl))⟩
 t0:=Tryz.underlying0
 a0:=Tryz.isAgg0
 z0:=Tryz.sizeOf0
 v0:=Tryz.zeroValue0
 t3:=Tryz.underlying3
 a3:=Tryz.isAgg3
 z3:=Tryz.sizeOf3
 v3:=Tryz.zeroValue3
 t4:=Tryz.underlying4
 a4:=Tryz.isAgg4
 z4:=Tryz.sizeOf4
 v4:=Tryz.zeroValue4
 t5:=Tryz.underlying5
 a5:=Tryz.isAgg5
 z5:=Tryz.sizeOf5
 v5:=Tryz.zeroValue5
 t9:=Tryz.underlying9
 a9:=Tryz.isAgg9
 z9:=Tryz.sizeOf9
 v9:=Tryz.zeroValue9
 t26:=Tryz.underlying260
 a26:=Tryz.isAgg260
 z26:=Tryz.sizeOf260
 v26:=Tryz.zeroValue260
 t27:=Tryz.underlying260
 a27:=Tryz.isAgg260
 z27:=Tryz.sizeOf260
 v27:=Tryz.zeroValue260
 t29:=Tryz.underlying9
 a29:=Tryz.isAgg9
 z29:=Tryz.sizeOf9
 v29:=Tryz.zeroValue9
 t32:=Tryz.underlying235
 a32:=Tryz.isAgg235
 z32:=Tryz.sizeOf235
 v32:=Tryz.zeroValue235
 t35:=Tryz.underlying372
 a35:=Tryz.isAgg372
 z35:=Tryz.sizeOf372
 v35:=Tryz.zeroValue372
 t36:=Tryz.underlying373
 a36:=Tryz.isAgg373
 z36:=Tryz.sizeOf373
 v36:=Tryz.zeroValue373
 t41:=Tryz.underlying293
 a41:=Tryz.isAgg293
 z41:=Tryz.sizeOf293
 v41:=Tryz.zeroValue293
 t44:=Tryz.underlying246
 a44:=Tryz.isAgg246
 z44:=Tryz.sizeOf246
 v44:=Tryz.zeroValue246
 t46:=Tryz.underlying380
 a46:=Tryz.isAgg380
 z46:=Tryz.sizeOf380
 v46:=Tryz.zeroValue380
 t53:=Tryz.underlying397
 a53:=Tryz.isAgg397
 z53:=Tryz.sizeOf397
 v53:=Tryz.zeroValue397
 t57:=Tryz.underlying336
 a57:=Tryz.isAgg336
 z57:=Tryz.sizeOf336
 v57:=Tryz.zeroValue336
 t63:=Tryz.underlying423
 a63:=Tryz.isAgg423
 z63:=Tryz.sizeOf423
 v63:=Tryz.zeroValue423
 t64:=Tryz.underlying339
 a64:=Tryz.isAgg339
 z64:=Tryz.sizeOf339
 v64:=Tryz.zeroValue339}
open Go.RowKit Go.Maps Go.Sort
theorem Tryz.FM (m:Nat):AnyZ.SortsIn Tryz.prog Tryz.pr Fence.wide m :=
 ⟨fun blk off cap ss W hH hblk hsz=>callsIn_wide.2 (AnyM.slices_Sort_string Tryz.Bo blk off cap ss W hH hblk hsz),
  fun p cap W=>callsIn_wide.2 (AnyM.slices_Sort_string_none Tryz.Bo p cap W)⟩
theorem Tryz.xg (mb:Option Nat) (W:World):CallsIn Fence.wide 5 Tryz.prog 197 #[.map mb] W fun e w'=>e=.returned (.func (.func 228) #[] #[.pointer (some ⟨W.heap.size,0,none⟩)])∧w'=W.alloc (.cells #[.map mb] 127) :=
 AnyZ.keys_in Tryz.Bz Fence.wide 5 trivial rfl mb W
set_option maxHeartbeats 1000000 in
theorem Tryz.lC {H:Type} (b nn:Nat) (D0:DataW H) (R:Value→Option (DataW H×List MemPlace)) (w:World) (hown:w.ownsMap Tryz.prog 9 R b nn D0) (hmax:Maps.size D0≤maxLen) (hbytes:Maps.size D0*16≤140737488355328) :
 CallsIn Fence.wide 5 Tryz.prog 196 #[.func (.func 228) #[] #[.pointer (some ⟨w.heap.size,0,none⟩)]] (w.alloc (.cells #[.map (some b)] 127)) fun e w'=>∃(v:Value) (ss:List (List UInt8)),e=.returned v∧ss.Perm (strKeys D0) ∧
  w'.ownsRow (w.alloc (.cells #[.map (some b)] 127)).heap.size 9 1 v ss.length ((ss.mergeSort (fun x y=>decide (x≤y))).map encStr)∧(v=.slice none 0 0↔ss=[])∧Below (w.alloc (.cells #[.map (some b)] 127)).heap.size (w.alloc (.cells #[.map (some b)] 127)) w':=by
 have hbl:=hown.lt
 have hseq:SeqGives Fence.wide 2 Tryz.prog 228 #[.pointer (some ⟨w.heap.size,0,none⟩)] encStr (fun ss=>ss.Perm (strKeys D0)) (Maps.size D0) (w.alloc (.cells #[.map (some b)] 127)) :=
  AnyZ.keys_gives (ρ:=Tryz.rJ) {Tryz.Bz with} Fence.wide _ trivial rfl (by omega) w.heap.size b nn D0 _ (by simp) (by simp) (by
   obtain⟨es,clock,hb,Ft,hs,hD⟩:=hown
   exact⟨es,clock,(Below.heap_alloc _ _ b hbl).trans hb,Ft,hs,hD⟩)
 exact AnyZ.sorted_in Tryz.Ed Fence.wide 5 trivial trivial trivial trivial rfl (by omega) (Tryz.FM _) (enters_of Tryz.func227 (by kernel_rfl) rfl) 228 #[.pointer (some ⟨w.heap.size,0,none⟩)] trivial (enters_of Tryz.func228 (by kernel_rfl) rfl) _ _ hmax hbytes _ hseq
end Go.Proofs
namespace Go.Proofs
open Go.Shelf
def Tryz.qA:Go.Shelf.Ren:=⟨fun|7=>214|10=>242|n=>n,fun|23=>275|26=>3|3=>278|28=>346|0=>0|27=>345|33=>150|4=>4|n=>n,fun|n=>n⟩
theorem Tryz.yZ:Go.Proofs.SlLaysZI.n7 Tryz.prog Tryz.qA:={
 mixed:=by kernel_rfl
 f7:=⟨Tryz.f214.name,by decide,Tryz.func214.trans (congrArg some (by kernel_rfl))⟩
 f10:=⟨Tryz.f242.name,by decide,Tryz.func242.trans (congrArg some (by kernel_rfl))⟩
 t0:=Tryz.underlying0
 a0:=Tryz.isAgg0
 z0:=Tryz.sizeOf0
 v0:=Tryz.zeroValue0
 t4:=Tryz.underlying4
 a4:=Tryz.isAgg4
 z4:=Tryz.sizeOf4
 v4:=Tryz.zeroValue4
 t23:=Tryz.underlying275
 a23:=Tryz.isAgg275
 z23:=Tryz.sizeOf275
 v23:=Tryz.zeroValue275
 t26:=Tryz.underlying3
 a26:=Tryz.isAgg3
 z26:=Tryz.sizeOf3
 v26:=Tryz.zeroValue3
 t27:=Tryz.underlying345
 a27:=Tryz.isAgg345
 z27:=Tryz.sizeOf345
 v27:=Tryz.zeroValue345
 t28:=Tryz.underlying346
 a28:=Tryz.isAgg346
 z28:=Tryz.sizeOf346
 v28:=Tryz.zeroValue346
 t33:=Tryz.underlying150
 a33:=Tryz.isAgg150
 z33:=Tryz.sizeOf150
 v33:=Tryz.zeroValue150}
def Tryz.nP:Go.Shelf.Ren:=⟨fun|6=>213|8=>241|9=>172|11=>270|13=>217|12=>216|23=>252|24=>253|14=>243|15=>244|16=>245|17=>246|18=>247|19=>248|20=>249|21=>250|22=>251|25=>271|26=>272|27=>273|28=>274|29=>275|30=>276|31=>294|n=>n,fun|26=>3|28=>346|24=>32|0=>0|3=>3|37=>235|48=>246|50=>380|4=>4|40=>373|39=>372|45=>293|5=>5|9=>9|51=>397|55=>336|57=>423|58=>339|33=>150|n=>n,fun|n=>n⟩
theorem Tryz.Cf:Go.Proofs.SlLaysZI.n6 Tryz.prog Tryz.nP:={
 mixed:=by kernel_rfl
 f6:=⟨Tryz.f213.name,by decide,Tryz.func213.trans (congrArg some (by kernel_rfl))⟩
 f8:=⟨Tryz.f241.name,by decide,Tryz.func241.trans (congrArg some (by kernel_rfl))⟩
 f11:=⟨Tryz.f270.name,by decide,Tryz.func270.trans (congrArg some (by kernel_rfl))⟩
 t0:=Tryz.underlying0
 a0:=Tryz.isAgg0
 z0:=Tryz.sizeOf0
 v0:=Tryz.zeroValue0
 t24:=Tryz.underlying32
 a24:=Tryz.isAgg32
 z24:=Tryz.sizeOf32
 v24:=Tryz.zeroValue32
 t26:=Tryz.underlying3
 a26:=Tryz.isAgg3
 z26:=Tryz.sizeOf3
 v26:=Tryz.zeroValue3
 t28:=Tryz.underlying346
 a28:=Tryz.isAgg346
 z28:=Tryz.sizeOf346
 v28:=Tryz.zeroValue346
 i26:=by kernel_rfl}
def Tryz.xU:Go.Shelf.Ren:=⟨fun|5=>172|8=>217|7=>216|19=>252|20=>253|10=>243|11=>244|12=>245|13=>246|14=>247|15=>248|16=>249|17=>250|18=>251|30=>271|31=>272|32=>273|33=>274|34=>275|35=>276|40=>294|n=>n,fun|23=>32|25=>3|3=>3|32=>235|22=>32|0=>0|44=>246|46=>380|4=>4|36=>373|35=>372|41=>293|5=>5|9=>9|53=>397|57=>336|63=>423|64=>339|n=>n,fun|n=>n⟩
theorem Tryz.xV:Go.Proofs.SlLaysM.n5 Tryz.prog Tryz.xU:={
 mixed:=by kernel_rfl
 f5:=⟨Tryz.f172.name,by decide,Tryz.func172.trans (congrArg some (by kernel_rfl))⟩
 f7:=⟨Tryz.f216.name,by decide,Tryz.func216.trans (congrArg some (by kernel_rfl))⟩
 f8:=Tryz.func217.trans (congrArg some (by kernel_rfl))
 f10:=⟨Tryz.f243.name,by decide,Tryz.func243.trans (congrArg some (by kernel_rfl))⟩
 f11:=⟨Tryz.f244.name,by decide,Tryz.func244.trans (congrArg some (by kernel_rfl))⟩
 f12:=⟨Tryz.f245.name,by decide,Tryz.func245.trans (congrArg some (by kernel_rfl))⟩
 f13:=⟨Tryz.f246.name,by decide,Tryz.func246.trans (congrArg some (by kernel_rfl))⟩
 f14:=⟨Tryz.f247.name,by decide,Tryz.func247.trans (congrArg some (by kernel_rfl))⟩
 f15:=⟨Tryz.f248.name,by decide,Tryz.func248.trans (congrArg some (by kernel_rfl))⟩
 f16:=⟨Tryz.f249.name,by decide,Tryz.func249.trans (congrArg some (by kernel_rfl))⟩
 f17:=⟨Tryz.f250.name,by decide,Tryz.func250.trans (congrArg some (by kernel_rfl))⟩
 f18:=⟨Tryz.f251.name,by decide,Tryz.func251.trans (congrArg some (by kernel_rfl))⟩
 f19:=Tryz.func252.trans (congrArg some (by kernel_rfl))
 f20:=Tryz.func253.trans (congrArg some (by kernel_rfl))
 f30:=⟨Tryz.f271.name,by decide,Tryz.func271.trans (congrArg some (by kernel_rfl))⟩
 f31:=Tryz.func272.trans (congrArg some (by kernel_rfl))
 f32:=Tryz.func273.trans (congrArg some (by kernel_rfl))
 f33:=⟨Tryz.f274.name,by decide,Tryz.func274.trans (congrArg some (by kernel_rfl))⟩
 f34:=⟨Tryz.f275.name,by decide,Tryz.func275.trans (congrArg some (by kernel_rfl))⟩
 f35:=⟨Tryz.f276.name,by decide,Tryz.func276.trans (congrArg some (by kernel_rfl))⟩
 f40:=⟨Tryz.f294.name,by decide,Tryz.func294.trans (congrArg some (by kernel_rfl))⟩
 t0:=Tryz.underlying0
 a0:=Tryz.isAgg0
 z0:=Tryz.sizeOf0
 v0:=Tryz.zeroValue0
 t3:=Tryz.underlying3
 a3:=Tryz.isAgg3
 z3:=Tryz.sizeOf3
 v3:=Tryz.zeroValue3
 t4:=Tryz.underlying4
 a4:=Tryz.isAgg4
 z4:=Tryz.sizeOf4
 v4:=Tryz.zeroValue4
 t5:=Tryz.underlying5
 a5:=Tryz.isAgg5
 z5:=Tryz.sizeOf5
 v5:=Tryz.zeroValue5
 t9:=Tryz.underlying9
 a9:=Tryz.isAgg9
 z9:=Tryz.sizeOf9
 v9:=Tryz.zeroValue9
 t22:=Tryz.underlying32
 a22:=Tryz.isAgg32
 z22:=Tryz.sizeOf32
 v22:=Tryz.zeroValue32
 t23:=Tryz.underlying32
 a23:=Tryz.isAgg32
 z23:=Tryz.sizeOf32
 v23:=Tryz.zeroValue32
 t25:=Tryz.underlying3
 a25:=Tryz.isAgg3
 z25:=Tryz.sizeOf3
 v25:=Tryz.zeroValue3
 t32:=Tryz.underlying235
 a32:=Tryz.isAgg235
 z32:=Tryz.sizeOf235
 v32:=Tryz.zeroValue235
 t35:=Tryz.underlying372
 a35:=Tryz.isAgg372
 z35:=Tryz.sizeOf372
 v35:=Tryz.zeroValue372
 t36:=Tryz.underlying373
 a36:=Tryz.isAgg373
 z36:=Tryz.sizeOf373
 v36:=Tryz.zeroValue373
 t41:=Tryz.underlying293
 a41:=Tryz.isAgg293
 z41:=Tryz.sizeOf293
 v41:=Tryz.zeroValue293
 t44:=Tryz.underlying246
 a44:=Tryz.isAgg246
 z44:=Tryz.sizeOf246
 v44:=Tryz.zeroValue246
 t46:=Tryz.underlying380
 a46:=Tryz.isAgg380
 z46:=Tryz.sizeOf380
 v46:=Tryz.zeroValue380
 t53:=Tryz.underlying397
 a53:=Tryz.isAgg397
 z53:=Tryz.sizeOf397
 v53:=Tryz.zeroValue397
 t57:=Tryz.underlying336
 a57:=Tryz.isAgg336
 z57:=Tryz.sizeOf336
 v57:=Tryz.zeroValue336
 t63:=Tryz.underlying423
 a63:=Tryz.isAgg423
 z63:=Tryz.sizeOf423
 v63:=Tryz.zeroValue423
 t64:=Tryz.underlying339
 a64:=Tryz.isAgg339
 z64:=Tryz.sizeOf339
 v64:=Tryz.zeroValue339}
open Go.RowKit Go.Maps Go.Sort
theorem Tryz.Ec (m:Nat):AnyZI.SortsIn Tryz.prog Tryz.nP Fence.wide m :=
 ⟨fun blk off cap ss W hH hblk hsz=>callsIn_wide.2 (AnyM.slices_Sort_int Tryz.xV blk off cap ss W hH hblk hsz),
  fun p cap W=>callsIn_wide.2 (AnyM.slices_Sort_int_none Tryz.xV p cap W)⟩
theorem Tryz.nU (mb:Option Nat) (W:World):CallsIn Fence.wide 5 Tryz.prog 214 #[.map mb] W fun e w'=>e=.returned (.func (.func 242) #[] #[.pointer (some ⟨W.heap.size,0,none⟩)])∧w'=W.alloc (.cells #[.map mb] 275) :=
 AnyZI.keys_in Tryz.yZ Fence.wide 5 trivial rfl mb W
set_option maxHeartbeats 1000000 in
theorem Tryz.iB {H:Type} (b nn:Nat) (D0:DataW H) (R:Value→Option (DataW H×List MemPlace)) (w:World) (hown:w.ownsMap Tryz.prog 3 R b nn D0) (hmax:Maps.size D0≤maxLen) (hbytes:Maps.size D0*8≤140737488355328) :
 CallsIn Fence.wide 5 Tryz.prog 213 #[.func (.func 242) #[] #[.pointer (some ⟨w.heap.size,0,none⟩)]] (w.alloc (.cells #[.map (some b)] 275)) fun e w'=>∃(v:Value) (ss:List Int),e=.returned v∧ss.Perm (intKeys D0) ∧
  w'.ownsRow (w.alloc (.cells #[.map (some b)] 275)).heap.size 3 1 v ss.length ((ss.mergeSort (fun x y=>decide (x≤y))).map encZ)∧(v=.slice none 0 0↔ss=[])∧Below (w.alloc (.cells #[.map (some b)] 275)).heap.size (w.alloc (.cells #[.map (some b)] 275)) w':=by
 have hbl:=hown.lt
 have hseq:SeqGives Fence.wide 2 Tryz.prog 242 #[.pointer (some ⟨w.heap.size,0,none⟩)] encZ (fun ss=>ss.Perm (intKeys D0)) (Maps.size D0) (w.alloc (.cells #[.map (some b)] 275)) :=
  AnyZI.keys_gives (ρ:=Tryz.qA) {Tryz.yZ with} Fence.wide _ trivial rfl (by omega) w.heap.size b nn D0 _ (by simp) (by simp) (by
   obtain⟨es,clock,hb,Ft,hs,hD⟩:=hown
   exact⟨es,clock,(Below.heap_alloc _ _ b hbl).trans hb,Ft,hs,hD⟩)
 exact AnyZI.sorted_in Tryz.Cf Fence.wide 5 trivial trivial trivial trivial rfl (by omega) (Tryz.Ec _) (enters_of Tryz.func172 (by kernel_rfl) rfl) 242 #[.pointer (some ⟨w.heap.size,0,none⟩)] trivial (enters_of Tryz.func242 (by kernel_rfl) rfl) _ _ hmax hbytes _ hseq
end Go.Proofs
namespace Go.Proofs
open Go.Shelf
def Tryz.Ds:Go.Shelf.Ren:=⟨fun|5=>188|7=>221|n=>n,fun|23=>275|25=>3|3=>278|4=>4|20=>20|n=>n,fun|n=>n⟩
theorem Tryz.Jp:Go.Proofs.SlLaysW.n5 Tryz.prog Tryz.Ds:={
 mixed:=by kernel_rfl
 f5:=⟨Tryz.f188.name,by decide,Tryz.func188.trans (congrArg some (by kernel_rfl))⟩
 f7:=Tryz.func221.trans (congrArg some (by kernel_rfl))
 t4:=Tryz.underlying4
 a4:=Tryz.isAgg4
 z4:=Tryz.sizeOf4
 v4:=Tryz.zeroValue4
 t20:=Tryz.underlying20
 a20:=Tryz.isAgg20
 z20:=Tryz.sizeOf20
 v20:=Tryz.zeroValue20
 t23:=Tryz.underlying275
 a23:=Tryz.isAgg275
 z23:=Tryz.sizeOf275
 v23:=Tryz.zeroValue275}
end Go.Proofs
