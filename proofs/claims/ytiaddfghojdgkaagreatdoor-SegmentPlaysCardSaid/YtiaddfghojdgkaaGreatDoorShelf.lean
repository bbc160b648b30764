/-
  The contracts of library functions at this dump, in plain words, as the shelf commands lay them: those that the walks use.
-/
import Derived.Shelf.Strings.Builder1
import Derived.Shelf.Small.Bits
import Derived.Shelf.Small.Wraps
import Derived.Shelf.Strings.BuilderF
import Derived.Shelf.Strings.BuilderK
import Derived.Shelf.Strconv.Atoi
import Derived.Shelf.Strconv.Itoa0
import Derived.Shelf.Strconv.Itoa1
import Derived.Shelf.LaysM
import Derived.Shelf.Strconv.Itoa2
import Derived.Shelf.Strconv.Itoa3
import Derived.Shelf.Strconv.AtoiErrFast
import Derived.Shelf.Strconv.ParseIntEmpty
import Derived.Shelf.Strconv.AtoiFail
import Derived.Shelf.Strconv.Clone
import Derived.Shelf.Strconv.SyntaxError
import Derived.Shelf.LaysC
import Derived.Shelf.Strconv.ToError
import Derived.Shelf.Strconv.AtoiErr
import Derived.Shelf.Strconv.Lower
import Derived.Shelf.Strconv.ParseUint10
import Derived.Shelf.Strconv.ParseUint10Empty
import Derived.Shelf.Strconv.ParseUint10Any
import Derived.Shelf.Strconv.ParseInt10
import Derived.Shelf.Strconv.AtoiLong
import Derived.Shelf.Strconv.AtoiInnerAll
import Derived.Shelf.Strconv.RangeError
import Derived.Shelf.Strconv.ToErrorRange
import Derived.Shelf.Strconv.AtoiAll
import Derived.Shelf.Strconv.ErrVarAll
import Derived.Shelf.Strconv.ParseUintEmpty
import Derived.Shelf.Strconv.ParseUint10b64
import Derived.Shelf.Strconv.ParseUint10b32
import Derived.Shelf.Strconv.ParseUint10b16
import Derived.Shelf.Strconv.ParseUint10b8
import Derived.Shelf.Strconv.ParseUint10At
import Derived.Shelf.Strconv.ParseInt10At64
import Derived.Shelf.Strconv.ParseInt10At32
import Derived.Shelf.Strconv.ParseInt10At16
import Derived.Shelf.Strconv.ParseInt10At8
import Derived.Shelf.Strconv.ParseInt10All
import Derived.Shelf.Sort.Plain
import Derived.Shelf.Strings.Prefix
import Derived.Shelf.Unicode.Decode
import Derived.Shelf.Unicode.DecodeSlow
import Derived.Shelf.Unicode.DecodeAny
import Derived.Shelf.Strings.BuilderCap
import Derived.Shelf.Slices.In.SortNone
import Derived.Test.YtiaddfghojdgkaaGreatDoorProg
namespace Go.Proofs
open Go.Shelf
def Tryz.lays169_ren : Go.Shelf.Ren := ⟨fun | 169 => 252 | n => n, fun | 70 => 336 | 9 => 9 | 0 => 0 | 72 => 338 | 37 => 236 | 127 => 400 | 3 => 3 | 5 => 5 | n => n, fun | n => n⟩
theorem Tryz.lays169 : Go.Proofs.Lays.n169 Tryz.prog Tryz.lays169_ren := {
  mixed := by kernel_rfl
  f169 := Tryz.func252.trans (congrArg some (by kernel_rfl))
  t0 := Tryz.underlying0
  a0 := Tryz.isAgg0
  z0 := Tryz.sizeOf0
  v0 := Tryz.zeroValue0
  t3 := Tryz.underlying3
  a3 := Tryz.isAgg3
  z3 := Tryz.sizeOf3
  v3 := Tryz.zeroValue3
  t9 := Tryz.underlying9
  a9 := Tryz.isAgg9
  z9 := Tryz.sizeOf9
  v9 := Tryz.zeroValue9
  t37 := Tryz.underlying236
  a37 := Tryz.isAgg236
  z37 := Tryz.sizeOf236
  v37 := Tryz.zeroValue236
  t70 := Tryz.underlying336
  a70 := Tryz.isAgg336
  z70 := Tryz.sizeOf336
  v70 := Tryz.zeroValue336
  t72 := Tryz.underlying338
  a72 := Tryz.isAgg338
  z72 := Tryz.sizeOf338
  v72 := Tryz.zeroValue338
  t127 := Tryz.underlying400
  a127 := Tryz.isAgg400
  z127 := Tryz.sizeOf400
  v127 := Tryz.zeroValue400 }
theorem Tryz.Builder_Extra_169 : Builder.Extra Tryz.prog Tryz.lays169_ren := {
  sizeBuilder := by kernel_rfl
  liesBuilder := by kernel_rfl
  t5 := Tryz.underlying5
  a5 := Tryz.isAgg5
  z5 := Tryz.sizeOf5
  v5 := Tryz.zeroValue5
  infoByte := by kernel_rfl
  cellsByte := by kernel_rfl
  sizeByte := by kernel_rfl
  neB5 := by decide }
def Tryz.lays103_ren : Go.Shelf.Ren := ⟨fun | 103 => 157 | 210 => 244 | 206 => 155 | n => n, fun | 9 => 9 | 4 => 4 | 24 => 238 | 3 => 3 | n => n, fun | n => n⟩
theorem Tryz.lays103 : Go.Proofs.Lays.n103 Tryz.prog Tryz.lays103_ren := {
  mixed := by kernel_rfl
  f103 := Tryz.func157.trans (congrArg some (by kernel_rfl))
  f206 := Tryz.func155.trans (congrArg some (by kernel_rfl))
  f210 := Tryz.func244.trans (congrArg some (by kernel_rfl))
  t3 := Tryz.underlying3
  a3 := Tryz.isAgg3
  z3 := Tryz.sizeOf3
  v3 := Tryz.zeroValue3
  t4 := Tryz.underlying4
  a4 := Tryz.isAgg4
  z4 := Tryz.sizeOf4
  v4 := Tryz.zeroValue4
  t9 := Tryz.underlying9
  a9 := Tryz.isAgg9
  z9 := Tryz.sizeOf9
  v9 := Tryz.zeroValue9
  t24 := Tryz.underlying238
  a24 := Tryz.isAgg238
  z24 := Tryz.sizeOf238
  v24 := Tryz.zeroValue238 }
open Go.RowKit in
theorem Tryz.strings_CutPrefix (s p : ByteArray) (w : World) :
    Calls Tryz.prog 157 #[.string s, .string p] w fun e w' => e = .returned (.tuple #[.string ⟨(Lib.trimPrefix s.data.toList p.data.toList).toArray⟩, .bool (Lib.hasPrefix s.data.toList p.data.toList)]) ∧ w' = w := Any.strings_CutPrefix Tryz.lays103 s p w
open Go.RowKit in
theorem Tryz.Builder_String_any_k (B b : Nat) (l : List UInt8) (w : World) (h : Lib.IsBuilderF 338 5 B b (Lib.byteCells l) w) (hBw : B ≤ w.heap.size) :
    Calls Tryz.prog 252 #[.pointer (some ⟨b, 0, none⟩)] w fun e w' => e = .returned (.string ⟨l.toArray⟩) ∧ (Lib.IsBuilderF 338 5 B b (Lib.byteCells l) w' ∧ Below B w w' ∧ Lib.OthersKept 5 (some b) w w') := Any.Builder_String_any_k Tryz.lays169 Tryz.Builder_Extra_169 B b l w h hBw
def Tryz.laysM171_ren : Go.Shelf.Ren := ⟨fun | 171 => 142 | 243 => 232 | 246 => 304 | 283 => 343 | 284 => 344 | 285 => 345 | 286 => 346 | 129 => 297 | 317 => 365 | 318 => 366 | 319 => 367 | 320 => 368 | 337 => 375 | 338 => 376 | n => n, fun | 3 => 3 | 9 => 9 | 2 => 2 | 4 => 4 | 171 => 412 | 0 => 0 | 53 => 378 | 37 => 236 | 5 => 5 | 173 => 414 | 212 => 433 | 51 => 284 | 20 => 20 | 213 => 434 | 46 => 304 | 232 => 446 | 233 => 447 | n => n, fun | 17 => 2 | 18 => 5 | 19 => 6 | n => n⟩
theorem Tryz.laysM171 : Go.Proofs.LaysM.n171 Tryz.prog Tryz.laysM171_ren := {
  mixed := by kernel_rfl
  f129 := Tryz.func297.trans (congrArg some (by kernel_rfl))
  f171 := Tryz.func142.trans (congrArg some (by kernel_rfl))
  f243 := Tryz.func232.trans (congrArg some (by kernel_rfl))
  f246 := Tryz.func304.trans (congrArg some (by kernel_rfl))
  f283 := Tryz.func343.trans (congrArg some (by kernel_rfl))
  f284 := Tryz.func344.trans (congrArg some (by kernel_rfl))
  f285 := Tryz.func345.trans (congrArg some (by kernel_rfl))
  f286 := Tryz.func346.trans (congrArg some (by kernel_rfl))
  f317 := Tryz.func365.trans (congrArg some (by kernel_rfl))
  f318 := Tryz.func366.trans (congrArg some (by kernel_rfl))
  f319 := Tryz.func367.trans (congrArg some (by kernel_rfl))
  f320 := Tryz.func368.trans (congrArg some (by kernel_rfl))
  f337 := Tryz.func375.trans (congrArg some (by kernel_rfl))
  f338 := Tryz.func376.trans (congrArg some (by kernel_rfl))
  t0 := Tryz.underlying0
  a0 := Tryz.isAgg0
  z0 := Tryz.sizeOf0
  v0 := Tryz.zeroValue0
  t2 := Tryz.underlying2
  a2 := Tryz.isAgg2
  z2 := Tryz.sizeOf2
  v2 := Tryz.zeroValue2
  t3 := Tryz.underlying3
  a3 := Tryz.isAgg3
  z3 := Tryz.sizeOf3
  v3 := Tryz.zeroValue3
  t4 := Tryz.underlying4
  a4 := Tryz.isAgg4
  z4 := Tryz.sizeOf4
  v4 := Tryz.zeroValue4
  t5 := Tryz.underlying5
  a5 := Tryz.isAgg5
  z5 := Tryz.sizeOf5
  v5 := Tryz.zeroValue5
  t9 := Tryz.underlying9
  a9 := Tryz.isAgg9
  z9 := Tryz.sizeOf9
  v9 := Tryz.zeroValue9
  t20 := Tryz.underlying20
  a20 := Tryz.isAgg20
  z20 := Tryz.sizeOf20
  v20 := Tryz.zeroValue20
  t37 := Tryz.underlying236
  a37 := Tryz.isAgg236
  z37 := Tryz.sizeOf236
  v37 := Tryz.zeroValue236
  t46 := Tryz.underlying304
  a46 := Tryz.isAgg304
  z46 := Tryz.sizeOf304
  v46 := Tryz.zeroValue304
  t51 := Tryz.underlying284
  a51 := Tryz.isAgg284
  z51 := Tryz.sizeOf284
  v51 := Tryz.zeroValue284
  t53 := Tryz.underlying378
  a53 := Tryz.isAgg378
  z53 := Tryz.sizeOf378
  v53 := Tryz.zeroValue378
  t171 := Tryz.underlying412
  a171 := Tryz.isAgg412
  z171 := Tryz.sizeOf412
  v171 := Tryz.zeroValue412
  t173 := Tryz.underlying414
  a173 := Tryz.isAgg414
  z173 := Tryz.sizeOf414
  v173 := Tryz.zeroValue414
  t212 := Tryz.underlying433
  a212 := Tryz.isAgg433
  z212 := Tryz.sizeOf433
  v212 := Tryz.zeroValue433
  t213 := Tryz.underlying434
  a213 := Tryz.isAgg434
  z213 := Tryz.sizeOf434
  t232 := Tryz.underlying446
  a232 := Tryz.isAgg446
  z232 := Tryz.sizeOf446
  v232 := Tryz.zeroValue446
  t233 := Tryz.underlying447
  a233 := Tryz.isAgg447
  z233 := Tryz.sizeOf447
  v233 := Tryz.zeroValue447
  g17 := by kernel_rfl
  g18 := by kernel_rfl
  g19 := by kernel_rfl
  i0 := by kernel_rfl
  i2 := by kernel_rfl
  i3 := by kernel_rfl
  i4 := by kernel_rfl
  i5 := by kernel_rfl
  i9 := by kernel_rfl
  i20 := by kernel_rfl
  i37 := by kernel_rfl
  i46 := by kernel_rfl
  i51 := by kernel_rfl
  i53 := by kernel_rfl
  i171 := by kernel_rfl
  i173 := by kernel_rfl
  i212 := by kernel_rfl
  i232 := by kernel_rfl
  i233 := by kernel_rfl
  m17 := by kernel_rfl
  m18 := by kernel_rfl
  m19 := by kernel_rfl }
def Tryz.laysC172_ren : Go.Shelf.Ren := ⟨fun | 172 => 143 | 244 => 233 | 245 => 234 | 247 => 305 | 279 => 306 | 280 => 307 | 281 => 308 | 282 => 309 | 287 => 347 | 316 => 348 | 171 => 142 | 205 => 349 | 321 => 369 | 322 => 370 | 243 => 232 | 246 => 304 | 283 => 343 | 284 => 344 | 285 => 345 | 286 => 346 | 129 => 297 | 317 => 365 | 318 => 366 | 319 => 367 | 320 => 368 | 337 => 375 | 338 => 376 | n => n, fun | 9 => 9 | 3 => 3 | 75 => 224 | 76 => 225 | 4 => 4 | 5 => 5 | 167 => 382 | 37 => 236 | 0 => 0 | 85 => 383 | 2 => 2 | 168 => 385 | 53 => 378 | 175 => 416 | 46 => 304 | 210 => 419 | 127 => 400 | 145 => 438 | 143 => 436 | 21 => 21 | 171 => 412 | 173 => 414 | 212 => 433 | 51 => 284 | 20 => 20 | 213 => 434 | 232 => 446 | 233 => 447 | 80 => 339 | n => n, fun | 15 => 0 | 16 => 1 | 17 => 2 | 18 => 5 | 19 => 6 | n => n⟩
theorem Tryz.laysC172 : Go.Proofs.LaysC.n172 Tryz.prog Tryz.laysC172_ren := {
  mixed := by kernel_rfl
  f129 := Tryz.func297.trans (congrArg some (by kernel_rfl))
  f171 := Tryz.func142.trans (congrArg some (by kernel_rfl))
  f172 := Tryz.func143.trans (congrArg some (by kernel_rfl))
  f205 := Tryz.func349.trans (congrArg some (by kernel_rfl))
  f243 := Tryz.func232.trans (congrArg some (by kernel_rfl))
  f244 := Tryz.func233.trans (congrArg some (by kernel_rfl))
  f245 := Tryz.func234.trans (congrArg some (by kernel_rfl))
  f246 := Tryz.func304.trans (congrArg some (by kernel_rfl))
  f247 := Tryz.func305.trans (congrArg some (by kernel_rfl))
  f279 := Tryz.func306.trans (congrArg some (by kernel_rfl))
  f280 := Tryz.func307.trans (congrArg some (by kernel_rfl))
  f281 := Tryz.func308.trans (congrArg some (by kernel_rfl))
  f282 := Tryz.func309.trans (congrArg some (by kernel_rfl))
  f283 := Tryz.func343.trans (congrArg some (by kernel_rfl))
  f284 := Tryz.func344.trans (congrArg some (by kernel_rfl))
  f285 := Tryz.func345.trans (congrArg some (by kernel_rfl))
  f286 := Tryz.func346.trans (congrArg some (by kernel_rfl))
  f287 := Tryz.func347.trans (congrArg some (by kernel_rfl))
  f316 := Tryz.func348.trans (congrArg some (by kernel_rfl))
  f317 := Tryz.func365.trans (congrArg some (by kernel_rfl))
  f318 := Tryz.func366.trans (congrArg some (by kernel_rfl))
  f319 := Tryz.func367.trans (congrArg some (by kernel_rfl))
  f320 := Tryz.func368.trans (congrArg some (by kernel_rfl))
  f321 := Tryz.func369.trans (congrArg some (by kernel_rfl))
  f322 := Tryz.func370.trans (congrArg some (by kernel_rfl))
  f337 := Tryz.func375.trans (congrArg some (by kernel_rfl))
  f338 := Tryz.func376.trans (congrArg some (by kernel_rfl))
  t0 := Tryz.underlying0
  a0 := Tryz.isAgg0
  z0 := Tryz.sizeOf0
  v0 := Tryz.zeroValue0
  t2 := Tryz.underlying2
  a2 := Tryz.isAgg2
  z2 := Tryz.sizeOf2
  v2 := Tryz.zeroValue2
  t3 := Tryz.underlying3
  a3 := Tryz.isAgg3
  z3 := Tryz.sizeOf3
  v3 := Tryz.zeroValue3
  t4 := Tryz.underlying4
  a4 := Tryz.isAgg4
  z4 := Tryz.sizeOf4
  v4 := Tryz.zeroValue4
  t5 := Tryz.underlying5
  a5 := Tryz.isAgg5
  z5 := Tryz.sizeOf5
  v5 := Tryz.zeroValue5
  t9 := Tryz.underlying9
  a9 := Tryz.isAgg9
  z9 := Tryz.sizeOf9
  v9 := Tryz.zeroValue9
  t20 := Tryz.underlying20
  a20 := Tryz.isAgg20
  z20 := Tryz.sizeOf20
  v20 := Tryz.zeroValue20
  t21 := Tryz.underlying21
  a21 := Tryz.isAgg21
  z21 := Tryz.sizeOf21
  v21 := Tryz.zeroValue21
  t37 := Tryz.underlying236
  a37 := Tryz.isAgg236
  z37 := Tryz.sizeOf236
  v37 := Tryz.zeroValue236
  t46 := Tryz.underlying304
  a46 := Tryz.isAgg304
  z46 := Tryz.sizeOf304
  v46 := Tryz.zeroValue304
  t51 := Tryz.underlying284
  a51 := Tryz.isAgg284
  z51 := Tryz.sizeOf284
  v51 := Tryz.zeroValue284
  t53 := Tryz.underlying378
  a53 := Tryz.isAgg378
  z53 := Tryz.sizeOf378
  v53 := Tryz.zeroValue378
  t75 := Tryz.underlying224
  a75 := Tryz.isAgg224
  z75 := Tryz.sizeOf224
  v75 := Tryz.zeroValue224
  t76 := Tryz.underlying225
  a76 := Tryz.isAgg225
  z76 := Tryz.sizeOf225
  v76 := Tryz.zeroValue225
  t85 := Tryz.underlying383
  a85 := Tryz.isAgg383
  z85 := Tryz.sizeOf383
  v85 := Tryz.zeroValue383
  t127 := Tryz.underlying400
  a127 := Tryz.isAgg400
  z127 := Tryz.sizeOf400
  v127 := Tryz.zeroValue400
  t143 := Tryz.underlying436
  a143 := Tryz.isAgg436
  z143 := Tryz.sizeOf436
  v143 := Tryz.zeroValue436
  t145 := Tryz.underlying438
  a145 := Tryz.isAgg438
  z145 := Tryz.sizeOf438
  v145 := Tryz.zeroValue438
  t167 := Tryz.underlying382
  a167 := Tryz.isAgg382
  z167 := Tryz.sizeOf382
  v167 := Tryz.zeroValue382
  t168 := Tryz.underlying385
  a168 := Tryz.isAgg385
  z168 := Tryz.sizeOf385
  v168 := Tryz.zeroValue385
  t171 := Tryz.underlying412
  a171 := Tryz.isAgg412
  z171 := Tryz.sizeOf412
  v171 := Tryz.zeroValue412
  t173 := Tryz.underlying414
  a173 := Tryz.isAgg414
  z173 := Tryz.sizeOf414
  v173 := Tryz.zeroValue414
  t175 := Tryz.underlying416
  a175 := Tryz.isAgg416
  z175 := Tryz.sizeOf416
  v175 := Tryz.zeroValue416
  t210 := Tryz.underlying419
  a210 := Tryz.isAgg419
  z210 := Tryz.sizeOf419
  v210 := Tryz.zeroValue419
  t212 := Tryz.underlying433
  a212 := Tryz.isAgg433
  z212 := Tryz.sizeOf433
  v212 := Tryz.zeroValue433
  t213 := Tryz.underlying434
  a213 := Tryz.isAgg434
  z213 := Tryz.sizeOf434
  t232 := Tryz.underlying446
  a232 := Tryz.isAgg446
  z232 := Tryz.sizeOf446
  v232 := Tryz.zeroValue446
  t233 := Tryz.underlying447
  a233 := Tryz.isAgg447
  z233 := Tryz.sizeOf447
  v233 := Tryz.zeroValue447
  g15 := by kernel_rfl
  g16 := by kernel_rfl
  g17 := by kernel_rfl
  g18 := by kernel_rfl
  g19 := by kernel_rfl
  t80 := Tryz.underlying339
  a80 := Tryz.isAgg339
  z80 := Tryz.sizeOf339
  v80 := Tryz.zeroValue339
  i0 := by kernel_rfl
  i2 := by kernel_rfl
  i3 := by kernel_rfl
  i4 := by kernel_rfl
  i5 := by kernel_rfl
  i9 := by kernel_rfl
  i20 := by kernel_rfl
  i21 := by kernel_rfl
  i37 := by kernel_rfl
  i46 := by kernel_rfl
  i51 := by kernel_rfl
  i53 := by kernel_rfl
  i75 := by kernel_rfl
  i76 := by kernel_rfl
  i80 := by kernel_rfl
  i85 := by kernel_rfl
  i127 := by kernel_rfl
  i143 := by kernel_rfl
  i145 := by kernel_rfl
  i167 := by kernel_rfl
  i168 := by kernel_rfl
  i171 := by kernel_rfl
  i173 := by kernel_rfl
  i175 := by kernel_rfl
  i210 := by kernel_rfl
  i212 := by kernel_rfl
  i232 := by kernel_rfl
  i233 := by kernel_rfl
  m15 := by kernel_rfl
  m16 := by kernel_rfl
  m17 := by kernel_rfl
  m18 := by kernel_rfl
  m19 := by kernel_rfl
  c0 := by kernel_rfl
  c2 := by kernel_rfl
  c3 := by kernel_rfl
  c4 := by kernel_rfl
  c5 := by kernel_rfl
  c9 := by kernel_rfl
  c20 := by kernel_rfl
  c21 := by kernel_rfl
  c37 := by kernel_rfl
  c46 := by kernel_rfl
  c51 := by kernel_rfl
  c53 := by kernel_rfl
  c75 := by kernel_rfl
  c76 := by kernel_rfl
  c80 := by kernel_rfl
  c85 := by kernel_rfl
  c127 := by kernel_rfl
  c143 := by kernel_rfl
  c145 := by kernel_rfl
  c167 := by kernel_rfl
  c168 := by kernel_rfl
  c171 := by kernel_rfl
  c173 := by kernel_rfl
  c175 := by kernel_rfl
  c210 := by kernel_rfl
  c212 := by kernel_rfl
  c213 := by kernel_rfl
  c232 := by kernel_rfl
  c233 := by kernel_rfl }
open Go.RowKit in
theorem Tryz.strconv_Atoi_ok (s : ByteArray) (hmax : s.size ≤ 9223372036854775806) (v : Int) (h : Lib.atoiAll s.data.toList = .ok v) (w : World) :
    Calls Tryz.prog 143 #[.string s] w fun e w' => e = .returned (.tuple #[.int .i64 v, .nilIface]) ∧ (w' = w ∨ ∃ t, w' = Lib.bytesWorld w 5 t) := Any.strconv_Atoi_ok Tryz.laysC172 s hmax v h w
open Go.RowKit in
theorem Tryz.strconv_Atoi_range (s : ByteArray) (hlim : s.size ≤ 281474976710656) (h : Lib.atoiAll s.data.toList = .range) (ev : Value) (w : World) (hv : w.cell? ⟨1, 0, none⟩ = some ev) (hev : ev = .nilIface ∨ ∃ te pe, ev = .iface te pe) :
    Calls Tryz.prog 143 #[.string s] w fun e w' => ∃ N, e = .returned (.tuple #[.int .i64 (Lib.atoiSat s.data.toList), .iface 385 (.pointer (some ⟨N, 0, none⟩))]) ∧ w.heap.size ≤ N ∧ w'.heap[N]? = some (.cells #[.string ⟨#[65, 116, 111, 105]⟩, .string s, ev] 419 (0, 0)) ∧ Below w.heap.size w w' := Any.strconv_Atoi_range Tryz.laysC172 s hlim h ev w hv hev
def Tryz.lays99_ren : Go.Shelf.Ren := ⟨fun | 99 => 76 | 206 => 155 | n => n, fun | 9 => 9 | 4 => 4 | 3 => 3 | n => n, fun | n => n⟩
theorem Tryz.lays99 : Go.Proofs.Lays.n99 Tryz.prog Tryz.lays99_ren := {
  mixed := by kernel_rfl
  f99 := Tryz.func76.trans (congrArg some (by kernel_rfl))
  f206 := Tryz.func155.trans (congrArg some (by kernel_rfl))
  t3 := Tryz.underlying3
  a3 := Tryz.isAgg3
  z3 := Tryz.sizeOf3
  v3 := Tryz.zeroValue3
  t4 := Tryz.underlying4
  a4 := Tryz.isAgg4
  z4 := Tryz.sizeOf4
  v4 := Tryz.zeroValue4
  t9 := Tryz.underlying9
  a9 := Tryz.isAgg9
  z9 := Tryz.sizeOf9
  v9 := Tryz.zeroValue9 }
open Go.RowKit Go.Lib in
theorem Tryz.strings_HasPrefix (s p : ByteArray) (w : World) :
    Calls Tryz.prog 76 #[.string s, .string p] w fun e w' => e = .returned (.bool (Lib.hasPrefix s.data.toList p.data.toList)) ∧ w' = w := Any.strings_HasPrefix Tryz.lays99 s p w
def Tryz.lays101_ren : Go.Shelf.Ren := ⟨fun | 101 => 144 | 208 => 235 | 206 => 155 | n => n, fun | 9 => 9 | 4 => 4 | 3 => 3 | n => n, fun | n => n⟩
theorem Tryz.lays101 : Go.Proofs.Lays.n101 Tryz.prog Tryz.lays101_ren := {
  mixed := by kernel_rfl
  f101 := Tryz.func144.trans (congrArg some (by kernel_rfl))
  f206 := Tryz.func155.trans (congrArg some (by kernel_rfl))
  f208 := Tryz.func235.trans (congrArg some (by kernel_rfl))
  t3 := Tryz.underlying3
  a3 := Tryz.isAgg3
  z3 := Tryz.sizeOf3
  v3 := Tryz.zeroValue3
  t4 := Tryz.underlying4
  a4 := Tryz.isAgg4
  z4 := Tryz.sizeOf4
  v4 := Tryz.zeroValue4
  t9 := Tryz.underlying9
  a9 := Tryz.isAgg9
  z9 := Tryz.sizeOf9
  v9 := Tryz.zeroValue9 }
open Go.RowKit Go.Lib in
theorem Tryz.strings_TrimPrefix (s p : ByteArray) (w : World) :
    Calls Tryz.prog 144 #[.string s, .string p] w fun e w' => e = .returned (.string ⟨(Lib.trimPrefix s.data.toList p.data.toList).toArray⟩) ∧ w' = w := Any.strings_TrimPrefix Tryz.lays101 s p w
def Tryz.lays197_ren : Go.Shelf.Ren := ⟨fun | 197 => 310 | 260 => 350 | n => n, fun | 9 => 9 | 21 => 21 | 3 => 3 | 4 => 4 | 5 => 5 | 105 => 388 | 119 => 439 | 0 => 0 | 46 => 304 | 139 => 442 | 138 => 441 | n => n, fun | 3 => 3 | 4 => 4 | n => n⟩
theorem Tryz.lays197 : Go.Proofs.Lays.n197 Tryz.prog Tryz.lays197_ren := {
  mixed := by kernel_rfl
  f197 := Tryz.func310.trans (congrArg some (by kernel_rfl))
  f260 := Tryz.func350.trans (congrArg some (by kernel_rfl))
  t0 := Tryz.underlying0
  a0 := Tryz.isAgg0
  z0 := Tryz.sizeOf0
  v0 := Tryz.zeroValue0
  t3 := Tryz.underlying3
  a3 := Tryz.isAgg3
  z3 := Tryz.sizeOf3
  v3 := Tryz.zeroValue3
  t4 := Tryz.underlying4
  a4 := Tryz.isAgg4
  z4 := Tryz.sizeOf4
  v4 := Tryz.zeroValue4
  t5 := Tryz.underlying5
  a5 := Tryz.isAgg5
  z5 := Tryz.sizeOf5
  v5 := Tryz.zeroValue5
  t9 := Tryz.underlying9
  a9 := Tryz.isAgg9
  z9 := Tryz.sizeOf9
  v9 := Tryz.zeroValue9
  t21 := Tryz.underlying21
  a21 := Tryz.isAgg21
  z21 := Tryz.sizeOf21
  v21 := Tryz.zeroValue21
  t46 := Tryz.underlying304
  a46 := Tryz.isAgg304
  z46 := Tryz.sizeOf304
  v46 := Tryz.zeroValue304
  t105 := Tryz.underlying388
  a105 := Tryz.isAgg388
  z105 := Tryz.sizeOf388
  v105 := Tryz.zeroValue388
  t119 := Tryz.underlying439
  a119 := Tryz.isAgg439
  z119 := Tryz.sizeOf439
  t138 := Tryz.underlying441
  a138 := Tryz.isAgg441
  z138 := Tryz.sizeOf441
  v138 := Tryz.zeroValue441
  t139 := Tryz.underlying442
  a139 := Tryz.isAgg442
  z139 := Tryz.sizeOf442
  v139 := Tryz.zeroValue442
  g3 := by kernel_rfl
  g4 := by kernel_rfl }
def Tryz.lays260_ren : Go.Shelf.Ren := ⟨fun | 260 => 350 | n => n, fun | 9 => 9 | 21 => 21 | 3 => 3 | 4 => 4 | 5 => 5 | 119 => 439 | 0 => 0 | 46 => 304 | 139 => 442 | 138 => 441 | n => n, fun | 3 => 3 | 4 => 4 | n => n⟩
theorem Tryz.lays260 : Go.Proofs.Lays.n260 Tryz.prog Tryz.lays260_ren := {
  mixed := by kernel_rfl
  f260 := Tryz.func350.trans (congrArg some (by kernel_rfl))
  t0 := Tryz.underlying0
  a0 := Tryz.isAgg0
  z0 := Tryz.sizeOf0
  v0 := Tryz.zeroValue0
  t3 := Tryz.underlying3
  a3 := Tryz.isAgg3
  z3 := Tryz.sizeOf3
  v3 := Tryz.zeroValue3
  t4 := Tryz.underlying4
  a4 := Tryz.isAgg4
  z4 := Tryz.sizeOf4
  v4 := Tryz.zeroValue4
  t5 := Tryz.underlying5
  a5 := Tryz.isAgg5
  z5 := Tryz.sizeOf5
  v5 := Tryz.zeroValue5
  t9 := Tryz.underlying9
  a9 := Tryz.isAgg9
  z9 := Tryz.sizeOf9
  v9 := Tryz.zeroValue9
  t21 := Tryz.underlying21
  a21 := Tryz.isAgg21
  z21 := Tryz.sizeOf21
  v21 := Tryz.zeroValue21
  t46 := Tryz.underlying304
  a46 := Tryz.isAgg304
  z46 := Tryz.sizeOf304
  v46 := Tryz.zeroValue304
  t119 := Tryz.underlying439
  a119 := Tryz.isAgg439
  z119 := Tryz.sizeOf439
  t138 := Tryz.underlying441
  a138 := Tryz.isAgg441
  z138 := Tryz.sizeOf441
  v138 := Tryz.zeroValue441
  t139 := Tryz.underlying442
  a139 := Tryz.isAgg442
  z139 := Tryz.sizeOf442
  v139 := Tryz.zeroValue442
  g3 := by kernel_rfl
  g4 := by kernel_rfl }
open Go.RowKit Go.Lib in
theorem Tryz.utf8_DecodeRuneInString (s : ByteArray) (w : World) (hT : Lib.Utf8Tabs 3 4 w) :
    Calls Tryz.prog 310 #[.string s] w fun e w' => e = .returned (.tuple #[.int .i32 (Lib.decodeGo s).1, .int .i64 (Lib.decodeGo s).2]) ∧ Below w.heap.size w w' := Any.utf8_DecodeRuneInString Tryz.lays197 s w hT
end Go.Proofs
