/-
  The contracts of library functions at this dump, in plain words, as the shelf commands lay them: those that the walks use.
-/
import Derived.Shelf.Strings.Builder1
import Derived.Shelf.Small.Bits
import Derived.Shelf.Small.Wraps
import Derived.Shelf.Strings.BuilderF
import Derived.Shelf.Strings.BuilderK
import Derived.Shelf.Strconv.Atoi
import Derived.Shelf.Strconv.Itoa0
import Derived.Shelf.Strconv.Itoa1
import Derived.Shelf.LaysM
import Derived.Shelf.Strconv.Itoa2
import Derived.Shelf.Strconv.Itoa3
import Derived.Shelf.Strconv.AtoiErrFast
import Derived.Shelf.Strconv.ParseIntEmpty
import Derived.Shelf.Strconv.AtoiFail
import Derived.Shelf.Strconv.Clone
import Derived.Shelf.Strconv.SyntaxError
import Derived.Shelf.LaysC
import Derived.Shelf.Strconv.ToError
import Derived.Shelf.Strconv.AtoiErr
import Derived.Shelf.Strconv.Lower
import Derived.Shelf.Strconv.ParseUint10
import Derived.Shelf.Strconv.ParseUint10Empty
import Derived.Shelf.Strconv.ParseUint10Any
import Derived.Shelf.Strconv.ParseInt10
import Derived.Shelf.Strconv.AtoiLong
import Derived.Shelf.Strconv.AtoiInnerAll
import Derived.Shelf.Strconv.RangeError
import Derived.Shelf.Strconv.ToErrorRange
import Derived.Shelf.Strconv.AtoiAll
import Derived.Shelf.Strconv.ErrVarAll
import Derived.Shelf.Strconv.ParseUintEmpty
import Derived.Shelf.Strconv.ParseUint10b64
import Derived.Shelf.Strconv.ParseUint10b32
import Derived.Shelf.Strconv.ParseUint10b16
import Derived.Shelf.Strconv.ParseUint10b8
import Derived.Shelf.Strconv.ParseUint10At
import Derived.Shelf.Strconv.ParseInt10At64
import Derived.Shelf.Strconv.ParseInt10At32
import Derived.Shelf.Strconv.ParseInt10At16
import Derived.Shelf.Strconv.ParseInt10At8
import Derived.Shelf.Strconv.ParseInt10All
import Derived.Shelf.Strings.Prefix
import Derived.Shelf.Unicode.Decode
import Derived.Shelf.Unicode.DecodeSlow
import Derived.Shelf.Unicode.DecodeAny
import Derived.Shelf.Strings.BuilderCap
import Derived.Test.YtgddgipjpdjoaaaGreatDoorProg
namespace Go.Proofs
open Go.Shelf
def Tryz.lays169_ren : Go.Shelf.Ren := ⟨fun | 169 => 143 | n => n, fun | 70 => 265 | 9 => 9 | 0 => 0 | 72 => 268 | 37 => 266 | 127 => 332 | 3 => 3 | 5 => 5 | n => n, fun | n => n⟩
theorem Tryz.lays169 : Go.Proofs.Lays.n169 Tryz.prog Tryz.lays169_ren := {
 mixed := by kernel_rfl
 f169 := Tryz.func143.trans (congrArg some (by kernel_rfl))
 t0 := Tryz.underlying0
 a0 := Tryz.isAgg0
 z0 := Tryz.sizeOf0
 v0 := Tryz.zeroValue0
 t3 := Tryz.underlying3
 a3 := Tryz.isAgg3
 z3 := Tryz.sizeOf3
 v3 := Tryz.zeroValue3
 t9 := Tryz.underlying9
 a9 := Tryz.isAgg9
 z9 := Tryz.sizeOf9
 v9 := Tryz.zeroValue9
 t37 := Tryz.underlying266
 a37 := Tryz.isAgg266
 z37 := Tryz.sizeOf266
 v37 := Tryz.zeroValue266
 t70 := Tryz.underlying265
 a70 := Tryz.isAgg265
 z70 := Tryz.sizeOf265
 v70 := Tryz.zeroValue265
 t72 := Tryz.underlying268
 a72 := Tryz.isAgg268
 z72 := Tryz.sizeOf268
 v72 := Tryz.zeroValue268
 t127 := Tryz.underlying332
 a127 := Tryz.isAgg332
 z127 := Tryz.sizeOf332
 v127 := Tryz.zeroValue332 }
theorem Tryz.Builder_Extra_169 : Builder.Extra Tryz.prog Tryz.lays169_ren := {
 sizeBuilder := by kernel_rfl
 liesBuilder := by kernel_rfl
 t5 := Tryz.underlying5
 a5 := Tryz.isAgg5
 z5 := Tryz.sizeOf5
 v5 := Tryz.zeroValue5
 infoByte := by kernel_rfl
 cellsByte := by kernel_rfl
 sizeByte := by kernel_rfl
 neB5 := by decide }
def Tryz.lays103_ren : Go.Shelf.Ren := ⟨fun | 103 => 257 | 210 => 286 | 206 => 255 | n => n, fun | 9 => 9 | 4 => 4 | 24 => 360 | 3 => 3 | n => n, fun | n => n⟩
theorem Tryz.lays103 : Go.Proofs.Lays.n103 Tryz.prog Tryz.lays103_ren := {
 mixed := by kernel_rfl
 f103 := Tryz.func257.trans (congrArg some (by kernel_rfl))
 f206 := Tryz.func255.trans (congrArg some (by kernel_rfl))
 f210 := Tryz.func286.trans (congrArg some (by kernel_rfl))
 t3 := Tryz.underlying3
 a3 := Tryz.isAgg3
 z3 := Tryz.sizeOf3
 v3 := Tryz.zeroValue3
 t4 := Tryz.underlying4
 a4 := Tryz.isAgg4
 z4 := Tryz.sizeOf4
 v4 := Tryz.zeroValue4
 t9 := Tryz.underlying9
 a9 := Tryz.isAgg9
 z9 := Tryz.sizeOf9
 v9 := Tryz.zeroValue9
 t24 := Tryz.underlying360
 a24 := Tryz.isAgg360
 z24 := Tryz.sizeOf360
 v24 := Tryz.zeroValue360 }
open Go.RowKit in
theorem Tryz.strings_CutPrefix (s p : ByteArray) (w : World) :
   Calls Tryz.prog 257 #[.string s, .string p] w fun e w' => e = .returned (.tuple #[.string ⟨(Lib.trimPrefix s.data.toList p.data.toList).toArray⟩, .bool (Lib.hasPrefix s.data.toList p.data.toList)]) ∧ w' = w := Any.strings_CutPrefix Tryz.lays103 s p w
open Go.RowKit in
theorem Tryz.Builder_String_any_k (B b : Nat) (l : List UInt8) (w : World) (h : Lib.IsBuilderF 268 5 B b (Lib.byteCells l) w) (hBw : B ≤ w.heap.size) :
   Calls Tryz.prog 143 #[.pointer (some ⟨b, 0, none⟩)] w fun e w' => e = .returned (.string ⟨l.toArray⟩) ∧ (Lib.IsBuilderF 268 5 B b (Lib.byteCells l) w' ∧ Below B w w' ∧ Lib.OthersKept 5 (some b) w w') := Any.Builder_String_any_k Tryz.lays169 Tryz.Builder_Extra_169 B b l w h hBw
def Tryz.laysM171_ren : Go.Shelf.Ren := ⟨fun | 171 => 221 | 243 => 265 | 246 => 291 | 283 => 309 | 284 => 310 | 285 => 311 | 286 => 312 | 129 => 204 | 317 => 315 | 318 => 316 | 319 => 317 | 320 => 318 | 337 => 319 | 338 => 320 | n => n, fun | 3 => 3 | 9 => 9 | 2 => 2 | 4 => 4 | 171 => 404 | 0 => 0 | 53 => 324 | 37 => 266 | 5 => 5 | 173 => 406 | 212 => 410 | 51 => 217 | 20 => 20 | 213 => 411 | 46 => 233 | 232 => 412 | 233 => 413 | n => n, fun | 17 => 4 | 18 => 5 | 19 => 6 | n => n⟩
theorem Tryz.laysM171 : Go.Proofs.LaysM.n171 Tryz.prog Tryz.laysM171_ren := {
 mixed := by kernel_rfl
 f129 := Tryz.func204.trans (congrArg some (by kernel_rfl))
 f171 := Tryz.func221.trans (congrArg some (by kernel_rfl))
 f243 := Tryz.func265.trans (congrArg some (by kernel_rfl))
 f246 := Tryz.func291.trans (congrArg some (by kernel_rfl))
 f283 := Tryz.func309.trans (congrArg some (by kernel_rfl))
 f284 := Tryz.func310.trans (congrArg some (by kernel_rfl))
 f285 := Tryz.func311.trans (congrArg some (by kernel_rfl))
 f286 := Tryz.func312.trans (congrArg some (by kernel_rfl))
 f317 := Tryz.func315.trans (congrArg some (by kernel_rfl))
 f318 := Tryz.func316.trans (congrArg some (by kernel_rfl))
 f319 := Tryz.func317.trans (congrArg some (by kernel_rfl))
 f320 := Tryz.func318.trans (congrArg some (by kernel_rfl))
 f337 := Tryz.func319.trans (congrArg some (by kernel_rfl))
 f338 := Tryz.func320.trans (congrArg some (by kernel_rfl))
 t0 := Tryz.underlying0
 a0 := Tryz.isAgg0
 z0 := Tryz.sizeOf0
 v0 := Tryz.zeroValue0
 t2 := Tryz.underlying2
 a2 := Tryz.isAgg2
 z2 := Tryz.sizeOf2
 v2 := Tryz.zeroValue2
 t3 := Tryz.underlying3
 a3 := Tryz.isAgg3
 z3 := Tryz.sizeOf3
 v3 := Tryz.zeroValue3
 t4 := Tryz.underlying4
 a4 := Tryz.isAgg4
 z4 := Tryz.sizeOf4
 v4 := Tryz.zeroValue4
 t5 := Tryz.underlying5
 a5 := Tryz.isAgg5
 z5 := Tryz.sizeOf5
 v5 := Tryz.zeroValue5
 t9 := Tryz.underlying9
 a9 := Tryz.isAgg9
 z9 := Tryz.sizeOf9
 v9 := Tryz.zeroValue9
 t20 := Tryz.underlying20
 a20 := Tryz.isAgg20
 z20 := Tryz.sizeOf20
 v20 := Tryz.zeroValue20
 t37 := Tryz.underlying266
 a37 := Tryz.isAgg266
 z37 := Tryz.sizeOf266
 v37 := Tryz.zeroValue266
 t46 := Tryz.underlying233
 a46 := Tryz.isAgg233
 z46 := Tryz.sizeOf233
 v46 := Tryz.zeroValue233
 t51 := Tryz.underlying217
 a51 := Tryz.isAgg217
 z51 := Tryz.sizeOf217
 v51 := Tryz.zeroValue217
 t53 := Tryz.underlying324
 a53 := Tryz.isAgg324
 z53 := Tryz.sizeOf324
 v53 := Tryz.zeroValue324
 t171 := Tryz.underlying404
 a171 := Tryz.isAgg404
 z171 := Tryz.sizeOf404
 v171 := Tryz.zeroValue404
 t173 := Tryz.underlying406
 a173 := Tryz.isAgg406
 z173 := Tryz.sizeOf406
 v173 := Tryz.zeroValue406
 t212 := Tryz.underlying410
 a212 := Tryz.isAgg410
 z212 := Tryz.sizeOf410
 v212 := Tryz.zeroValue410
 t213 := Tryz.underlying411
 a213 := Tryz.isAgg411
 z213 := Tryz.sizeOf411
 t232 := Tryz.underlying412
 a232 := Tryz.isAgg412
 z232 := Tryz.sizeOf412
 v232 := Tryz.zeroValue412
 t233 := Tryz.underlying413
 a233 := Tryz.isAgg413
 z233 := Tryz.sizeOf413
 v233 := Tryz.zeroValue413
 g17 := by kernel_rfl
 g18 := by kernel_rfl
 g19 := by kernel_rfl
 i0 := by kernel_rfl
 i2 := by kernel_rfl
 i3 := by kernel_rfl
 i4 := by kernel_rfl
 i5 := by kernel_rfl
 i9 := by kernel_rfl
 i20 := by kernel_rfl
 i37 := by kernel_rfl
 i46 := by kernel_rfl
 i51 := by kernel_rfl
 i53 := by kernel_rfl
 i171 := by kernel_rfl
 i173 := by kernel_rfl
 i212 := by kernel_rfl
 i232 := by kernel_rfl
 i233 := by kernel_rfl
 m17 := by kernel_rfl
 m18 := by kernel_rfl
 m19 := by kernel_rfl }
def Tryz.laysC172_ren : Go.Shelf.Ren := ⟨fun | 172 => 145 | 244 => 218 | 245 => 219 | 247 => 260 | 279 => 261 | 280 => 262 | 281 => 263 | 282 => 264 | 287 => 288 | 316 => 289 | 171 => 221 | 205 => 290 | 321 => 307 | 322 => 308 | 243 => 265 | 246 => 291 | 283 => 309 | 284 => 310 | 285 => 311 | 286 => 312 | 129 => 204 | 317 => 315 | 318 => 316 | 319 => 317 | 320 => 318 | 337 => 319 | 338 => 320 | n => n, fun | 9 => 9 | 3 => 3 | 75 => 270 | 76 => 271 | 4 => 4 | 5 => 5 | 167 => 364 | 37 => 266 | 0 => 0 | 85 => 365 | 2 => 2 | 168 => 367 | 53 => 324 | 175 => 382 | 46 => 233 | 210 => 386 | 127 => 332 | 145 => 403 | 143 => 401 | 21 => 21 | 171 => 404 | 173 => 406 | 212 => 410 | 51 => 217 | 20 => 20 | 213 => 411 | 232 => 412 | 233 => 413 | 80 => 274 | n => n, fun | 15 => 0 | 16 => 1 | 17 => 4 | 18 => 5 | 19 => 6 | n => n⟩
theorem Tryz.laysC172 : Go.Proofs.LaysC.n172 Tryz.prog Tryz.laysC172_ren := {
 mixed := by kernel_rfl
 f129 := Tryz.func204.trans (congrArg some (by kernel_rfl))
 f171 := Tryz.func221.trans (congrArg some (by kernel_rfl))
 f172 := Tryz.func145.trans (congrArg some (by kernel_rfl))
 f205 := Tryz.func290.trans (congrArg some (by kernel_rfl))
 f243 := Tryz.func265.trans (congrArg some (by kernel_rfl))
 f244 := Tryz.func218.trans (congrArg some (by kernel_rfl))
 f245 := Tryz.func219.trans (congrArg some (by kernel_rfl))
 f246 := Tryz.func291.trans (congrArg some (by kernel_rfl))
 f247 := Tryz.func260.trans (congrArg some (by kernel_rfl))
 f279 := Tryz.func261.trans (congrArg some (by kernel_rfl))
 f280 := Tryz.func262.trans (congrArg some (by kernel_rfl))
 f281 := Tryz.func263.trans (congrArg some (by kernel_rfl))
 f282 := Tryz.func264.trans (congrArg some (by kernel_rfl))
 f283 := Tryz.func309.trans (congrArg some (by kernel_rfl))
 f284 := Tryz.func310.trans (congrArg some (by kernel_rfl))
 f285 := Tryz.func311.trans (congrArg some (by kernel_rfl))
 f286 := Tryz.func312.trans (congrArg some (by kernel_rfl))
 f287 := Tryz.func288.trans (congrArg some (by kernel_rfl))
 f316 := Tryz.func289.trans (congrArg some (by kernel_rfl))
 f317 := Tryz.func315.trans (congrArg some (by kernel_rfl))
 f318 := Tryz.func316.trans (congrArg some (by kernel_rfl))
 f319 := Tryz.func317.trans (congrArg some (by kernel_rfl))
 f320 := Tryz.func318.trans (congrArg some (by kernel_rfl))
 f321 := Tryz.func307.trans (congrArg some (by kernel_rfl))
 f322 := Tryz.func308.trans (congrArg some (by kernel_rfl))
 f337 := Tryz.func319.trans (congrArg some (by kernel_rfl))
 f338 := Tryz.func320.trans (congrArg some (by kernel_rfl))
 t0 := Tryz.underlying0
 a0 := Tryz.isAgg0
 z0 := Tryz.sizeOf0
 v0 := Tryz.zeroValue0
 t2 := Tryz.underlying2
 a2 := Tryz.isAgg2
 z2 := Tryz.sizeOf2
 v2 := Tryz.zeroValue2
 t3 := Tryz.underlying3
 a3 := Tryz.isAgg3
 z3 := Tryz.sizeOf3
 v3 := Tryz.zeroValue3
 t4 := Tryz.underlying4
 a4 := Tryz.isAgg4
 z4 := Tryz.sizeOf4
 v4 := Tryz.zeroValue4
 t5 := Tryz.underlying5
 a5 := Tryz.isAgg5
 z5 := Tryz.sizeOf5
 v5 := Tryz.zeroValue5
 t9 := Tryz.underlying9
 a9 := Tryz.isAgg9
 z9 := Tryz.sizeOf9
 v9 := Tryz.zeroValue9
 t20 := Tryz.underlying20
 a20 := Tryz.isAgg20
 z20 := Tryz.sizeOf20
 v20 := Tryz.zeroValue20
 t21 := Tryz.underlying21
 a21 := Tryz.isAgg21
 z21 := Tryz.sizeOf21
 v21 := Tryz.zeroValue21
 t37 := Tryz.underlying266
 a37 := Tryz.isAgg266
 z37 := Tryz.sizeOf266
 v37 := Tryz.zeroValue266
 t46 := Tryz.underlying233
 a46 := Tryz.isAgg233
 z46 := Tryz.sizeOf233
 v46 := Tryz.zeroValue233
 t51 := Tryz.underlying217
 a51 := Tryz.isAgg217
 z51 := Tryz.sizeOf217
 v51 := Tryz.zeroValue217
 t53 := Tryz.underlying324
 a53 := Tryz.isAgg324
 z53 := Tryz.sizeOf324
 v53 := Tryz.zeroValue324
 t75 := Tryz.underlying270
 a75 := Tryz.isAgg270
 z75 := Tryz.sizeOf270
 v75 := Tryz.zeroValue270
 t76 := Tryz.underlying271
 a76 := Tryz.isAgg271
 z76 := Tryz.sizeOf271
 v76 := Tryz.zeroValue271
 t85 := Tryz.underlying365
 a85 := Tryz.isAgg365
 z85 := Tryz.sizeOf365
 v85 := Tryz.zeroValue365
 t127 := Tryz.underlying332
 a127 := Tryz.isAgg332
 z127 := Tryz.sizeOf332
 v127 := Tryz.zeroValue332
 t143 := Tryz.underlying401
 a143 := Tryz.isAgg401
 z143 := Tryz.sizeOf401
 v143 := Tryz.zeroValue401
 t145 := Tryz.underlying403
 a145 := Tryz.isAgg403
 z145 := Tryz.sizeOf403
 v145 := Tryz.zeroValue403
 t167 := Tryz.underlying364
 a167 := Tryz.isAgg364
 z167 := Tryz.sizeOf364
 v167 := Tryz.zeroValue364
 t168 := Tryz.underlying367
 a168 := Tryz.isAgg367
 z168 := Tryz.sizeOf367
 v168 := Tryz.zeroValue367
 t171 := Tryz.underlying404
 a171 := Tryz.isAgg404
 z171 := Tryz.sizeOf404
 v171 := Tryz.zeroValue404
 t173 := Tryz.underlying406
 a173 := Tryz.isAgg406
 z173 := Tryz.sizeOf406
 v173 := Tryz.zeroValue406
 t175 := Tryz.underlying382
 a175 := Tryz.isAgg382
 z175 := Tryz.sizeOf382
 v175 := Tryz.zeroValue382
 t210 := Tryz.underlying386
 a210 := Tryz.isAgg386
 z210 := Tryz.sizeOf386
 v210 := Tryz.zeroValue386
 t212 := Tryz.underlying410
 a212 := Tryz.isAgg410
 z212 := Tryz.sizeOf410
 v212 := Tryz.zeroValue410
 t213 := Tryz.underlying411
 a213 := Tryz.isAgg411
 z213 := Tryz.sizeOf411
 t232 := Tryz.underlying412
 a232 := Tryz.isAgg412
 z232 := Tryz.sizeOf412
 v232 := Tryz.zeroValue412
 t233 := Tryz.underlying413
 a233 := Tryz.isAgg413
 z233 := Tryz.sizeOf413
 v233 := Tryz.zeroValue413
 g15 := by kernel_rfl
 g16 := by kernel_rfl
 g17 := by kernel_rfl
 g18 := by kernel_rfl
 g19 := by kernel_rfl
 t80 := Tryz.underlying274
 a80 := Tryz.isAgg274
 z80 := Tryz.sizeOf274
 v80 := Tryz.zeroValue274
 i0 := by kernel_rfl
 i2 := by kernel_rfl
 i3 := by kernel_rfl
 i4 := by kernel_rfl
 i5 := by kernel_rfl
 i9 := by kernel_rfl
 i20 := by kernel_rfl
 i21 := by kernel_rfl
 i37 := by kernel_rfl
 i46 := by kernel_rfl
 i51 := by kernel_rfl
 i53 := by kernel_rfl
 i75 := by kernel_rfl
 i76 := by kernel_rfl
 i80 := by kernel_rfl
 i85 := by kernel_rfl
 i127 := by kernel_rfl
 i143 := by kernel_rfl
 i145 := by kernel_rfl
 i167 := by kernel_rfl
 i168 := by kernel_rfl
 i171 := by kernel_rfl
 i173 := by kernel_rfl
 i175 := by kernel_rfl
 i210 := by kernel_rfl
 i212 := by kernel_rfl
 i232 := by kernel_rfl
 i233 := by kernel_rfl
 m15 := by kernel_rfl
 m16 := by kernel_rfl
 m17 := by kernel_rfl
 m18 := by kernel_rfl
 m19 := by kernel_rfl
 c0 := by kernel_rfl
 c2 := by kernel_rfl
 c3 := by kernel_rfl
 c4 := by kernel_rfl
 c5 := by kernel_rfl
 c9 := by kernel_rfl
 c20 := by kernel_rfl
 c21 := by kernel_rfl
 c37 := by kernel_rfl
 c46 := by kernel_rfl
 c51 := by kernel_rfl
 c53 := by kernel_rfl
 c75 := by kernel_rfl
 c76 := by kernel_rfl
 c80 := by kernel_rfl
 c85 := by kernel_rfl
 c127 := by kernel_rfl
 c143 := by kernel_rfl
 c145 := by kernel_rfl
 c167 := by kernel_rfl
 c168 := by kernel_rfl
 c171 := by kernel_rfl
 c173 := by kernel_rfl
 c175 := by kernel_rfl
 c210 := by kernel_rfl
 c212 := by kernel_rfl
 c213 := by kernel_rfl
 c232 := by kernel_rfl
 c233 := by kernel_rfl }
open Go.RowKit in
theorem Tryz.strconv_Atoi_ok (s : ByteArray) (hmax : s.size ≤ 9223372036854775806) (v : Int) (h : Lib.atoiAll s.data.toList = .ok v) (w : World) :
   Calls Tryz.prog 145 #[.string s] w fun e w' => e = .returned (.tuple #[.int .i64 v, .nilIface]) ∧ (w' = w ∨ ∃ t, w' = Lib.bytesWorld w 5 t) := Any.strconv_Atoi_ok Tryz.laysC172 s hmax v h w
open Go.RowKit in
theorem Tryz.strconv_Atoi_range (s : ByteArray) (hlim : s.size ≤ 281474976710656) (h : Lib.atoiAll s.data.toList = .range) (ev : Value) (w : World) (hv : w.cell? ⟨1, 0, none⟩ = some ev) (hev : ev = .nilIface ∨ ∃ te pe, ev = .iface te pe) :
   Calls Tryz.prog 145 #[.string s] w fun e w' => ∃ N, e = .returned (.tuple #[.int .i64 (Lib.atoiSat s.data.toList), .iface 367 (.pointer (some ⟨N, 0, none⟩))]) ∧ w.heap.size ≤ N ∧ w'.heap[N]? = some (.cells #[.string ⟨#[65, 116, 111, 105]⟩, .string s, ev] 386 (0, 0)) ∧ Below w.heap.size w w' := Any.strconv_Atoi_range Tryz.laysC172 s hlim h ev w hv hev
def Tryz.lays99_ren : Go.Shelf.Ren := ⟨fun | 99 => 213 | 206 => 255 | n => n, fun | 9 => 9 | 4 => 4 | 3 => 3 | n => n, fun | n => n⟩
theorem Tryz.lays99 : Go.Proofs.Lays.n99 Tryz.prog Tryz.lays99_ren := {
 mixed := by kernel_rfl
 f99 := Tryz.func213.trans (congrArg some (by kernel_rfl))
 f206 := Tryz.func255.trans (congrArg some (by kernel_rfl))
 t3 := Tryz.underlying3
 a3 := Tryz.isAgg3
 z3 := Tryz.sizeOf3
 v3 := Tryz.zeroValue3
 t4 := Tryz.underlying4
 a4 := Tryz.isAgg4
 z4 := Tryz.sizeOf4
 v4 := Tryz.zeroValue4
 t9 := Tryz.underlying9
 a9 := Tryz.isAgg9
 z9 := Tryz.sizeOf9
 v9 := Tryz.zeroValue9 }
open Go.RowKit Go.Lib in
theorem Tryz.strings_HasPrefix (s p : ByteArray) (w : World) :
   Calls Tryz.prog 213 #[.string s, .string p] w fun e w' => e = .returned (.bool (Lib.hasPrefix s.data.toList p.data.toList)) ∧ w' = w := Any.strings_HasPrefix Tryz.lays99 s p w
def Tryz.lays101_ren : Go.Shelf.Ren := ⟨fun | 101 => 146 | 208 => 220 | 206 => 255 | n => n, fun | 9 => 9 | 4 => 4 | 3 => 3 | n => n, fun | n => n⟩
theorem Tryz.lays101 : Go.Proofs.Lays.n101 Tryz.prog Tryz.lays101_ren := {
 mixed := by kernel_rfl
 f101 := Tryz.func146.trans (congrArg some (by kernel_rfl))
 f206 := Tryz.func255.trans (congrArg some (by kernel_rfl))
 f208 := Tryz.func220.trans (congrArg some (by kernel_rfl))
 t3 := Tryz.underlying3
 a3 := Tryz.isAgg3
 z3 := Tryz.sizeOf3
 v3 := Tryz.zeroValue3
 t4 := Tryz.underlying4
 a4 := Tryz.isAgg4
 z4 := Tryz.sizeOf4
 v4 := Tryz.zeroValue4
 t9 := Tryz.underlying9
 a9 := Tryz.isAgg9
 z9 := Tryz.sizeOf9
 v9 := Tryz.zeroValue9 }
open Go.RowKit Go.Lib in
theorem Tryz.strings_TrimPrefix (s p : ByteArray) (w : World) :
   Calls Tryz.prog 146 #[.string s, .string p] w fun e w' => e = .returned (.string ⟨(Lib.trimPrefix s.data.toList p.data.toList).toArray⟩) ∧ w' = w := Any.strings_TrimPrefix Tryz.lays101 s p w
def Tryz.lays197_ren : Go.Shelf.Ren := ⟨fun | 197 => 231 | 260 => 269 | n => n, fun | 9 => 9 | 21 => 21 | 3 => 3 | 4 => 4 | 5 => 5 | 105 => 342 | 119 => 393 | 0 => 0 | 46 => 233 | 139 => 396 | 138 => 395 | n => n, fun | 3 => 2 | 4 => 3 | n => n⟩
theorem Tryz.lays197 : Go.Proofs.Lays.n197 Tryz.prog Tryz.lays197_ren := {
 mixed := by kernel_rfl
 f197 := Tryz.func231.trans (congrArg some (by kernel_rfl))
 f260 := Tryz.func269.trans (congrArg some (by kernel_rfl))
 t0 := Tryz.underlying0
 a0 := Tryz.isAgg0
 z0 := Tryz.sizeOf0
 v0 := Tryz.zeroValue0
 t3 := Tryz.underlying3
 a3 := Tryz.isAgg3
 z3 := Tryz.sizeOf3
 v3 := Tryz.zeroValue3
 t4 := Tryz.underlying4
 a4 := Tryz.isAgg4
 z4 := Tryz.sizeOf4
 v4 := Tryz.zeroValue4
 t5 := Tryz.underlying5
 a5 := Tryz.isAgg5
 z5 := Tryz.sizeOf5
 v5 := Tryz.zeroValue5
 t9 := Tryz.underlying9
 a9 := Tryz.isAgg9
 z9 := Tryz.sizeOf9
 v9 := Tryz.zeroValue9
 t21 := Tryz.underlying21
 a21 := Tryz.isAgg21
 z21 := Tryz.sizeOf21
 v21 := Tryz.zeroValue21
 t46 := Tryz.underlying233
 a46 := Tryz.isAgg233
 z46 := Tryz.sizeOf233
 v46 := Tryz.zeroValue233
 t105 := Tryz.underlying342
 a105 := Tryz.isAgg342
 z105 := Tryz.sizeOf342
 v105 := Tryz.zeroValue342
 t119 := Tryz.underlying393
 a119 := Tryz.isAgg393
 z119 := Tryz.sizeOf393
 t138 := Tryz.underlying395
 a138 := Tryz.isAgg395
 z138 := Tryz.sizeOf395
 v138 := Tryz.zeroValue395
 t139 := Tryz.underlying396
 a139 := Tryz.isAgg396
 z139 := Tryz.sizeOf396
 v139 := Tryz.zeroValue396
 g3 := by kernel_rfl
 g4 := by kernel_rfl }
open Go.RowKit Go.Lib in
theorem Tryz.utf8_DecodeRuneInString (s : ByteArray) (w : World) (hT : Lib.Utf8Tabs 2 3 w) :
   Calls Tryz.prog 231 #[.string s] w fun e w' => e = .returned (.tuple #[.int .i32 (Lib.decodeGo s).1, .int .i64 (Lib.decodeGo s).2]) ∧ Below w.heap.size w w' := Any.utf8_DecodeRuneInString Tryz.lays197 s w hT
end Go.Proofs
