import Derived.Shelf.Strings.Builder1
import Derived.Shelf.Strings.Builder2
import Derived.Shelf.Strings.OnBuilder
import Derived.Shelf.Small.Strs
import Derived.Shelf.Small.Wraps
import Derived.Shelf.Strings.BuilderF
import Derived.Shelf.Strings.BuilderK
import Derived.Shelf.Strings.Builder2Cap
import Derived.Shelf.Strconv.Atoi
import Derived.Shelf.Strconv.Itoa0
import Derived.Shelf.Strconv.Itoa1
import Derived.Shelf.LaysM
import Derived.Shelf.Strconv.Itoa2
import Derived.Shelf.Strconv.Itoa3
import Derived.Shelf.Strconv.AtoiErrFast
import Derived.Shelf.Strconv.ParseIntEmpty
import Derived.Shelf.Strconv.AtoiFail
import Derived.Shelf.Strconv.Clone
import Derived.Shelf.Strconv.SyntaxError
import Derived.Shelf.LaysC
import Derived.Shelf.Strconv.ToError
import Derived.Shelf.Strconv.AtoiErr
import Derived.Shelf.Strconv.ErrVar
import Derived.Shelf.Strconv.Lower
import Derived.Shelf.Strconv.ParseUint10
import Derived.Shelf.Strconv.ParseUint10Empty
import Derived.Shelf.Strconv.ParseUint10Any
import Derived.Shelf.Strconv.ParseInt10
import Derived.Shelf.Strconv.AtoiLong
import Derived.Shelf.Strconv.AtoiInnerAll
import Derived.Shelf.Strconv.RangeError
import Derived.Shelf.Strconv.ToErrorRange
import Derived.Shelf.Strconv.AtoiAll
import Derived.Shelf.Strconv.ErrVarAll
import Derived.Shelf.Strconv.ParseUintEmpty
import Derived.Shelf.Strconv.ParseUint10b64
import Derived.Shelf.Strconv.ParseUint10b32
import Derived.Shelf.Strconv.ParseUint10b16
import Derived.Shelf.Strconv.ParseUint10b8
import Derived.Shelf.Strconv.ParseUint10At
import Derived.Shelf.Strconv.ParseInt10At64
import Derived.Shelf.Strconv.ParseInt10At32
import Derived.Shelf.Strconv.ParseInt10At16
import Derived.Shelf.Strconv.ParseInt10At8
import Derived.Shelf.Strconv.ParseInt10All
import Derived.Shelf.Strconv.ParseIntPublic10
import Derived.Shelf.Strconv.ErrVarParseInt
import Derived.Ground.MpProg
import Derived.Shelf.Pu.ParseUintPublic10
import Derived.Shelf.Pu.ErrVarParseUint
import Derived.Shelf.Strings.Search1
import Derived.Shelf.Strings.Search2
import Derived.Shelf.Strings.Search3
import Derived.Shelf.Strings.Cut
import Derived.Shelf.Strings.Count
import Derived.Shelf.Strings.Shaped
import Derived.Shelf.Strings.Prefix
import Derived.Shelf.Strings.Split
import Derived.Shelf.Strings.SplitShaped
import Derived.Shelf.Unicode.Decode
import Derived.Shelf.Strings.RuneCount
import Derived.Shelf.Strings.Explode
import Derived.Shelf.Bits.Mul64
import Derived.Shelf.Unicode.DecodeSlow
import Derived.Shelf.Unicode.DecodeAny
import Derived.Shelf.Strings.BuilderCap
import Derived.Test.YtoonaddcfakamaaGreatDoorProg
namespace Go.Proofs
open Go.Shelf Tryz
def Tryz.lays283_ren:Go.Shelf.Ren:=⟨fun | 283=>341 | n=>n,fun | 3=>3 | 9=>9 | 4=>4 | n=>n,fun | n=>n⟩
theorem Tryz.lays283:Go.Proofs.Lays.n283 Tryz.prog Tryz.lays283_ren:={
 mixed:=by kernel_rfl
 f283:=func341.trans (congrArg some (by kernel_rfl))
 t3:=underlying3
 a3:=isAgg3
 z3:=sizeOf3
 v3:=zeroValue3
 t4:=underlying4
 a4:=isAgg4
 z4:=sizeOf4
 v4:=zeroValue4
 t9:=underlying9
 a9:=isAgg9
 z9:=sizeOf9
 v9:=zeroValue9 }
open Go.Lib in
theorem Tryz.internal_strconv_small (i:Nat) (h:i<100) (w:World) :
  Calls Tryz.prog 341 #[.int .i64 i] w fun e w'=>e=.returned (.string ⟨(Lib.decDigits i).toArray⟩)∧w'=w:=Any.internal_strconv_small Tryz.lays283 i h w
def Tryz.laysM284_ren:Go.Shelf.Ren:=⟨fun | 284=>342 | 129=>364 | 317=>363 | 318=>365 | n=>n,fun | 53=>197 | 3=>3 | 212=>391 | 0=>0 | 4=>4 | 46=>150 | 5=>5 | 9=>9 | n=>n,fun | 17=>3 | n=>n⟩
theorem Tryz.laysM284:Go.Proofs.LaysM.n284 Tryz.prog Tryz.laysM284_ren:={
 mixed:=by kernel_rfl
 f129:=func364.trans (congrArg some (by kernel_rfl))
 f284:=func342.trans (congrArg some (by kernel_rfl))
 f317:=func363.trans (congrArg some (by kernel_rfl))
 f318:=func365.trans (congrArg some (by kernel_rfl))
 t0:=underlying0
 a0:=isAgg0
 z0:=sizeOf0
 v0:=zeroValue0
 t3:=underlying3
 a3:=isAgg3
 z3:=sizeOf3
 v3:=zeroValue3
 t4:=underlying4
 a4:=isAgg4
 z4:=sizeOf4
 v4:=zeroValue4
 t5:=underlying5
 a5:=isAgg5
 z5:=sizeOf5
 v5:=zeroValue5
 t9:=underlying9
 a9:=isAgg9
 z9:=sizeOf9
 v9:=zeroValue9
 t46:=underlying150
 a46:=isAgg150
 z46:=sizeOf150
 v46:=zeroValue150
 t53:=underlying197
 a53:=isAgg197
 z53:=sizeOf197
 v53:=zeroValue197
 t212:=underlying391
 a212:=isAgg391
 z212:=sizeOf391
 v212:=zeroValue391
 g17:=by kernel_rfl
 i0:=by kernel_rfl
 i3:=by kernel_rfl
 i4:=by kernel_rfl
 i5:=by kernel_rfl
 i9:=by kernel_rfl
 i46:=by kernel_rfl
 i53:=by kernel_rfl
 i212:=by kernel_rfl
 m17:=by kernel_rfl }
open Go.Lib in
theorem Tryz.internal_strconv_numDigits (u : Nat) (h1 : 1 ≤ u) (h2 : u < 18446744073709551616) (w : World) (htab : Lib.TabIs Tryz.prog w "internal/strconv.uint64pow10" .u64 Lib.pow10Tab) :
  Calls Tryz.prog 342 #[.int .u64 u] w fun e w'=>e=.returned (.int .i64 (Lib.nDigits u))∧w'=w:=Any.internal_strconv_numDigits Tryz.laysM284 u h1 h2 w htab
def Tryz.lays285_ren:Go.Shelf.Ren:=⟨fun | 285=>343 | n=>n,fun | 37=>107 | 53=>197 | 3=>3 | 4=>4 | 51=>322 | 9=>9 | 5=>5 | 0=>0 | n=>n,fun | n=>n⟩
theorem Tryz.lays285:Go.Proofs.Lays.n285 Tryz.prog Tryz.lays285_ren:={
 mixed:=by kernel_rfl
 f285:=func343.trans (congrArg some (by kernel_rfl))
 t0:=underlying0
 a0:=isAgg0
 z0:=sizeOf0
 v0:=zeroValue0
 t3:=underlying3
 a3:=isAgg3
 z3:=sizeOf3
 v3:=zeroValue3
 t4:=underlying4
 a4:=isAgg4
 z4:=sizeOf4
 v4:=zeroValue4
 t5:=underlying5
 a5:=isAgg5
 z5:=sizeOf5
 v5:=zeroValue5
 t9:=underlying9
 a9:=isAgg9
 z9:=sizeOf9
 v9:=zeroValue9
 t37:=underlying107
 a37:=isAgg107
 z37:=sizeOf107
 v37:=zeroValue107
 t51:=underlying322
 a51:=isAgg322
 z51:=sizeOf322
 v51:=zeroValue322
 t53:=underlying197
 a53:=isAgg197
 z53:=sizeOf197
 v53:=zeroValue197 }
open Go.RowKit Go.Sort Go.Lib in
theorem Tryz.internal_strconv_formatBase10 (blk off cap:Nat) (u:Nat) (d:Array UInt8) (w:World) (hH:Holds (fun (b:UInt8)=>Value.int .u8 (b.toNat:Int)) w blk off d) (hu:u<10^d.size) (hu64:u<18446744073709551616) (hsz:d.size<4611686018427387904) :
  Calls Tryz.prog 343 #[.slice (some ⟨blk,off,none⟩) d.size cap,.int .u64 u] w fun e w' =>
   e=.returned (.tuple #[])∧∃ (n v':Nat) (dk:Array UInt8),w'=(putRow (fun (b:UInt8)=>Value.int .u8 (b.toNat:Int)) w blk off dk).drewN n∧FmtInv d.size u 0 v' dk:=Any.internal_strconv_formatBase10 Tryz.lays285 blk off cap u d w hH hu hu64 hsz
def Tryz.laysM171_ren:Go.Shelf.Ren:=⟨fun | 171=>146 | 243=>232 | 246=>302 | 283=>341 | 284=>342 | 285=>343 | 286=>344 | 129=>364 | 317=>363 | 318=>365 | 319=>366 | 320=>367 | 337=>372 | 338=>373 | n=>n,fun | 3=>3 | 9=>9 | 2=>2 | 4=>4 | 171=>371 | 0=>0 | 53=>197 | 37=>107 | 5=>5 | 173=>373 | 212=>391 | 51=>322 | 20=>20 | 213=>392 | 46=>150 | 232=>401 | 233=>402 | n=>n,fun | 17=>3 | 18=>6 | 19=>7 | n=>n⟩
theorem Tryz.laysM171:Go.Proofs.LaysM.n171 Tryz.prog Tryz.laysM171_ren:={
 mixed:=by kernel_rfl
 f129:=func364.trans (congrArg some (by kernel_rfl))
 f171:=func146.trans (congrArg some (by kernel_rfl))
 f243:=func232.trans (congrArg some (by kernel_rfl))
 f246:=func302.trans (congrArg some (by kernel_rfl))
 f283:=func341.trans (congrArg some (by kernel_rfl))
 f284:=func342.trans (congrArg some (by kernel_rfl))
 f285:=func343.trans (congrArg some (by kernel_rfl))
 f286:=func344.trans (congrArg some (by kernel_rfl))
 f317:=func363.trans (congrArg some (by kernel_rfl))
 f318:=func365.trans (congrArg some (by kernel_rfl))
 f319:=func366.trans (congrArg some (by kernel_rfl))
 f320:=func367.trans (congrArg some (by kernel_rfl))
 f337:=func372.trans (congrArg some (by kernel_rfl))
 f338:=func373.trans (congrArg some (by kernel_rfl))
 t0:=underlying0
 a0:=isAgg0
 z0:=sizeOf0
 v0:=zeroValue0
 t2:=underlying2
 a2:=isAgg2
 z2:=sizeOf2
 v2:=zeroValue2
 t3:=underlying3
 a3:=isAgg3
 z3:=sizeOf3
 v3:=zeroValue3
 t4:=underlying4
 a4:=isAgg4
 z4:=sizeOf4
 v4:=zeroValue4
 t5:=underlying5
 a5:=isAgg5
 z5:=sizeOf5
 v5:=zeroValue5
 t9:=underlying9
 a9:=isAgg9
 z9:=sizeOf9
 v9:=zeroValue9
 t20:=underlying20
 a20:=isAgg20
 z20:=sizeOf20
 v20:=zeroValue20
 t37:=underlying107
 a37:=isAgg107
 z37:=sizeOf107
 v37:=zeroValue107
 t46:=underlying150
 a46:=isAgg150
 z46:=sizeOf150
 v46:=zeroValue150
 t51:=underlying322
 a51:=isAgg322
 z51:=sizeOf322
 v51:=zeroValue322
 t53:=underlying197
 a53:=isAgg197
 z53:=sizeOf197
 v53:=zeroValue197
 t171:=underlying371
 a171:=isAgg371
 z171:=sizeOf371
 v171:=zeroValue371
 t173:=underlying373
 a173:=isAgg373
 z173:=sizeOf373
 v173:=zeroValue373
 t212:=underlying391
 a212:=isAgg391
 z212:=sizeOf391
 v212:=zeroValue391
 t213:=underlying392
 a213:=isAgg392
 z213:=sizeOf392
 t232:=underlying401
 a232:=isAgg401
 z232:=sizeOf401
 v232:=zeroValue401
 t233:=underlying402
 a233:=isAgg402
 z233:=sizeOf402
 v233:=zeroValue402
 g17:=by kernel_rfl
 g18:=by kernel_rfl
 g19:=by kernel_rfl
 i0:=by kernel_rfl
 i2:=by kernel_rfl
 i3:=by kernel_rfl
 i4:=by kernel_rfl
 i5:=by kernel_rfl
 i9:=by kernel_rfl
 i20:=by kernel_rfl
 i37:=by kernel_rfl
 i46:=by kernel_rfl
 i51:=by kernel_rfl
 i53:=by kernel_rfl
 i171:=by kernel_rfl
 i173:=by kernel_rfl
 i212:=by kernel_rfl
 i232:=by kernel_rfl
 i233:=by kernel_rfl
 m17:=by kernel_rfl
 m18:=by kernel_rfl
 m19:=by kernel_rfl }
open Go.RowKit Go.Sort Go.Lib in
theorem Tryz.strconv_Itoa (n : Int) (h0 : -9223372036854775808 ≤ n) (h1 : n ≤ 9223372036854775807) (w : World) (htab : Lib.TabIs Tryz.prog w "internal/strconv.uint64pow10" .u64 Lib.pow10Tab) :
  Calls Tryz.prog 146 #[.int .i64 n] w fun e w'=>e=.returned (.string ⟨(Lib.itoa n).toArray⟩)∧∃ k os,w'=grow (w.drewN k) os:=Any.strconv_Itoa Tryz.laysM171 n h0 h1 w htab
def Tryz.laysC172_ren:Go.Shelf.Ren:=⟨fun | 172=>175 | 244=>250 | 245=>251 | 247=>264 | 279=>316 | 280=>317 | 281=>318 | 282=>319 | 287=>331 | 316=>353 | 171=>146 | 205=>354 | 321=>359 | 322=>360 | 243=>232 | 246=>302 | 283=>341 | 284=>342 | 285=>343 | 286=>344 | 129=>364 | 317=>363 | 318=>365 | 319=>366 | 320=>367 | 337=>372 | 338=>373 | n=>n,fun | 9=>9 | 3=>3 | 75=>222 | 76=>223 | 4=>4 | 5=>5 | 167=>349 | 37=>107 | 0=>0 | 85=>232 | 2=>2 | 168=>350 | 53=>197 | 175=>344 | 46=>150 | 210=>380 | 127=>353 | 145=>396 | 143=>394 | 21=>21 | 171=>371 | 173=>373 | 212=>391 | 51=>322 | 20=>20 | 213=>392 | 232=>401 | 233=>402 | 80=>295 | n=>n,fun | 15=>1 | 16=>2 | 17=>3 | 18=>6 | 19=>7 | n=>n⟩
theorem Tryz.laysC172:Go.Proofs.LaysC.n172 Tryz.prog Tryz.laysC172_ren:={
 mixed:=by kernel_rfl
 f129:=func364.trans (congrArg some (by kernel_rfl))
 f171:=func146.trans (congrArg some (by kernel_rfl))
 f172:=func175.trans (congrArg some (by kernel_rfl))
 f205:=func354.trans (congrArg some (by kernel_rfl))
 f243:=func232.trans (congrArg some (by kernel_rfl))
 f244:=func250.trans (congrArg some (by kernel_rfl))
 f245:=func251.trans (congrArg some (by kernel_rfl))
 f246:=func302.trans (congrArg some (by kernel_rfl))
 f247:=func264.trans (congrArg some (by kernel_rfl))
 f279:=func316.trans (congrArg some (by kernel_rfl))
 f280:=func317.trans (congrArg some (by kernel_rfl))
 f281:=func318.trans (congrArg some (by kernel_rfl))
 f282:=func319.trans (congrArg some (by kernel_rfl))
 f283:=func341.trans (congrArg some (by kernel_rfl))
 f284:=func342.trans (congrArg some (by kernel_rfl))
 f285:=func343.trans (congrArg some (by kernel_rfl))
 f286:=func344.trans (congrArg some (by kernel_rfl))
 f287:=func331.trans (congrArg some (by kernel_rfl))
 f316:=func353.trans (congrArg some (by kernel_rfl))
 f317:=func363.trans (congrArg some (by kernel_rfl))
 f318:=func365.trans (congrArg some (by kernel_rfl))
 f319:=func366.trans (congrArg some (by kernel_rfl))
 f320:=func367.trans (congrArg some (by kernel_rfl))
 f321:=func359.trans (congrArg some (by kernel_rfl))
 f322:=func360.trans (congrArg some (by kernel_rfl))
 f337:=func372.trans (congrArg some (by kernel_rfl))
 f338:=func373.trans (congrArg some (by kernel_rfl))
 t0:=underlying0
 a0:=isAgg0
 z0:=sizeOf0
 v0:=zeroValue0
 t2:=underlying2
 a2:=isAgg2
 z2:=sizeOf2
 v2:=zeroValue2
 t3:=underlying3
 a3:=isAgg3
 z3:=sizeOf3
 v3:=zeroValue3
 t4:=underlying4
 a4:=isAgg4
 z4:=sizeOf4
 v4:=zeroValue4
 t5:=underlying5
 a5:=isAgg5
 z5:=sizeOf5
 v5:=zeroValue5
 t9:=underlying9
 a9:=isAgg9
 z9:=sizeOf9
 v9:=zeroValue9
 t20:=underlying20
 a20:=isAgg20
 z20:=sizeOf20
 v20:=zeroValue20
 t21:=underlying21
 a21:=isAgg21
 z21:=sizeOf21
 v21:=zeroValue21
 t37:=underlying107
 a37:=isAgg107
 z37:=sizeOf107
 v37:=zeroValue107
 t46:=underlying150
 a46:=isAgg150
 z46:=sizeOf150
 v46:=zeroValue150
 t51:=underlying322
 a51:=isAgg322
 z51:=sizeOf322
 v51:=zeroValue322
 t53:=underlying197
 a53:=isAgg197
 z53:=sizeOf197
 v53:=zeroValue197
 t75:=underlying222
 a75:=isAgg222
 z75:=sizeOf222
 v75:=zeroValue222
 t76:=underlying223
 a76:=isAgg223
 z76:=sizeOf223
 v76:=zeroValue223
 t85:=underlying232
 a85:=isAgg232
 z85:=sizeOf232
 v85:=zeroValue232
 t127:=underlying353
 a127:=isAgg353
 z127:=sizeOf353
 v127:=zeroValue353
 t143:=underlying394
 a143:=isAgg394
 z143:=sizeOf394
 v143:=zeroValue394
 t145:=underlying396
 a145:=isAgg396
 z145:=sizeOf396
 v145:=zeroValue396
 t167:=underlying349
 a167:=isAgg349
 z167:=sizeOf349
 v167:=zeroValue349
 t168:=underlying350
 a168:=isAgg350
 z168:=sizeOf350
 v168:=zeroValue350
 t171:=underlying371
 a171:=isAgg371
 z171:=sizeOf371
 v171:=zeroValue371
 t173:=underlying373
 a173:=isAgg373
 z173:=sizeOf373
 v173:=zeroValue373
 t175:=underlying344
 a175:=isAgg344
 z175:=sizeOf344
 v175:=zeroValue344
 t210:=underlying380
 a210:=isAgg380
 z210:=sizeOf380
 v210:=zeroValue380
 t212:=underlying391
 a212:=isAgg391
 z212:=sizeOf391
 v212:=zeroValue391
 t213:=underlying392
 a213:=isAgg392
 z213:=sizeOf392
 t232:=underlying401
 a232:=isAgg401
 z232:=sizeOf401
 v232:=zeroValue401
 t233:=underlying402
 a233:=isAgg402
 z233:=sizeOf402
 v233:=zeroValue402
 g15:=by kernel_rfl
 g16:=by kernel_rfl
 g17:=by kernel_rfl
 g18:=by kernel_rfl
 g19:=by kernel_rfl
 t80:=underlying295
 a80:=isAgg295
 z80:=sizeOf295
 v80:=zeroValue295
 i0:=by kernel_rfl
 i2:=by kernel_rfl
 i3:=by kernel_rfl
 i4:=by kernel_rfl
 i5:=by kernel_rfl
 i9:=by kernel_rfl
 i20:=by kernel_rfl
 i21:=by kernel_rfl
 i37:=by kernel_rfl
 i46:=by kernel_rfl
 i51:=by kernel_rfl
 i53:=by kernel_rfl
 i75:=by kernel_rfl
 i76:=by kernel_rfl
 i80:=by kernel_rfl
 i85:=by kernel_rfl
 i127:=by kernel_rfl
 i143:=by kernel_rfl
 i145:=by kernel_rfl
 i167:=by kernel_rfl
 i168:=by kernel_rfl
 i171:=by kernel_rfl
 i173:=by kernel_rfl
 i175:=by kernel_rfl
 i210:=by kernel_rfl
 i212:=by kernel_rfl
 i232:=by kernel_rfl
 i233:=by kernel_rfl
 m15:=by kernel_rfl
 m16:=by kernel_rfl
 m17:=by kernel_rfl
 m18:=by kernel_rfl
 m19:=by kernel_rfl
 c0:=by kernel_rfl
 c2:=by kernel_rfl
 c3:=by kernel_rfl
 c4:=by kernel_rfl
 c5:=by kernel_rfl
 c9:=by kernel_rfl
 c20:=by kernel_rfl
 c21:=by kernel_rfl
 c37:=by kernel_rfl
 c46:=by kernel_rfl
 c51:=by kernel_rfl
 c53:=by kernel_rfl
 c75:=by kernel_rfl
 c76:=by kernel_rfl
 c80:=by kernel_rfl
 c85:=by kernel_rfl
 c127:=by kernel_rfl
 c143:=by kernel_rfl
 c145:=by kernel_rfl
 c167:=by kernel_rfl
 c168:=by kernel_rfl
 c171:=by kernel_rfl
 c173:=by kernel_rfl
 c175:=by kernel_rfl
 c210:=by kernel_rfl
 c212:=by kernel_rfl
 c213:=by kernel_rfl
 c232:=by kernel_rfl
 c233:=by kernel_rfl }
open Go.RowKit in
theorem Tryz.strconv_Atoi_ok (s:ByteArray) (hmax:s.size≤9223372036854775806) (v:Int) (h:Lib.atoiAll s.data.toList=.ok v) (w:World) :
  Calls Tryz.prog 175 #[.string s] w fun e w'=>e=.returned (.tuple #[.int .i64 v,.nilIface])∧(w'=w∨∃ t,w'=Lib.bytesWorld w 5 t):=Any.strconv_Atoi_ok Tryz.laysC172 s hmax v h w
def Tryz.laysC174_ren:Go.Shelf.Ren:=⟨fun | 174=>190 | 247=>264 | 245=>251 | 287=>331 | 279=>316 | 280=>317 | 281=>318 | 282=>319 | 321=>359 | 322=>360 | 316=>353 | 171=>146 | 205=>354 | 243=>232 | 246=>302 | 283=>341 | 284=>342 | 285=>343 | 286=>344 | 129=>364 | 317=>363 | 318=>365 | 319=>366 | 320=>367 | 337=>372 | 338=>373 | n=>n,fun | 9=>9 | 3=>3 | 2=>2 | 75=>222 | 85=>232 | 4=>4 | 167=>349 | 5=>5 | 53=>197 | 175=>344 | 46=>150 | 168=>350 | 37=>107 | 0=>0 | 210=>380 | 21=>21 | 127=>353 | 145=>396 | 143=>394 | 171=>371 | 173=>373 | 212=>391 | 51=>322 | 20=>20 | 213=>392 | 232=>401 | 233=>402 | 80=>295 | n=>n,fun | 15=>1 | 16=>2 | 17=>3 | 18=>6 | 19=>7 | n=>n⟩
theorem Tryz.laysC174:Go.Proofs.LaysC.n174 Tryz.prog Tryz.laysC174_ren:={
 mixed:=by kernel_rfl
 f129:=func364.trans (congrArg some (by kernel_rfl))
 f171:=func146.trans (congrArg some (by kernel_rfl))
 f174:=func190.trans (congrArg some (by kernel_rfl))
 f205:=func354.trans (congrArg some (by kernel_rfl))
 f243:=func232.trans (congrArg some (by kernel_rfl))
 f245:=func251.trans (congrArg some (by kernel_rfl))
 f246:=func302.trans (congrArg some (by kernel_rfl))
 f247:=func264.trans (congrArg some (by kernel_rfl))
 f279:=func316.trans (congrArg some (by kernel_rfl))
 f280:=func317.trans (congrArg some (by kernel_rfl))
 f281:=func318.trans (congrArg some (by kernel_rfl))
 f282:=func319.trans (congrArg some (by kernel_rfl))
 f283:=func341.trans (congrArg some (by kernel_rfl))
 f284:=func342.trans (congrArg some (by kernel_rfl))
 f285:=func343.trans (congrArg some (by kernel_rfl))
 f286:=func344.trans (congrArg some (by kernel_rfl))
 f287:=func331.trans (congrArg some (by kernel_rfl))
 f316:=func353.trans (congrArg some (by kernel_rfl))
 f317:=func363.trans (congrArg some (by kernel_rfl))
 f318:=func365.trans (congrArg some (by kernel_rfl))
 f319:=func366.trans (congrArg some (by kernel_rfl))
 f320:=func367.trans (congrArg some (by kernel_rfl))
 f321:=func359.trans (congrArg some (by kernel_rfl))
 f322:=func360.trans (congrArg some (by kernel_rfl))
 f337:=func372.trans (congrArg some (by kernel_rfl))
 f338:=func373.trans (congrArg some (by kernel_rfl))
 t0:=underlying0
 a0:=isAgg0
 z0:=sizeOf0
 v0:=zeroValue0
 t2:=underlying2
 a2:=isAgg2
 z2:=sizeOf2
 v2:=zeroValue2
 t3:=underlying3
 a3:=isAgg3
 z3:=sizeOf3
 v3:=zeroValue3
 t4:=underlying4
 a4:=isAgg4
 z4:=sizeOf4
 v4:=zeroValue4
 t5:=underlying5
 a5:=isAgg5
 z5:=sizeOf5
 v5:=zeroValue5
 t9:=underlying9
 a9:=isAgg9
 z9:=sizeOf9
 v9:=zeroValue9
 t20:=underlying20
 a20:=isAgg20
 z20:=sizeOf20
 v20:=zeroValue20
 t21:=underlying21
 a21:=isAgg21
 z21:=sizeOf21
 v21:=zeroValue21
 t37:=underlying107
 a37:=isAgg107
 z37:=sizeOf107
 v37:=zeroValue107
 t46:=underlying150
 a46:=isAgg150
 z46:=sizeOf150
 v46:=zeroValue150
 t51:=underlying322
 a51:=isAgg322
 z51:=sizeOf322
 v51:=zeroValue322
 t53:=underlying197
 a53:=isAgg197
 z53:=sizeOf197
 v53:=zeroValue197
 t75:=underlying222
 a75:=isAgg222
 z75:=sizeOf222
 v75:=zeroValue222
 t85:=underlying232
 a85:=isAgg232
 z85:=sizeOf232
 v85:=zeroValue232
 t127:=underlying353
 a127:=isAgg353
 z127:=sizeOf353
 v127:=zeroValue353
 t143:=underlying394
 a143:=isAgg394
 z143:=sizeOf394
 v143:=zeroValue394
 t145:=underlying396
 a145:=isAgg396
 z145:=sizeOf396
 v145:=zeroValue396
 t167:=underlying349
 a167:=isAgg349
 z167:=sizeOf349
 v167:=zeroValue349
 t168:=underlying350
 a168:=isAgg350
 z168:=sizeOf350
 v168:=zeroValue350
 t171:=underlying371
 a171:=isAgg371
 z171:=sizeOf371
 v171:=zeroValue371
 t173:=underlying373
 a173:=isAgg373
 z173:=sizeOf373
 v173:=zeroValue373
 t175:=underlying344
 a175:=isAgg344
 z175:=sizeOf344
 v175:=zeroValue344
 t210:=underlying380
 a210:=isAgg380
 z210:=sizeOf380
 v210:=zeroValue380
 t212:=underlying391
 a212:=isAgg391
 z212:=sizeOf391
 v212:=zeroValue391
 t213:=underlying392
 a213:=isAgg392
 z213:=sizeOf392
 t232:=underlying401
 a232:=isAgg401
 z232:=sizeOf401
 v232:=zeroValue401
 t233:=underlying402
 a233:=isAgg402
 z233:=sizeOf402
 v233:=zeroValue402
 g15:=by kernel_rfl
 g16:=by kernel_rfl
 g17:=by kernel_rfl
 g18:=by kernel_rfl
 g19:=by kernel_rfl
 t80:=underlying295
 a80:=isAgg295
 z80:=sizeOf295
 v80:=zeroValue295
 i0:=by kernel_rfl
 i2:=by kernel_rfl
 i3:=by kernel_rfl
 i4:=by kernel_rfl
 i5:=by kernel_rfl
 i9:=by kernel_rfl
 i20:=by kernel_rfl
 i21:=by kernel_rfl
 i37:=by kernel_rfl
 i46:=by kernel_rfl
 i51:=by kernel_rfl
 i53:=by kernel_rfl
 i75:=by kernel_rfl
 i80:=by kernel_rfl
 i85:=by kernel_rfl
 i127:=by kernel_rfl
 i143:=by kernel_rfl
 i145:=by kernel_rfl
 i167:=by kernel_rfl
 i168:=by kernel_rfl
 i171:=by kernel_rfl
 i173:=by kernel_rfl
 i175:=by kernel_rfl
 i210:=by kernel_rfl
 i212:=by kernel_rfl
 i232:=by kernel_rfl
 i233:=by kernel_rfl
 m15:=by kernel_rfl
 m16:=by kernel_rfl
 m17:=by kernel_rfl
 m18:=by kernel_rfl
 m19:=by kernel_rfl
 c0:=by kernel_rfl
 c2:=by kernel_rfl
 c3:=by kernel_rfl
 c4:=by kernel_rfl
 c5:=by kernel_rfl
 c9:=by kernel_rfl
 c20:=by kernel_rfl
 c21:=by kernel_rfl
 c37:=by kernel_rfl
 c46:=by kernel_rfl
 c51:=by kernel_rfl
 c53:=by kernel_rfl
 c75:=by kernel_rfl
 c80:=by kernel_rfl
 c85:=by kernel_rfl
 c127:=by kernel_rfl
 c143:=by kernel_rfl
 c145:=by kernel_rfl
 c167:=by kernel_rfl
 c168:=by kernel_rfl
 c171:=by kernel_rfl
 c173:=by kernel_rfl
 c175:=by kernel_rfl
 c210:=by kernel_rfl
 c212:=by kernel_rfl
 c213:=by kernel_rfl
 c232:=by kernel_rfl
 c233:=by kernel_rfl }
open Go.RowKit in
theorem Tryz.strconv_ParseInt_10_at64_ok (s:ByteArray) (hmax:s.size≤9223372036854775806) (v:Int) (h:Lib.parseIntB 64 s.data.toList=.ok v) (w:World) :
  Calls Tryz.prog 190 #[.string s,.int .i64 10,.int .i64 64] w fun e w'=>e=.returned (.tuple #[.int .i64 v,.nilIface])∧(w'=w∨∃ t,w'=Lib.bytesWorld w 5 t):=Any.strconv_ParseInt_10_at64_ok Tryz.laysC174 s hmax v h w
open Go.RowKit in
theorem Tryz.strconv_ParseInt_10_at64_range (s:ByteArray) (hlim:s.size≤281474976710656) (h:Lib.parseIntB 64 s.data.toList=.range) (ev:Value) (w:World) (hv:w.cell? ⟨2,0,none⟩=some ev) (hev:ev=.nilIface∨∃ te pe,ev=.iface te pe) :
  Calls Tryz.prog 190 #[.string s,.int .i64 10,.int .i64 64] w fun e w'=>∃ N,e=.returned (.tuple #[.int .i64 (Lib.intSat 64 s.data.toList),.iface 350 (.pointer (some ⟨N,0,none⟩))])∧w.heap.size≤N∧w'.heap[N]?=some (.cells #[.string ⟨#[80,97,114,115,101,73,110,116]⟩,.string s,ev] 380 (0,0))∧Below w.heap.size w w':=Any.strconv_ParseInt_10_at64_range Tryz.laysC174 s hlim h ev w hv hev
open Go.RowKit in
theorem Tryz.strconv_ParseInt_10_at64_range_var (s : ByteArray) (hlim : s.size ≤ 281474976710656) (h : Lib.parseIntB 64 s.data.toList = .range) (tp : TypeId) (p : Value) (w : World) (hvar : w.var? Tryz.prog "strconv.ErrRange" = some #[.iface tp p]) :
  Calls Tryz.prog 190 #[.string s,.int .i64 10,.int .i64 64] w fun e w'=>∃ N,e=.returned (.tuple #[.int .i64 (Lib.intSat 64 s.data.toList),.iface 350 (.pointer (some ⟨N,0,none⟩))])∧w.heap.size≤N∧w'.heap[N]?=some (.cells #[.string ⟨#[80,97,114,115,101,73,110,116]⟩,.string s,.iface tp p] 380 (0,0))∧Below w.heap.size w w':=Any.strconv_ParseInt_10_at64_range_var Tryz.laysC174 s hlim h tp p w hvar
def Tryz.laysPu14_ren:Go.Shelf.Ren:=⟨fun | 14=>304 | 16=>331 | 17=>251 | 19=>359 | 20=>360 | 21=>316 | 22=>317 | 23=>318 | 24=>319 | 25=>353 | 27=>146 | 26=>354 | 28=>232 | 29=>302 | 30=>341 | 31=>342 | 32=>343 | 33=>344 | 35=>364 | 34=>363 | 36=>365 | 37=>366 | 38=>367 | 39=>372 | 40=>373 | n=>n,fun | 9=>9 | 3=>3 | 22=>197 | 24=>222 | 25=>344 | 4=>4 | 34=>349 | 5=>5 | 36=>150 | 37=>107 | 0=>0 | 39=>350 | 21=>21 | 44=>380 | 47=>353 | 50=>396 | 48=>394 | 2=>2 | 52=>371 | 55=>373 | 59=>391 | 60=>322 | 20=>20 | 61=>392 | 65=>401 | 66=>402 | 67=>295 | n=>n,fun | 0=>1 | 1=>2 | 2=>3 | 3=>6 | 4=>7 | n=>n⟩
theorem Tryz.laysPu14:Go.Proofs.LaysPu.n14 Tryz.prog Tryz.laysPu14_ren:={
 mixed:=by kernel_rfl
 f14:=func304.trans (congrArg some (by kernel_rfl))
 f16:=func331.trans (congrArg some (by kernel_rfl))
 f17:=func251.trans (congrArg some (by kernel_rfl))
 f19:=func359.trans (congrArg some (by kernel_rfl))
 f20:=func360.trans (congrArg some (by kernel_rfl))
 f21:=func316.trans (congrArg some (by kernel_rfl))
 f22:=func317.trans (congrArg some (by kernel_rfl))
 f23:=func318.trans (congrArg some (by kernel_rfl))
 f24:=func319.trans (congrArg some (by kernel_rfl))
 f25:=func353.trans (congrArg some (by kernel_rfl))
 f26:=func354.trans (congrArg some (by kernel_rfl))
 f27:=func146.trans (congrArg some (by kernel_rfl))
 f28:=func232.trans (congrArg some (by kernel_rfl))
 f29:=func302.trans (congrArg some (by kernel_rfl))
 f30:=func341.trans (congrArg some (by kernel_rfl))
 f31:=func342.trans (congrArg some (by kernel_rfl))
 f32:=func343.trans (congrArg some (by kernel_rfl))
 f33:=func344.trans (congrArg some (by kernel_rfl))
 f34:=func363.trans (congrArg some (by kernel_rfl))
 f35:=func364.trans (congrArg some (by kernel_rfl))
 f36:=func365.trans (congrArg some (by kernel_rfl))
 f37:=func366.trans (congrArg some (by kernel_rfl))
 f38:=func367.trans (congrArg some (by kernel_rfl))
 f39:=func372.trans (congrArg some (by kernel_rfl))
 f40:=func373.trans (congrArg some (by kernel_rfl))
 t0:=underlying0
 a0:=isAgg0
 z0:=sizeOf0
 v0:=zeroValue0
 i0:=by kernel_rfl
 t2:=underlying2
 a2:=isAgg2
 z2:=sizeOf2
 v2:=zeroValue2
 i2:=by kernel_rfl
 t3:=underlying3
 a3:=isAgg3
 z3:=sizeOf3
 v3:=zeroValue3
 i3:=by kernel_rfl
 t4:=underlying4
 a4:=isAgg4
 z4:=sizeOf4
 v4:=zeroValue4
 i4:=by kernel_rfl
 t5:=underlying5
 a5:=isAgg5
 z5:=sizeOf5
 v5:=zeroValue5
 i5:=by kernel_rfl
 t9:=underlying9
 a9:=isAgg9
 z9:=sizeOf9
 v9:=zeroValue9
 i9:=by kernel_rfl
 t20:=underlying20
 a20:=isAgg20
 z20:=sizeOf20
 v20:=zeroValue20
 i20:=by kernel_rfl
 t21:=underlying21
 a21:=isAgg21
 z21:=sizeOf21
 v21:=zeroValue21
 i21:=by kernel_rfl
 t22:=underlying197
 a22:=isAgg197
 z22:=sizeOf197
 v22:=zeroValue197
 i22:=by kernel_rfl
 t24:=underlying222
 a24:=isAgg222
 z24:=sizeOf222
 v24:=zeroValue222
 i24:=by kernel_rfl
 t25:=underlying344
 a25:=isAgg344
 z25:=sizeOf344
 v25:=zeroValue344
 i25:=by kernel_rfl
 t34:=underlying349
 a34:=isAgg349
 z34:=sizeOf349
 v34:=zeroValue349
 i34:=by kernel_rfl
 c34:=by kernel_rfl
 t36:=underlying150
 a36:=isAgg150
 z36:=sizeOf150
 v36:=zeroValue150
 i36:=by kernel_rfl
 t37:=underlying107
 a37:=isAgg107
 z37:=sizeOf107
 v37:=zeroValue107
 i37:=by kernel_rfl
 t39:=underlying350
 a39:=isAgg350
 z39:=sizeOf350
 v39:=zeroValue350
 i39:=by kernel_rfl
 t44:=underlying380
 a44:=isAgg380
 z44:=sizeOf380
 v44:=zeroValue380
 i44:=by kernel_rfl
 t47:=underlying353
 a47:=isAgg353
 z47:=sizeOf353
 v47:=zeroValue353
 i47:=by kernel_rfl
 t48:=underlying394
 a48:=isAgg394
 z48:=sizeOf394
 v48:=zeroValue394
 i48:=by kernel_rfl
 t50:=underlying396
 a50:=isAgg396
 z50:=sizeOf396
 v50:=zeroValue396
 i50:=by kernel_rfl
 t52:=underlying371
 a52:=isAgg371
 z52:=sizeOf371
 v52:=zeroValue371
 i52:=by kernel_rfl
 t55:=underlying373
 a55:=isAgg373
 z55:=sizeOf373
 v55:=zeroValue373
 i55:=by kernel_rfl
 t59:=underlying391
 a59:=isAgg391
 z59:=sizeOf391
 v59:=zeroValue391
 i59:=by kernel_rfl
 t60:=underlying322
 a60:=isAgg322
 z60:=sizeOf322
 v60:=zeroValue322
 i60:=by kernel_rfl
 t61:=underlying392
 a61:=isAgg392
 z61:=sizeOf392
 t65:=underlying401
 a65:=isAgg401
 z65:=sizeOf401
 v65:=zeroValue401
 i65:=by kernel_rfl
 t66:=underlying402
 a66:=isAgg402
 z66:=sizeOf402
 v66:=zeroValue402
 i66:=by kernel_rfl
 t67:=underlying295
 a67:=isAgg295
 z67:=sizeOf295
 v67:=zeroValue295
 i67:=by kernel_rfl
 g0:=by kernel_rfl
 m0:=by kernel_rfl
 g1:=by kernel_rfl
 m1:=by kernel_rfl
 g2:=by kernel_rfl
 m2:=by kernel_rfl
 g3:=by kernel_rfl
 m3:=by kernel_rfl
 g4:=by kernel_rfl
 m4:=by kernel_rfl }
open Go.RowKit in
theorem Tryz.strconv_ParseUint_10_at64_ok (s:ByteArray) (hmax:s.size≤9223372036854775806) (u:Nat) (h:Lib.parseUintB 64 s.data.toList=.ok u) (w:World) :
  Calls Tryz.prog 304 #[.string s,.int .i64 10,.int .i64 64] w fun e w'=>e=.returned (.tuple #[.int .u64 u,.nilIface])∧(w'=w∨w'=Lib.bytesWorld w 5 s):=Any.strconv_ParseUint_10_at64_ok Tryz.laysPu14 s hmax u h w
def Tryz.lays212_ren:Go.Shelf.Ren:=⟨fun | 212=>213 | 263=>289 | 264=>290 | n=>n,fun | 46=>150 | 51=>322 | 146=>330 | 53=>197 | 148=>332 | n=>n,fun | n=>n⟩
theorem Tryz.lays212:Go.Proofs.Lays.n212 Tryz.prog Tryz.lays212_ren:={
 mixed:=by kernel_rfl
 f212:=func213.trans (congrArg some (by kernel_rfl))
 f263:=func289.trans (congrArg some (by kernel_rfl))
 f264:=func290.trans (congrArg some (by kernel_rfl))
 t46:=underlying150
 a46:=isAgg150
 z46:=sizeOf150
 v46:=zeroValue150
 t51:=underlying322
 a51:=isAgg322
 z51:=sizeOf322
 v51:=zeroValue322
 t53:=underlying197
 a53:=isAgg197
 z53:=sizeOf197
 v53:=zeroValue197
 t146:=underlying330
 a146:=isAgg330
 z146:=sizeOf330
 v146:=zeroValue330
 t148:=underlying332
 a148:=isAgg332
 z148:=sizeOf332
 v148:=zeroValue332 }
open Go.RowKit Go.Lib in
theorem Tryz.bits_Mul (x y:Nat) (hx:x<18446744073709551616) (hy:y<18446744073709551616) (w:World) :
  Calls Tryz.prog 213 #[.int .u64 x,.int .u64 y] w fun e w'=>e=.returned (.tuple #[.int .u64 ((x*y / 18446744073709551616:Nat):Int),.int .u64 ((x*y%18446744073709551616:Nat):Int)])∧w'=w:=Any.bits_Mul Tryz.lays212 x y hx hy w
def Tryz.lays169_ren:Go.Shelf.Ren:=⟨fun | 169=>255 | n=>n,fun | 70=>291 | 9=>9 | 0=>0 | 72=>293 | 37=>107 | 127=>353 | 3=>3 | 5=>5 | n=>n,fun | n=>n⟩
theorem Tryz.lays169:Go.Proofs.Lays.n169 Tryz.prog Tryz.lays169_ren:={
 mixed:=by kernel_rfl
 f169:=func255.trans (congrArg some (by kernel_rfl))
 t0:=underlying0
 a0:=isAgg0
 z0:=sizeOf0
 v0:=zeroValue0
 t3:=underlying3
 a3:=isAgg3
 z3:=sizeOf3
 v3:=zeroValue3
 t9:=underlying9
 a9:=isAgg9
 z9:=sizeOf9
 v9:=zeroValue9
 t37:=underlying107
 a37:=isAgg107
 z37:=sizeOf107
 v37:=zeroValue107
 t70:=underlying291
 a70:=isAgg291
 z70:=sizeOf291
 v70:=zeroValue291
 t72:=underlying293
 a72:=isAgg293
 z72:=sizeOf293
 v72:=zeroValue293
 t127:=underlying353
 a127:=isAgg353
 z127:=sizeOf353
 v127:=zeroValue353 }
theorem Tryz.Builder_Extra_169:Builder.Extra Tryz.prog Tryz.lays169_ren:={
 sizeBuilder:=by kernel_rfl
 liesBuilder:=by kernel_rfl
 t5:=underlying5
 a5:=isAgg5
 z5:=sizeOf5
 v5:=zeroValue5
 infoByte:=by kernel_rfl
 cellsByte:=by kernel_rfl
 sizeByte:=by kernel_rfl
 neB5:=by decide }
open Go.RowKit in
theorem Tryz.Builder_String_any (B b:Nat) (l:List UInt8) (w:World) (h:Lib.IsBuilder 293 5 B b (Lib.byteCells l) w) (hBw:B≤w.heap.size) :
  Calls Tryz.prog 255 #[.pointer (some ⟨b,0,none⟩)] w fun e w'=>e=.returned (.string ⟨l.toArray⟩)∧Below B w w':=Any.Builder_String_any Tryz.lays169 Tryz.Builder_Extra_169 B b l w h hBw
def Tryz.lays156_ren:Go.Shelf.Ren:=⟨fun | 156=>178 | 165=>253 | 166=>254 | 169=>255 | 240=>320 | 241=>321 | 276=>355 | 277=>356 | n=>n,fun | 31=>108 | 9=>9 | 3=>3 | 4=>4 | 0=>0 | 20=>20 | 72=>293 | 76=>223 | 70=>291 | 37=>107 | 75=>222 | 127=>353 | 164=>382 | 5=>5 | 80=>295 | n=>n,fun | n=>n⟩
theorem Tryz.lays156:Go.Proofs.Lays.n156 Tryz.prog Tryz.lays156_ren:={
 mixed:=by kernel_rfl
 f156:=func178.trans (congrArg some (by kernel_rfl))
 f165:=func253.trans (congrArg some (by kernel_rfl))
 f166:=func254.trans (congrArg some (by kernel_rfl))
 f169:=func255.trans (congrArg some (by kernel_rfl))
 f240:=func320.trans (congrArg some (by kernel_rfl))
 f241:=func321.trans (congrArg some (by kernel_rfl))
 f276:=func355.trans (congrArg some (by kernel_rfl))
 f277:=func356.trans (congrArg some (by kernel_rfl))
 t0:=underlying0
 a0:=isAgg0
 z0:=sizeOf0
 v0:=zeroValue0
 t3:=underlying3
 a3:=isAgg3
 z3:=sizeOf3
 v3:=zeroValue3
 t4:=underlying4
 a4:=isAgg4
 z4:=sizeOf4
 v4:=zeroValue4
 t9:=underlying9
 a9:=isAgg9
 z9:=sizeOf9
 v9:=zeroValue9
 t20:=underlying20
 a20:=isAgg20
 z20:=sizeOf20
 v20:=zeroValue20
 t31:=underlying108
 a31:=isAgg108
 z31:=sizeOf108
 v31:=zeroValue108
 t37:=underlying107
 a37:=isAgg107
 z37:=sizeOf107
 v37:=zeroValue107
 t70:=underlying291
 a70:=isAgg291
 z70:=sizeOf291
 v70:=zeroValue291
 t72:=underlying293
 a72:=isAgg293
 z72:=sizeOf293
 v72:=zeroValue293
 t75:=underlying222
 a75:=isAgg222
 z75:=sizeOf222
 v75:=zeroValue222
 t76:=underlying223
 a76:=isAgg223
 z76:=sizeOf223
 v76:=zeroValue223
 t127:=underlying353
 a127:=isAgg353
 z127:=sizeOf353
 v127:=zeroValue353
 t164:=underlying382
 a164:=isAgg382
 z164:=sizeOf382
 v164:=zeroValue382 }
theorem Tryz.Builder_Extra_156:Builder.Extra Tryz.prog Tryz.lays156_ren:={
 sizeBuilder:=by kernel_rfl
 liesBuilder:=by kernel_rfl
 t5:=underlying5
 a5:=isAgg5
 z5:=sizeOf5
 v5:=zeroValue5
 infoByte:=by kernel_rfl
 cellsByte:=by kernel_rfl
 sizeByte:=by kernel_rfl
 neB5:=by decide }
open Go.RowKit in
theorem Tryz.strings_Join_none (a:Option Addr) (c:Nat) (sep:ByteArray) (w:World) :
  Calls Tryz.prog 178 #[.slice a 0 c,.string sep] w fun e w'=>e=.returned (.string ⟨#[]⟩)∧w'=w:=Any.strings_Join_none Tryz.lays156 Tryz.Builder_Extra_156 a c sep w
open Go.RowKit in
theorem Tryz.strings_Join (bk o c:Nat) (xs:List ByteArray) (sep:ByteArray) (w:World) (hcells:∀ (j:Nat) x,xs[j]?=some x→w.cell? ⟨bk,o+j,none⟩=some (.string x)) (hbk:bk<w.heap.size) (hN:xs.length≤140737488355328) (hcap:xs.length≤c) (hlen:(Lib.join (xs.map (·.data.toList)) sep.data.toList).length≤140737488355328) :
  Calls Tryz.prog 178 #[.slice (some ⟨bk,o,none⟩) xs.length c,.string sep] w fun e w'=>e=.returned (.string ⟨(Lib.join (xs.map (·.data.toList)) sep.data.toList).toArray⟩)∧Below w.heap.size w w':=Any.strings_Join Tryz.lays156 Tryz.Builder_Extra_156 bk o c xs sep w hcells hbk hN hcap hlen
end Go.Proofs
