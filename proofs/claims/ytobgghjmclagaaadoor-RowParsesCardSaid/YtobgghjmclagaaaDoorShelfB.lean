/- Contracts of Go's library at this program, laid by the kit's tool (its plain mode), those that are used here alone. -/
import Derived.Shelf.Strings.Builder1
import Derived.Shelf.Strings.Builder2
import Derived.Shelf.Strings.OnBuilder
import Derived.Shelf.Small.Wraps
import Derived.Shelf.Strings.BuilderF
import Derived.Shelf.Strings.BuilderK
import Derived.Shelf.Strings.Builder2Cap
import Derived.Shelf.Strconv.Atoi
import Derived.Shelf.Strconv.Itoa0
import Derived.Shelf.Strconv.Itoa1
import Derived.Shelf.LaysM
import Derived.Shelf.Strconv.Itoa2
import Derived.Shelf.Strconv.Itoa3
import Derived.Shelf.Strconv.AtoiErrFast
import Derived.Shelf.Strconv.ParseIntEmpty
import Derived.Shelf.Strconv.AtoiFail
import Derived.Shelf.Strconv.Clone
import Derived.Shelf.Strconv.SyntaxError
import Derived.Shelf.LaysC
import Derived.Shelf.Strconv.ToError
import Derived.Shelf.Strconv.AtoiErr
import Derived.Shelf.Strconv.ErrVar
import Derived.Shelf.Strconv.Lower
import Derived.Shelf.Strconv.ParseUint10
import Derived.Shelf.Strconv.ParseUint10Empty
import Derived.Shelf.Strconv.ParseUint10Any
import Derived.Shelf.Strconv.ParseInt10
import Derived.Shelf.Strconv.AtoiLong
import Derived.Shelf.Strconv.AtoiInnerAll
import Derived.Shelf.Strconv.RangeError
import Derived.Shelf.Strconv.ToErrorRange
import Derived.Shelf.Strconv.AtoiAll
import Derived.Shelf.Strconv.ErrVarAll
import Derived.Shelf.Strconv.ParseUintEmpty
import Derived.Shelf.Strconv.ParseUint10b64
import Derived.Shelf.Strconv.ParseUint10b32
import Derived.Shelf.Strconv.ParseUint10b16
import Derived.Shelf.Strconv.ParseUint10b8
import Derived.Shelf.Strconv.ParseUint10At
import Derived.Shelf.Strconv.ParseInt10At64
import Derived.Shelf.Strconv.ParseInt10At32
import Derived.Shelf.Strconv.ParseInt10At16
import Derived.Shelf.Strconv.ParseInt10At8
import Derived.Shelf.Strconv.ParseInt10All
import Derived.Shelf.Strings.Search1
import Derived.Shelf.Strings.Search2
import Derived.Shelf.Strings.Search3
import Derived.Shelf.Strings.Count
import Derived.Shelf.Strings.Shaped
import Derived.Shelf.Strings.Prefix
import Derived.Shelf.Strings.Split
import Derived.Shelf.Strings.SplitShaped
import Derived.Shelf.Unicode.Decode
import Derived.Shelf.Strings.RuneCount
import Derived.Shelf.Strings.Explode
import Derived.Shelf.Unicode.DecodeSlow
import Derived.Shelf.Unicode.DecodeAny
import Derived.Shelf.Strings.BuilderCap
import Derived.Ground.Names2Prog
import Derived.Shelf.Slices.SearchI
import Derived.Test.YtobgghjmclagaaaDoorProg
namespace Go.Proofs
open Go.Shelf
def Tryd.lays103_ren : Go.Shelf.Ren := ⟨fun | 103 => 72 | 210 => 88 | 206 => 99 | n => n, fun | 9 => 9 | 4 => 4 | 24 => 88 | 3 => 3 | n => n, fun | n => n⟩
theorem Tryd.lays103 : Go.Proofs.Lays.n103 Tryd.prog Tryd.lays103_ren := {
  mixed := by kernel_rfl
  f103 := Tryd.func72.trans (congrArg some (by kernel_rfl))
  f206 := Tryd.func99.trans (congrArg some (by kernel_rfl))
  f210 := Tryd.func88.trans (congrArg some (by kernel_rfl))
  t3 := Tryd.underlying3
  a3 := Tryd.isAgg3
  z3 := Tryd.sizeOf3
  v3 := Tryd.zeroValue3
  t4 := Tryd.underlying4
  a4 := Tryd.isAgg4
  z4 := Tryd.sizeOf4
  v4 := Tryd.zeroValue4
  t9 := Tryd.underlying9
  a9 := Tryd.isAgg9
  z9 := Tryd.sizeOf9
  v9 := Tryd.zeroValue9
  t24 := Tryd.underlying88
  a24 := Tryd.isAgg88
  z24 := Tryd.sizeOf88
  v24 := Tryd.zeroValue88 }
open Go.RowKit in
theorem Tryd.strings_CutPrefix (s p : ByteArray) (w : World) :
    Calls Tryd.prog 72 #[.string s, .string p] w fun e w' => e = .returned (.tuple #[.string ⟨(Lib.trimPrefix s.data.toList p.data.toList).toArray⟩, .bool (Lib.hasPrefix s.data.toList p.data.toList)]) ∧ w' = w := Any.strings_CutPrefix Tryd.lays103 s p w
def Tryd.lays104_ren : Go.Shelf.Ren := ⟨fun | 104 => 73 | 211 => 89 | 207 => 100 | n => n, fun | 9 => 9 | 4 => 4 | 24 => 88 | 3 => 3 | n => n, fun | n => n⟩
theorem Tryd.lays104 : Go.Proofs.Lays.n104 Tryd.prog Tryd.lays104_ren := {
  mixed := by kernel_rfl
  f104 := Tryd.func73.trans (congrArg some (by kernel_rfl))
  f207 := Tryd.func100.trans (congrArg some (by kernel_rfl))
  f211 := Tryd.func89.trans (congrArg some (by kernel_rfl))
  t3 := Tryd.underlying3
  a3 := Tryd.isAgg3
  z3 := Tryd.sizeOf3
  v3 := Tryd.zeroValue3
  t4 := Tryd.underlying4
  a4 := Tryd.isAgg4
  z4 := Tryd.sizeOf4
  v4 := Tryd.zeroValue4
  t9 := Tryd.underlying9
  a9 := Tryd.isAgg9
  z9 := Tryd.sizeOf9
  v9 := Tryd.zeroValue9
  t24 := Tryd.underlying88
  a24 := Tryd.isAgg88
  z24 := Tryd.sizeOf88
  v24 := Tryd.zeroValue88 }
open Go.RowKit in
theorem Tryd.strings_CutSuffix (s p : ByteArray) (w : World) (hs : s.size ≤ 9223372036854775807) :
    Calls Tryd.prog 73 #[.string s, .string p] w fun e w' => e = .returned (.tuple #[.string ⟨(Lib.trimSuffix s.data.toList p.data.toList).toArray⟩, .bool (Lib.hasSuffix s.data.toList p.data.toList)]) ∧ w' = w := Any.strings_CutSuffix Tryd.lays104 s p w hs
def Tryd.laysC172_ren : Go.Shelf.Ren := ⟨fun | 172 => 78 | 244 => 93 | 245 => 94 | 247 => 105 | 279 => 106 | 280 => 107 | 281 => 108 | 282 => 109 | 287 => 120 | 316 => 121 | 171 => 70 | 205 => 122 | 321 => 133 | 322 => 134 | 243 => 84 | 246 => 96 | 283 => 110 | 284 => 111 | 285 => 112 | 286 => 113 | 129 => 124 | 317 => 123 | 318 => 125 | 319 => 126 | 320 => 127 | 337 => 135 | 338 => 136 | n => n, fun | 9 => 9 | 3 => 3 | 75 => 93 | 76 => 94 | 4 => 4 | 5 => 5 | 167 => 112 | 37 => 68 | 0 => 0 | 85 => 113 | 2 => 2 | 168 => 115 | 53 => 119 | 175 => 131 | 46 => 133 | 210 => 136 | 127 => 108 | 145 => 146 | 143 => 144 | 21 => 21 | 171 => 118 | 173 => 122 | 212 => 139 | 51 => 140 | 20 => 20 | 213 => 141 | 232 => 154 | 233 => 155 | 80 => 102 | n => n, fun | 15 => 0 | 16 => 1 | 17 => 2 | 18 => 6 | 19 => 7 | n => n⟩
theorem Tryd.laysC172 : Go.Proofs.LaysC.n172 Tryd.prog Tryd.laysC172_ren := {
  mixed := by kernel_rfl
  f129 := Tryd.func124.trans (congrArg some (by kernel_rfl))
  f171 := Tryd.func70.trans (congrArg some (by kernel_rfl))
  f172 := Tryd.func78.trans (congrArg some (by kernel_rfl))
  f205 := Tryd.func122.trans (congrArg some (by kernel_rfl))
  f243 := Tryd.func84.trans (congrArg some (by kernel_rfl))
  f244 := Tryd.func93.trans (congrArg some (by kernel_rfl))
  f245 := Tryd.func94.trans (congrArg some (by kernel_rfl))
  f246 := Tryd.func96.trans (congrArg some (by kernel_rfl))
  f247 := Tryd.func105.trans (congrArg some (by kernel_rfl))
  f279 := Tryd.func106.trans (congrArg some (by kernel_rfl))
  f280 := Tryd.func107.trans (congrArg some (by kernel_rfl))
  f281 := Tryd.func108.trans (congrArg some (by kernel_rfl))
  f282 := Tryd.func109.trans (congrArg some (by kernel_rfl))
  f283 := Tryd.func110.trans (congrArg some (by kernel_rfl))
  f284 := Tryd.func111.trans (congrArg some (by kernel_rfl))
  f285 := Tryd.func112.trans (congrArg some (by kernel_rfl))
  f286 := Tryd.func113.trans (congrArg some (by kernel_rfl))
  f287 := Tryd.func120.trans (congrArg some (by kernel_rfl))
  f316 := Tryd.func121.trans (congrArg some (by kernel_rfl))
  f317 := Tryd.func123.trans (congrArg some (by kernel_rfl))
  f318 := Tryd.func125.trans (congrArg some (by kernel_rfl))
  f319 := Tryd.func126.trans (congrArg some (by kernel_rfl))
  f320 := Tryd.func127.trans (congrArg some (by kernel_rfl))
  f321 := Tryd.func133.trans (congrArg some (by kernel_rfl))
  f322 := Tryd.func134.trans (congrArg some (by kernel_rfl))
  f337 := Tryd.func135.trans (congrArg some (by kernel_rfl))
  f338 := Tryd.func136.trans (congrArg some (by kernel_rfl))
  t0 := Tryd.underlying0
  a0 := Tryd.isAgg0
  z0 := Tryd.sizeOf0
  v0 := Tryd.zeroValue0
  t2 := Tryd.underlying2
  a2 := Tryd.isAgg2
  z2 := Tryd.sizeOf2
  v2 := Tryd.zeroValue2
  t3 := Tryd.underlying3
  a3 := Tryd.isAgg3
  z3 := Tryd.sizeOf3
  v3 := Tryd.zeroValue3
  t4 := Tryd.underlying4
  a4 := Tryd.isAgg4
  z4 := Tryd.sizeOf4
  v4 := Tryd.zeroValue4
  t5 := Tryd.underlying5
  a5 := Tryd.isAgg5
  z5 := Tryd.sizeOf5
  v5 := Tryd.zeroValue5
  t9 := Tryd.underlying9
  a9 := Tryd.isAgg9
  z9 := Tryd.sizeOf9
  v9 := Tryd.zeroValue9
  t20 := Tryd.underlying20
  a20 := Tryd.isAgg20
  z20 := Tryd.sizeOf20
  v20 := Tryd.zeroValue20
  t21 := Tryd.underlying21
  a21 := Tryd.isAgg21
  z21 := Tryd.sizeOf21
  v21 := Tryd.zeroValue21
  t37 := Tryd.underlying68
  a37 := Tryd.isAgg68
  z37 := Tryd.sizeOf68
  v37 := Tryd.zeroValue68
  t46 := Tryd.underlying133
  a46 := Tryd.isAgg133
  z46 := Tryd.sizeOf133
  v46 := Tryd.zeroValue133
  t51 := Tryd.underlying140
  a51 := Tryd.isAgg140
  z51 := Tryd.sizeOf140
  v51 := Tryd.zeroValue140
  t53 := Tryd.underlying119
  a53 := Tryd.isAgg119
  z53 := Tryd.sizeOf119
  v53 := Tryd.zeroValue119
  t75 := Tryd.underlying93
  a75 := Tryd.isAgg93
  z75 := Tryd.sizeOf93
  v75 := Tryd.zeroValue93
  t76 := Tryd.underlying94
  a76 := Tryd.isAgg94
  z76 := Tryd.sizeOf94
  v76 := Tryd.zeroValue94
  t85 := Tryd.underlying113
  a85 := Tryd.isAgg113
  z85 := Tryd.sizeOf113
  v85 := Tryd.zeroValue113
  t127 := Tryd.underlying108
  a127 := Tryd.isAgg108
  z127 := Tryd.sizeOf108
  v127 := Tryd.zeroValue108
  t143 := Tryd.underlying144
  a143 := Tryd.isAgg144
  z143 := Tryd.sizeOf144
  v143 := Tryd.zeroValue144
  t145 := Tryd.underlying146
  a145 := Tryd.isAgg146
  z145 := Tryd.sizeOf146
  v145 := Tryd.zeroValue146
  t167 := Tryd.underlying112
  a167 := Tryd.isAgg112
  z167 := Tryd.sizeOf112
  v167 := Tryd.zeroValue112
  t168 := Tryd.underlying115
  a168 := Tryd.isAgg115
  z168 := Tryd.sizeOf115
  v168 := Tryd.zeroValue115
  t171 := Tryd.underlying118
  a171 := Tryd.isAgg118
  z171 := Tryd.sizeOf118
  v171 := Tryd.zeroValue118
  t173 := Tryd.underlying122
  a173 := Tryd.isAgg122
  z173 := Tryd.sizeOf122
  v173 := Tryd.zeroValue122
  t175 := Tryd.underlying131
  a175 := Tryd.isAgg131
  z175 := Tryd.sizeOf131
  v175 := Tryd.zeroValue131
  t210 := Tryd.underlying136
  a210 := Tryd.isAgg136
  z210 := Tryd.sizeOf136
  v210 := Tryd.zeroValue136
  t212 := Tryd.underlying139
  a212 := Tryd.isAgg139
  z212 := Tryd.sizeOf139
  v212 := Tryd.zeroValue139
  t213 := Tryd.underlying141
  a213 := Tryd.isAgg141
  z213 := Tryd.sizeOf141
  t232 := Tryd.underlying154
  a232 := Tryd.isAgg154
  z232 := Tryd.sizeOf154
  v232 := Tryd.zeroValue154
  t233 := Tryd.underlying155
  a233 := Tryd.isAgg155
  z233 := Tryd.sizeOf155
  v233 := Tryd.zeroValue155
  g15 := by kernel_rfl
  g16 := by kernel_rfl
  g17 := by kernel_rfl
  g18 := by kernel_rfl
  g19 := by kernel_rfl
  t80 := Tryd.underlying102
  a80 := Tryd.isAgg102
  z80 := Tryd.sizeOf102
  v80 := Tryd.zeroValue102
  i0 := by kernel_rfl
  i2 := by kernel_rfl
  i3 := by kernel_rfl
  i4 := by kernel_rfl
  i5 := by kernel_rfl
  i9 := by kernel_rfl
  i20 := by kernel_rfl
  i21 := by kernel_rfl
  i37 := by kernel_rfl
  i46 := by kernel_rfl
  i51 := by kernel_rfl
  i53 := by kernel_rfl
  i75 := by kernel_rfl
  i76 := by kernel_rfl
  i80 := by kernel_rfl
  i85 := by kernel_rfl
  i127 := by kernel_rfl
  i143 := by kernel_rfl
  i145 := by kernel_rfl
  i167 := by kernel_rfl
  i168 := by kernel_rfl
  i171 := by kernel_rfl
  i173 := by kernel_rfl
  i175 := by kernel_rfl
  i210 := by kernel_rfl
  i212 := by kernel_rfl
  i232 := by kernel_rfl
  i233 := by kernel_rfl
  m15 := by kernel_rfl
  m16 := by kernel_rfl
  m17 := by kernel_rfl
  m18 := by kernel_rfl
  m19 := by kernel_rfl
  c0 := by kernel_rfl
  c2 := by kernel_rfl
  c3 := by kernel_rfl
  c4 := by kernel_rfl
  c5 := by kernel_rfl
  c9 := by kernel_rfl
  c20 := by kernel_rfl
  c21 := by kernel_rfl
  c37 := by kernel_rfl
  c46 := by kernel_rfl
  c51 := by kernel_rfl
  c53 := by kernel_rfl
  c75 := by kernel_rfl
  c76 := by kernel_rfl
  c80 := by kernel_rfl
  c85 := by kernel_rfl
  c127 := by kernel_rfl
  c143 := by kernel_rfl
  c145 := by kernel_rfl
  c167 := by kernel_rfl
  c168 := by kernel_rfl
  c171 := by kernel_rfl
  c173 := by kernel_rfl
  c175 := by kernel_rfl
  c210 := by kernel_rfl
  c212 := by kernel_rfl
  c213 := by kernel_rfl
  c232 := by kernel_rfl
  c233 := by kernel_rfl }
open Go.RowKit in
theorem Tryd.strconv_Atoi_ok (s : ByteArray) (hmax : s.size ≤ 9223372036854775806) (v : Int) (h : Lib.atoiAll s.data.toList = .ok v) (w : World) :
    Calls Tryd.prog 78 #[.string s] w fun e w' => e = .returned (.tuple #[.int .i64 v, .nilIface]) ∧ (w' = w ∨ ∃ t, w' = Lib.bytesWorld w 5 t) := Any.strconv_Atoi_ok Tryd.laysC172 s hmax v h w
open Go.RowKit in
theorem Tryd.strconv_Atoi_range (s : ByteArray) (hlim : s.size ≤ 281474976710656) (h : Lib.atoiAll s.data.toList = .range) (ev : Value) (w : World) (hv : w.cell? ⟨1, 0, none⟩ = some ev) (hev : ev = .nilIface ∨ ∃ te pe, ev = .iface te pe) :
    Calls Tryd.prog 78 #[.string s] w fun e w' => ∃ N, e = .returned (.tuple #[.int .i64 (Lib.atoiSat s.data.toList), .iface 115 (.pointer (some ⟨N, 0, none⟩))]) ∧ w.heap.size ≤ N ∧ w'.heap[N]? = some (.cells #[.string ⟨#[65, 116, 111, 105]⟩, .string s, ev] 136 (0, 0)) ∧ Below w.heap.size w w' := Any.strconv_Atoi_range Tryd.laysC172 s hlim h ev w hv hev
open Go.RowKit in
theorem Tryd.strconv_Atoi_range_var (s : ByteArray) (hlim : s.size ≤ 281474976710656) (h : Lib.atoiAll s.data.toList = .range) (tp : TypeId) (p : Value) (w : World) (hvar : w.var? Tryd.prog "strconv.ErrRange" = some #[.iface tp p]) :
    Calls Tryd.prog 78 #[.string s] w fun e w' => ∃ N, e = .returned (.tuple #[.int .i64 (Lib.atoiSat s.data.toList), .iface 115 (.pointer (some ⟨N, 0, none⟩))]) ∧ w.heap.size ≤ N ∧ w'.heap[N]? = some (.cells #[.string ⟨#[65, 116, 111, 105]⟩, .string s, .iface tp p] 136 (0, 0)) ∧ Below w.heap.size w w' := Any.strconv_Atoi_range_var Tryd.laysC172 s hlim h tp p w hvar
def Tryd.lays101_ren : Go.Shelf.Ren := ⟨fun | 101 => 92 | 208 => 104 | 206 => 99 | n => n, fun | 9 => 9 | 4 => 4 | 3 => 3 | n => n, fun | n => n⟩
theorem Tryd.lays101 : Go.Proofs.Lays.n101 Tryd.prog Tryd.lays101_ren := {
  mixed := by kernel_rfl
  f101 := Tryd.func92.trans (congrArg some (by kernel_rfl))
  f206 := Tryd.func99.trans (congrArg some (by kernel_rfl))
  f208 := Tryd.func104.trans (congrArg some (by kernel_rfl))
  t3 := Tryd.underlying3
  a3 := Tryd.isAgg3
  z3 := Tryd.sizeOf3
  v3 := Tryd.zeroValue3
  t4 := Tryd.underlying4
  a4 := Tryd.isAgg4
  z4 := Tryd.sizeOf4
  v4 := Tryd.zeroValue4
  t9 := Tryd.underlying9
  a9 := Tryd.isAgg9
  z9 := Tryd.sizeOf9
  v9 := Tryd.zeroValue9 }
open Go.RowKit Go.Lib in
theorem Tryd.strings_TrimPrefix (s p : ByteArray) (w : World) :
    Calls Tryd.prog 92 #[.string s, .string p] w fun e w' => e = .returned (.string ⟨(Lib.trimPrefix s.data.toList p.data.toList).toArray⟩) ∧ w' = w := Any.strings_TrimPrefix Tryd.lays101 s p w
def Tryd.lays146_ren : Go.Shelf.Ren := ⟨fun | 146 => 74 | 221 => 90 | 268 => 101 | 138 => 102 | 143 => 103 | 195 => 116 | 197 => 117 | 218 => 118 | 219 => 119 | 260 => 128 | 217 => 129 | 225 => 130 | 224 => 131 | 267 => 132 | 266 => 137 | 314 => 138 | n => n, fun | 9 => 9 | 31 => 85 | 3 => 3 | 4 => 4 | 0 => 0 | 105 => 128 | 21 => 21 | 5 => 5 | 46 => 133 | 119 => 148 | 139 => 151 | 138 => 150 | 146 => 152 | 51 => 140 | n => n, fun | 1 => 3 | 3 => 4 | 4 => 5 | n => n⟩
theorem Tryd.lays146 : Go.Proofs.Lays.n146 Tryd.prog Tryd.lays146_ren := {
  mixed := by kernel_rfl
  f138 := Tryd.func102.trans (congrArg some (by kernel_rfl))
  f143 := Tryd.func103.trans (congrArg some (by kernel_rfl))
  f146 := Tryd.func74.trans (congrArg some (by kernel_rfl))
  f195 := Tryd.func116.trans (congrArg some (by kernel_rfl))
  f197 := Tryd.func117.trans (congrArg some (by kernel_rfl))
  f217 := Tryd.func129.trans (congrArg some (by kernel_rfl))
  f218 := Tryd.func118.trans (congrArg some (by kernel_rfl))
  f219 := Tryd.func119.trans (congrArg some (by kernel_rfl))
  f221 := Tryd.func90.trans (congrArg some (by kernel_rfl))
  f224 := Tryd.func131.trans (congrArg some (by kernel_rfl))
  f225 := Tryd.func130.trans (congrArg some (by kernel_rfl))
  f260 := Tryd.func128.trans (congrArg some (by kernel_rfl))
  f266 := Tryd.func137.trans (congrArg some (by kernel_rfl))
  f267 := Tryd.func132.trans (congrArg some (by kernel_rfl))
  f268 := Tryd.func101.trans (congrArg some (by kernel_rfl))
  f314 := Tryd.func138.trans (congrArg some (by kernel_rfl))
  t0 := Tryd.underlying0
  a0 := Tryd.isAgg0
  z0 := Tryd.sizeOf0
  v0 := Tryd.zeroValue0
  t3 := Tryd.underlying3
  a3 := Tryd.isAgg3
  z3 := Tryd.sizeOf3
  v3 := Tryd.zeroValue3
  t4 := Tryd.underlying4
  a4 := Tryd.isAgg4
  z4 := Tryd.sizeOf4
  v4 := Tryd.zeroValue4
  t5 := Tryd.underlying5
  a5 := Tryd.isAgg5
  z5 := Tryd.sizeOf5
  v5 := Tryd.zeroValue5
  t9 := Tryd.underlying9
  a9 := Tryd.isAgg9
  z9 := Tryd.sizeOf9
  v9 := Tryd.zeroValue9
  t21 := Tryd.underlying21
  a21 := Tryd.isAgg21
  z21 := Tryd.sizeOf21
  v21 := Tryd.zeroValue21
  t31 := Tryd.underlying85
  a31 := Tryd.isAgg85
  z31 := Tryd.sizeOf85
  v31 := Tryd.zeroValue85
  t46 := Tryd.underlying133
  a46 := Tryd.isAgg133
  z46 := Tryd.sizeOf133
  v46 := Tryd.zeroValue133
  t51 := Tryd.underlying140
  a51 := Tryd.isAgg140
  z51 := Tryd.sizeOf140
  v51 := Tryd.zeroValue140
  t105 := Tryd.underlying128
  a105 := Tryd.isAgg128
  z105 := Tryd.sizeOf128
  v105 := Tryd.zeroValue128
  t119 := Tryd.underlying148
  a119 := Tryd.isAgg148
  z119 := Tryd.sizeOf148
  t138 := Tryd.underlying150
  a138 := Tryd.isAgg150
  z138 := Tryd.sizeOf150
  v138 := Tryd.zeroValue150
  t139 := Tryd.underlying151
  a139 := Tryd.isAgg151
  z139 := Tryd.sizeOf151
  v139 := Tryd.zeroValue151
  t146 := Tryd.underlying152
  a146 := Tryd.isAgg152
  z146 := Tryd.sizeOf152
  v146 := Tryd.zeroValue152
  g1 := by kernel_rfl
  g3 := by kernel_rfl
  g4 := by kernel_rfl }
open Go.RowKit Go.Lib in
theorem Tryd.strings_Split (s sep : ByteArray) (m : Int) (w : World) (hs : s.size < 4294967281) (hm : w.cell? ⟨3, 0, none⟩ = some (.int .i64 m)) (h1 : 1 ≤ sep.size) :
    Calls Tryd.prog 74 #[.string s, .string sep] w fun e w' =>
      e = .returned (.slice (some ⟨w.heap.size, 0, none⟩) (Lib.countB s sep + 1) (Lib.countB s sep + 1)) ∧ w' = w.alloc (.cells ((Lib.splitB sep 0 (Lib.countB s sep) s).map Value.string).toArray 9) := Any.strings_Split Tryd.lays146 (by kernel_rfl) s sep m w hs hm h1
def Tryd.laysM146_ren : Go.Shelf.Ren := ⟨fun | 146 => 74 | 221 => 90 | 268 => 101 | 138 => 102 | 143 => 103 | 195 => 116 | 197 => 117 | 218 => 118 | 219 => 119 | 260 => 128 | 217 => 129 | 225 => 130 | 224 => 131 | 267 => 132 | 266 => 137 | 314 => 138 | n => n, fun | 9 => 9 | 31 => 85 | 3 => 3 | 4 => 4 | 0 => 0 | 105 => 128 | 21 => 21 | 5 => 5 | 46 => 133 | 119 => 148 | 139 => 151 | 138 => 150 | 146 => 152 | 51 => 140 | n => n, fun | 1 => 3 | 3 => 4 | 4 => 5 | n => n⟩
theorem Tryd.laysM146 : Go.Proofs.LaysM.n146 Tryd.prog Tryd.laysM146_ren := {
  mixed := by kernel_rfl
  f138 := Tryd.func102.trans (congrArg some (by kernel_rfl))
  f143 := Tryd.func103.trans (congrArg some (by kernel_rfl))
  f146 := Tryd.func74.trans (congrArg some (by kernel_rfl))
  f195 := Tryd.func116.trans (congrArg some (by kernel_rfl))
  f197 := Tryd.func117.trans (congrArg some (by kernel_rfl))
  f217 := Tryd.func129.trans (congrArg some (by kernel_rfl))
  f218 := Tryd.func118.trans (congrArg some (by kernel_rfl))
  f219 := Tryd.func119.trans (congrArg some (by kernel_rfl))
  f221 := Tryd.func90.trans (congrArg some (by kernel_rfl))
  f224 := Tryd.func131.trans (congrArg some (by kernel_rfl))
  f225 := Tryd.func130.trans (congrArg some (by kernel_rfl))
  f260 := Tryd.func128.trans (congrArg some (by kernel_rfl))
  f266 := Tryd.func137.trans (congrArg some (by kernel_rfl))
  f267 := Tryd.func132.trans (congrArg some (by kernel_rfl))
  f268 := Tryd.func101.trans (congrArg some (by kernel_rfl))
  f314 := Tryd.func138.trans (congrArg some (by kernel_rfl))
  t0 := Tryd.underlying0
  a0 := Tryd.isAgg0
  z0 := Tryd.sizeOf0
  v0 := Tryd.zeroValue0
  t3 := Tryd.underlying3
  a3 := Tryd.isAgg3
  z3 := Tryd.sizeOf3
  v3 := Tryd.zeroValue3
  t4 := Tryd.underlying4
  a4 := Tryd.isAgg4
  z4 := Tryd.sizeOf4
  v4 := Tryd.zeroValue4
  t5 := Tryd.underlying5
  a5 := Tryd.isAgg5
  z5 := Tryd.sizeOf5
  v5 := Tryd.zeroValue5
  t9 := Tryd.underlying9
  a9 := Tryd.isAgg9
  z9 := Tryd.sizeOf9
  v9 := Tryd.zeroValue9
  t21 := Tryd.underlying21
  a21 := Tryd.isAgg21
  z21 := Tryd.sizeOf21
  v21 := Tryd.zeroValue21
  t31 := Tryd.underlying85
  a31 := Tryd.isAgg85
  z31 := Tryd.sizeOf85
  v31 := Tryd.zeroValue85
  t46 := Tryd.underlying133
  a46 := Tryd.isAgg133
  z46 := Tryd.sizeOf133
  v46 := Tryd.zeroValue133
  t51 := Tryd.underlying140
  a51 := Tryd.isAgg140
  z51 := Tryd.sizeOf140
  v51 := Tryd.zeroValue140
  t105 := Tryd.underlying128
  a105 := Tryd.isAgg128
  z105 := Tryd.sizeOf128
  v105 := Tryd.zeroValue128
  t119 := Tryd.underlying148
  a119 := Tryd.isAgg148
  z119 := Tryd.sizeOf148
  t138 := Tryd.underlying150
  a138 := Tryd.isAgg150
  z138 := Tryd.sizeOf150
  v138 := Tryd.zeroValue150
  t139 := Tryd.underlying151
  a139 := Tryd.isAgg151
  z139 := Tryd.sizeOf151
  v139 := Tryd.zeroValue151
  t146 := Tryd.underlying152
  a146 := Tryd.isAgg152
  z146 := Tryd.sizeOf152
  v146 := Tryd.zeroValue152
  g1 := by kernel_rfl
  g3 := by kernel_rfl
  g4 := by kernel_rfl
  i0 := by kernel_rfl
  i3 := by kernel_rfl
  i4 := by kernel_rfl
  i5 := by kernel_rfl
  i9 := by kernel_rfl
  i21 := by kernel_rfl
  i31 := by kernel_rfl
  i46 := by kernel_rfl
  i51 := by kernel_rfl
  i105 := by kernel_rfl
  i138 := by kernel_rfl
  i139 := by kernel_rfl
  i146 := by kernel_rfl
  m1 := by kernel_rfl
  s1_3 := fun w h => Go.Proofs.cell_of_shapedOpen_int (zero := #[.int .i64 0]) (t := 3) h (of_decide_eq_true (by kernel_rfl)) (by kernel_rfl) rfl (by kernel_rfl) (by kernel_rfl) Tryd.underlying3
  m3 := by kernel_rfl
  m4 := by kernel_rfl }
open Go.RowKit Go.Lib in
theorem Tryd.strings_Split_shaped (s sep : ByteArray) (w : World) (h : w.ShapedOpen Tryd.prog) (hs : s.size < 4294967281) (h1 : 1 ≤ sep.size) :
    Calls Tryd.prog 74 #[.string s, .string sep] w fun e w' =>
      e = .returned (.slice (some ⟨w.heap.size, 0, none⟩) (Lib.countB s sep + 1) (Lib.countB s sep + 1)) ∧ w' = w.alloc (.cells ((Lib.splitB sep 0 (Lib.countB s sep) s).map Value.string).toArray 9) := Any.strings_Split_shaped Tryd.laysM146 s sep w h hs h1
end Go.Proofs
