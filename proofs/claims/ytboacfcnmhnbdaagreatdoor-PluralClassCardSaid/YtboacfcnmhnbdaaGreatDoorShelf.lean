/-
  DERIVED: THE SHELF's CONTRACTS AT THIS DUMP, IN PLAIN WORDS (tools/lay-plain.mjs out of 'YtboacfcnmhnbdaaGreatDoorShelf.lean', which tools/lay-shelf.mjs wrote): THE SAME DECLARATIONS UNDER THE SAME NAMES: 'import', 'namespace', 'open', 'def', 'theorem' AND NOTHING ELSE: no command of the shelf's: FOR A HAND-IN. Each laying: the table of numbers ('.._ren') and one theorem, a field a fact of the dump's own or the kernel's comparison; each contract: ONE APPLICATION.
-/
import Derived.Shelf.Strings.Trim
import Derived.Shelf.Small.Utf8
import Derived.Shelf.Small.Strs
import Derived.Shelf.Small.Wraps
import Derived.Shelf.Strconv.Atoi
import Derived.Shelf.Strconv.Itoa0
import Derived.Shelf.Strconv.Itoa1
import Derived.Shelf.LaysM
import Derived.Shelf.Strconv.Itoa2
import Derived.Shelf.Strconv.Itoa3
import Derived.Shelf.Strconv.AtoiErrFast
import Derived.Shelf.Strconv.ParseIntEmpty
import Derived.Shelf.Strconv.AtoiFail
import Derived.Shelf.Strconv.Clone
import Derived.Shelf.Strconv.SyntaxError
import Derived.Shelf.LaysC
import Derived.Shelf.Strconv.ToError
import Derived.Shelf.Strconv.Lower
import Derived.Shelf.Strconv.ParseUint10
import Derived.Shelf.Strconv.ParseUint10Empty
import Derived.Shelf.Strconv.ParseUint10Any
import Derived.Shelf.Strconv.ParseInt10
import Derived.Shelf.Strconv.AtoiLong
import Derived.Shelf.Strconv.AtoiInnerAll
import Derived.Shelf.Strconv.RangeError
import Derived.Shelf.Strconv.ToErrorRange
import Derived.Shelf.Strconv.AtoiAll
import Derived.Shelf.Strings.Search1
import Derived.Shelf.Strings.Search2
import Derived.Shelf.Strings.Search3
import Derived.Shelf.Strings.Cut
import Derived.Shelf.Strings.Shaped
import Derived.Shelf.Strings.Prefix
import Derived.Shelf.Unicode.Decode
import Derived.Shelf.Strings.Runes
import Derived.Shelf.Strings.AsciiSet
import Derived.Shelf.Unicode.DecodeSlow
import Derived.Shelf.Unicode.DecodeAny
import Derived.Shelf.Unicode.DecodeLast
import Derived.Test.YtboacfcnmhnbdaaGreatDoorProg
namespace Go.Proofs
open Go.Shelf
def Tryz.lays162_ren : Go.Shelf.Ren := ⟨fun | 162 => 105 | 232 => 135 | 227 => 136 | 234 => 137 | 236 => 138 | 228 => 161 | 271 => 162 | 151 => 163 | 120 => 176 | 197 => 175 | 152 => 177 | 260 => 183 | 137 => 100 | 119 => 184 | 224 => 153 | 225 => 152 | 217 => 130 | 266 => 157 | n => n, fun | 9 => 9 | 4 => 4 | 3 => 3 | 5 => 5 | 117 => 145 | 116 => 144 | 0 => 0 | 124 => 148 | 21 => 21 | 105 => 167 | 46 => 165 | 119 => 204 | 139 => 207 | 138 => 206 | n => n, fun | 3 => 3 | 4 => 4 | n => n⟩
theorem Tryz.lays162 : Go.Proofs.Lays.n162 Tryz.prog Tryz.lays162_ren := {
  mixed := by kernel_rfl
  f119 := Tryz.func184.trans (congrArg some (by kernel_rfl))
  f120 := Tryz.func176.trans (congrArg some (by kernel_rfl))
  f137 := Tryz.func100.trans (congrArg some (by kernel_rfl))
  f151 := Tryz.func163.trans (congrArg some (by kernel_rfl))
  f152 := Tryz.func177.trans (congrArg some (by kernel_rfl))
  f162 := Tryz.func105.trans (congrArg some (by kernel_rfl))
  f197 := Tryz.func175.trans (congrArg some (by kernel_rfl))
  f217 := Tryz.func130.trans (congrArg some (by kernel_rfl))
  f224 := Tryz.func153.trans (congrArg some (by kernel_rfl))
  f225 := Tryz.func152.trans (congrArg some (by kernel_rfl))
  f227 := Tryz.func136.trans (congrArg some (by kernel_rfl))
  f228 := Tryz.func161.trans (congrArg some (by kernel_rfl))
  f232 := Tryz.func135.trans (congrArg some (by kernel_rfl))
  f234 := Tryz.func137.trans (congrArg some (by kernel_rfl))
  f236 := Tryz.func138.trans (congrArg some (by kernel_rfl))
  f260 := Tryz.func183.trans (congrArg some (by kernel_rfl))
  f266 := Tryz.func157.trans (congrArg some (by kernel_rfl))
  f271 := Tryz.func162.trans (congrArg some (by kernel_rfl))
  t0 := Tryz.underlying0
  a0 := Tryz.isAgg0
  z0 := Tryz.sizeOf0
  v0 := Tryz.zeroValue0
  t3 := Tryz.underlying3
  a3 := Tryz.isAgg3
  z3 := Tryz.sizeOf3
  v3 := Tryz.zeroValue3
  t4 := Tryz.underlying4
  a4 := Tryz.isAgg4
  z4 := Tryz.sizeOf4
  v4 := Tryz.zeroValue4
  t5 := Tryz.underlying5
  a5 := Tryz.isAgg5
  z5 := Tryz.sizeOf5
  v5 := Tryz.zeroValue5
  t9 := Tryz.underlying9
  a9 := Tryz.isAgg9
  z9 := Tryz.sizeOf9
  v9 := Tryz.zeroValue9
  t21 := Tryz.underlying21
  a21 := Tryz.isAgg21
  z21 := Tryz.sizeOf21
  v21 := Tryz.zeroValue21
  t46 := Tryz.underlying165
  a46 := Tryz.isAgg165
  z46 := Tryz.sizeOf165
  v46 := Tryz.zeroValue165
  t105 := Tryz.underlying167
  a105 := Tryz.isAgg167
  z105 := Tryz.sizeOf167
  v105 := Tryz.zeroValue167
  t116 := Tryz.underlying144
  a116 := Tryz.isAgg144
  z116 := Tryz.sizeOf144
  t117 := Tryz.underlying145
  a117 := Tryz.isAgg145
  z117 := Tryz.sizeOf145
  v117 := Tryz.zeroValue145
  t119 := Tryz.underlying204
  a119 := Tryz.isAgg204
  z119 := Tryz.sizeOf204
  t124 := Tryz.underlying148
  a124 := Tryz.isAgg148
  z124 := Tryz.sizeOf148
  v124 := Tryz.zeroValue148
  t138 := Tryz.underlying206
  a138 := Tryz.isAgg206
  z138 := Tryz.sizeOf206
  v138 := Tryz.zeroValue206
  t139 := Tryz.underlying207
  a139 := Tryz.isAgg207
  z139 := Tryz.sizeOf207
  v139 := Tryz.zeroValue207
  g3 := by kernel_rfl
  g4 := by kernel_rfl }
def Tryz.lays160_ren : Go.Shelf.Ren := ⟨fun | 160 => 133 | 232 => 135 | 231 => 158 | 227 => 136 | 234 => 137 | 233 => 159 | 236 => 138 | 235 => 160 | 228 => 161 | 271 => 162 | 151 => 163 | 197 => 175 | 120 => 176 | 152 => 177 | 260 => 183 | 137 => 100 | 119 => 184 | 224 => 153 | 225 => 152 | 217 => 130 | 266 => 157 | n => n, fun | 9 => 9 | 4 => 4 | 3 => 3 | 5 => 5 | 117 => 145 | 116 => 144 | 0 => 0 | 124 => 148 | 21 => 21 | 105 => 167 | 46 => 165 | 119 => 204 | 139 => 207 | 138 => 206 | n => n, fun | 3 => 3 | 4 => 4 | n => n⟩
theorem Tryz.lays160 : Go.Proofs.Lays.n160 Tryz.prog Tryz.lays160_ren := {
  mixed := by kernel_rfl
  f119 := Tryz.func184.trans (congrArg some (by kernel_rfl))
  f120 := Tryz.func176.trans (congrArg some (by kernel_rfl))
  f137 := Tryz.func100.trans (congrArg some (by kernel_rfl))
  f151 := Tryz.func163.trans (congrArg some (by kernel_rfl))
  f152 := Tryz.func177.trans (congrArg some (by kernel_rfl))
  f160 := Tryz.func133.trans (congrArg some (by kernel_rfl))
  f197 := Tryz.func175.trans (congrArg some (by kernel_rfl))
  f217 := Tryz.func130.trans (congrArg some (by kernel_rfl))
  f224 := Tryz.func153.trans (congrArg some (by kernel_rfl))
  f225 := Tryz.func152.trans (congrArg some (by kernel_rfl))
  f227 := Tryz.func136.trans (congrArg some (by kernel_rfl))
  f228 := Tryz.func161.trans (congrArg some (by kernel_rfl))
  f231 := Tryz.func158.trans (congrArg some (by kernel_rfl))
  f232 := Tryz.func135.trans (congrArg some (by kernel_rfl))
  f233 := Tryz.func159.trans (congrArg some (by kernel_rfl))
  f234 := Tryz.func137.trans (congrArg some (by kernel_rfl))
  f235 := Tryz.func160.trans (congrArg some (by kernel_rfl))
  f236 := Tryz.func138.trans (congrArg some (by kernel_rfl))
  f260 := Tryz.func183.trans (congrArg some (by kernel_rfl))
  f266 := Tryz.func157.trans (congrArg some (by kernel_rfl))
  f271 := Tryz.func162.trans (congrArg some (by kernel_rfl))
  t0 := Tryz.underlying0
  a0 := Tryz.isAgg0
  z0 := Tryz.sizeOf0
  v0 := Tryz.zeroValue0
  t3 := Tryz.underlying3
  a3 := Tryz.isAgg3
  z3 := Tryz.sizeOf3
  v3 := Tryz.zeroValue3
  t4 := Tryz.underlying4
  a4 := Tryz.isAgg4
  z4 := Tryz.sizeOf4
  v4 := Tryz.zeroValue4
  t5 := Tryz.underlying5
  a5 := Tryz.isAgg5
  z5 := Tryz.sizeOf5
  v5 := Tryz.zeroValue5
  t9 := Tryz.underlying9
  a9 := Tryz.isAgg9
  z9 := Tryz.sizeOf9
  v9 := Tryz.zeroValue9
  t21 := Tryz.underlying21
  a21 := Tryz.isAgg21
  z21 := Tryz.sizeOf21
  v21 := Tryz.zeroValue21
  t46 := Tryz.underlying165
  a46 := Tryz.isAgg165
  z46 := Tryz.sizeOf165
  v46 := Tryz.zeroValue165
  t105 := Tryz.underlying167
  a105 := Tryz.isAgg167
  z105 := Tryz.sizeOf167
  v105 := Tryz.zeroValue167
  t116 := Tryz.underlying144
  a116 := Tryz.isAgg144
  z116 := Tryz.sizeOf144
  t117 := Tryz.underlying145
  a117 := Tryz.isAgg145
  z117 := Tryz.sizeOf145
  v117 := Tryz.zeroValue145
  t119 := Tryz.underlying204
  a119 := Tryz.isAgg204
  z119 := Tryz.sizeOf204
  t124 := Tryz.underlying148
  a124 := Tryz.isAgg148
  z124 := Tryz.sizeOf148
  v124 := Tryz.zeroValue148
  t138 := Tryz.underlying206
  a138 := Tryz.isAgg206
  z138 := Tryz.sizeOf206
  v138 := Tryz.zeroValue206
  t139 := Tryz.underlying207
  a139 := Tryz.isAgg207
  z139 := Tryz.sizeOf207
  v139 := Tryz.zeroValue207
  g3 := by kernel_rfl
  g4 := by kernel_rfl }
def Tryz.lays137_ren : Go.Shelf.Ren := ⟨fun | 137 => 100 | 217 => 130 | 266 => 157 | n => n, fun | 9 => 9 | 5 => 5 | 3 => 3 | n => n, fun | n => n⟩
theorem Tryz.lays137 : Go.Proofs.Lays.n137 Tryz.prog Tryz.lays137_ren := {
  mixed := by kernel_rfl
  f137 := Tryz.func100.trans (congrArg some (by kernel_rfl))
  f217 := Tryz.func130.trans (congrArg some (by kernel_rfl))
  f266 := Tryz.func157.trans (congrArg some (by kernel_rfl))
  t3 := Tryz.underlying3
  a3 := Tryz.isAgg3
  z3 := Tryz.sizeOf3
  v3 := Tryz.zeroValue3
  t5 := Tryz.underlying5
  a5 := Tryz.isAgg5
  z5 := Tryz.sizeOf5
  v5 := Tryz.zeroValue5
  t9 := Tryz.underlying9
  a9 := Tryz.isAgg9
  z9 := Tryz.sizeOf9
  v9 := Tryz.zeroValue9 }
def Tryz.lays103_ren : Go.Shelf.Ren := ⟨fun | 103 => 101 | 210 => 131 | 206 => 151 | n => n, fun | 9 => 9 | 4 => 4 | 24 => 60 | 3 => 3 | n => n, fun | n => n⟩
theorem Tryz.lays103 : Go.Proofs.Lays.n103 Tryz.prog Tryz.lays103_ren := {
  mixed := by kernel_rfl
  f103 := Tryz.func101.trans (congrArg some (by kernel_rfl))
  f206 := Tryz.func151.trans (congrArg some (by kernel_rfl))
  f210 := Tryz.func131.trans (congrArg some (by kernel_rfl))
  t3 := Tryz.underlying3
  a3 := Tryz.isAgg3
  z3 := Tryz.sizeOf3
  v3 := Tryz.zeroValue3
  t4 := Tryz.underlying4
  a4 := Tryz.isAgg4
  z4 := Tryz.sizeOf4
  v4 := Tryz.zeroValue4
  t9 := Tryz.underlying9
  a9 := Tryz.isAgg9
  z9 := Tryz.sizeOf9
  v9 := Tryz.zeroValue9
  t24 := Tryz.underlying60
  a24 := Tryz.isAgg60
  z24 := Tryz.sizeOf60
  v24 := Tryz.zeroValue60 }
def Tryz.lays172_ren : Go.Shelf.Ren := ⟨fun | 172 => 127 | 244 => 155 | 245 => 156 | 247 => 170 | 279 => 171 | 280 => 172 | 281 => 173 | 282 => 174 | 287 => 180 | 316 => 181 | 171 => 141 | 205 => 182 | 321 => 189 | 322 => 190 | 243 => 164 | 246 => 178 | 283 => 185 | 284 => 186 | 285 => 187 | 286 => 188 | 129 => 192 | 317 => 191 | 318 => 193 | 319 => 194 | 320 => 195 | 337 => 196 | 338 => 197 | n => n, fun | 9 => 9 | 3 => 3 | 75 => 139 | 76 => 140 | 4 => 4 | 5 => 5 | 167 => 180 | 37 => 164 | 0 => 0 | 85 => 181 | 2 => 2 | 168 => 183 | 53 => 159 | 175 => 188 | 46 => 165 | 210 => 191 | 127 => 200 | 145 => 203 | 143 => 201 | 21 => 21 | 171 => 194 | 173 => 197 | 212 => 209 | 51 => 177 | 20 => 20 | 213 => 210 | 232 => 213 | 233 => 214 | 80 => 112 | n => n, fun | 15 => 1 | 16 => 2 | 17 => 5 | 18 => 6 | 19 => 7 | n => n⟩
theorem Tryz.lays172 : Go.Proofs.Lays.n172 Tryz.prog Tryz.lays172_ren := {
  mixed := by kernel_rfl
  f129 := Tryz.func192.trans (congrArg some (by kernel_rfl))
  f171 := Tryz.func141.trans (congrArg some (by kernel_rfl))
  f172 := Tryz.func127.trans (congrArg some (by kernel_rfl))
  f205 := Tryz.func182.trans (congrArg some (by kernel_rfl))
  f243 := Tryz.func164.trans (congrArg some (by kernel_rfl))
  f244 := Tryz.func155.trans (congrArg some (by kernel_rfl))
  f245 := Tryz.func156.trans (congrArg some (by kernel_rfl))
  f246 := Tryz.func178.trans (congrArg some (by kernel_rfl))
  f247 := Tryz.func170.trans (congrArg some (by kernel_rfl))
  f279 := Tryz.func171.trans (congrArg some (by kernel_rfl))
  f280 := Tryz.func172.trans (congrArg some (by kernel_rfl))
  f281 := Tryz.func173.trans (congrArg some (by kernel_rfl))
  f282 := Tryz.func174.trans (congrArg some (by kernel_rfl))
  f283 := Tryz.func185.trans (congrArg some (by kernel_rfl))
  f284 := Tryz.func186.trans (congrArg some (by kernel_rfl))
  f285 := Tryz.func187.trans (congrArg some (by kernel_rfl))
  f286 := Tryz.func188.trans (congrArg some (by kernel_rfl))
  f287 := Tryz.func180.trans (congrArg some (by kernel_rfl))
  f316 := Tryz.func181.trans (congrArg some (by kernel_rfl))
  f317 := Tryz.func191.trans (congrArg some (by kernel_rfl))
  f318 := Tryz.func193.trans (congrArg some (by kernel_rfl))
  f319 := Tryz.func194.trans (congrArg some (by kernel_rfl))
  f320 := Tryz.func195.trans (congrArg some (by kernel_rfl))
  f321 := Tryz.func189.trans (congrArg some (by kernel_rfl))
  f322 := Tryz.func190.trans (congrArg some (by kernel_rfl))
  f337 := Tryz.func196.trans (congrArg some (by kernel_rfl))
  f338 := Tryz.func197.trans (congrArg some (by kernel_rfl))
  t0 := Tryz.underlying0
  a0 := Tryz.isAgg0
  z0 := Tryz.sizeOf0
  v0 := Tryz.zeroValue0
  t2 := Tryz.underlying2
  a2 := Tryz.isAgg2
  z2 := Tryz.sizeOf2
  v2 := Tryz.zeroValue2
  t3 := Tryz.underlying3
  a3 := Tryz.isAgg3
  z3 := Tryz.sizeOf3
  v3 := Tryz.zeroValue3
  t4 := Tryz.underlying4
  a4 := Tryz.isAgg4
  z4 := Tryz.sizeOf4
  v4 := Tryz.zeroValue4
  t5 := Tryz.underlying5
  a5 := Tryz.isAgg5
  z5 := Tryz.sizeOf5
  v5 := Tryz.zeroValue5
  t9 := Tryz.underlying9
  a9 := Tryz.isAgg9
  z9 := Tryz.sizeOf9
  v9 := Tryz.zeroValue9
  t20 := Tryz.underlying20
  a20 := Tryz.isAgg20
  z20 := Tryz.sizeOf20
  v20 := Tryz.zeroValue20
  t21 := Tryz.underlying21
  a21 := Tryz.isAgg21
  z21 := Tryz.sizeOf21
  v21 := Tryz.zeroValue21
  t37 := Tryz.underlying164
  a37 := Tryz.isAgg164
  z37 := Tryz.sizeOf164
  v37 := Tryz.zeroValue164
  t46 := Tryz.underlying165
  a46 := Tryz.isAgg165
  z46 := Tryz.sizeOf165
  v46 := Tryz.zeroValue165
  t51 := Tryz.underlying177
  a51 := Tryz.isAgg177
  z51 := Tryz.sizeOf177
  v51 := Tryz.zeroValue177
  t53 := Tryz.underlying159
  a53 := Tryz.isAgg159
  z53 := Tryz.sizeOf159
  v53 := Tryz.zeroValue159
  t75 := Tryz.underlying139
  a75 := Tryz.isAgg139
  z75 := Tryz.sizeOf139
  v75 := Tryz.zeroValue139
  t76 := Tryz.underlying140
  a76 := Tryz.isAgg140
  z76 := Tryz.sizeOf140
  v76 := Tryz.zeroValue140
  t85 := Tryz.underlying181
  a85 := Tryz.isAgg181
  z85 := Tryz.sizeOf181
  v85 := Tryz.zeroValue181
  t127 := Tryz.underlying200
  a127 := Tryz.isAgg200
  z127 := Tryz.sizeOf200
  v127 := Tryz.zeroValue200
  t143 := Tryz.underlying201
  a143 := Tryz.isAgg201
  z143 := Tryz.sizeOf201
  v143 := Tryz.zeroValue201
  t145 := Tryz.underlying203
  a145 := Tryz.isAgg203
  z145 := Tryz.sizeOf203
  v145 := Tryz.zeroValue203
  t167 := Tryz.underlying180
  a167 := Tryz.isAgg180
  z167 := Tryz.sizeOf180
  v167 := Tryz.zeroValue180
  t168 := Tryz.underlying183
  a168 := Tryz.isAgg183
  z168 := Tryz.sizeOf183
  v168 := Tryz.zeroValue183
  t171 := Tryz.underlying194
  a171 := Tryz.isAgg194
  z171 := Tryz.sizeOf194
  v171 := Tryz.zeroValue194
  t173 := Tryz.underlying197
  a173 := Tryz.isAgg197
  z173 := Tryz.sizeOf197
  v173 := Tryz.zeroValue197
  t175 := Tryz.underlying188
  a175 := Tryz.isAgg188
  z175 := Tryz.sizeOf188
  v175 := Tryz.zeroValue188
  t210 := Tryz.underlying191
  a210 := Tryz.isAgg191
  z210 := Tryz.sizeOf191
  v210 := Tryz.zeroValue191
  t212 := Tryz.underlying209
  a212 := Tryz.isAgg209
  z212 := Tryz.sizeOf209
  v212 := Tryz.zeroValue209
  t213 := Tryz.underlying210
  a213 := Tryz.isAgg210
  z213 := Tryz.sizeOf210
  t232 := Tryz.underlying213
  a232 := Tryz.isAgg213
  z232 := Tryz.sizeOf213
  v232 := Tryz.zeroValue213
  t233 := Tryz.underlying214
  a233 := Tryz.isAgg214
  z233 := Tryz.sizeOf214
  v233 := Tryz.zeroValue214
  g15 := by kernel_rfl
  g16 := by kernel_rfl
  g17 := by kernel_rfl
  g18 := by kernel_rfl
  g19 := by kernel_rfl }
def Tryz.lays143_ren : Go.Shelf.Ren := ⟨fun | 143 => 95 | 219 => 126 | 217 => 130 | 225 => 152 | 224 => 153 | 267 => 154 | 266 => 157 | 314 => 169 | n => n, fun | 9 => 9 | 3 => 3 | 4 => 4 | 5 => 5 | 46 => 165 | 146 => 178 | 51 => 177 | n => n, fun | 1 => 0 | n => n⟩
theorem Tryz.lays143 : Go.Proofs.Lays.n143 Tryz.prog Tryz.lays143_ren := {
  mixed := by kernel_rfl
  f143 := Tryz.func95.trans (congrArg some (by kernel_rfl))
  f217 := Tryz.func130.trans (congrArg some (by kernel_rfl))
  f219 := Tryz.func126.trans (congrArg some (by kernel_rfl))
  f224 := Tryz.func153.trans (congrArg some (by kernel_rfl))
  f225 := Tryz.func152.trans (congrArg some (by kernel_rfl))
  f266 := Tryz.func157.trans (congrArg some (by kernel_rfl))
  f267 := Tryz.func154.trans (congrArg some (by kernel_rfl))
  f314 := Tryz.func169.trans (congrArg some (by kernel_rfl))
  t3 := Tryz.underlying3
  a3 := Tryz.isAgg3
  z3 := Tryz.sizeOf3
  v3 := Tryz.zeroValue3
  t4 := Tryz.underlying4
  a4 := Tryz.isAgg4
  z4 := Tryz.sizeOf4
  v4 := Tryz.zeroValue4
  t5 := Tryz.underlying5
  a5 := Tryz.isAgg5
  z5 := Tryz.sizeOf5
  v5 := Tryz.zeroValue5
  t9 := Tryz.underlying9
  a9 := Tryz.isAgg9
  z9 := Tryz.sizeOf9
  v9 := Tryz.zeroValue9
  t46 := Tryz.underlying165
  a46 := Tryz.isAgg165
  z46 := Tryz.sizeOf165
  v46 := Tryz.zeroValue165
  t51 := Tryz.underlying177
  a51 := Tryz.isAgg177
  z51 := Tryz.sizeOf177
  v51 := Tryz.zeroValue177
  t146 := Tryz.underlying178
  a146 := Tryz.isAgg178
  z146 := Tryz.sizeOf178
  v146 := Tryz.zeroValue178
  g1 := by kernel_rfl }
def Tryz.lays145_ren : Go.Shelf.Ren := ⟨fun | 145 => 102 | 220 => 132 | 219 => 126 | 217 => 130 | 225 => 152 | 224 => 153 | 267 => 154 | 266 => 157 | 314 => 169 | n => n, fun | 9 => 9 | 4 => 4 | 59 => 120 | 3 => 3 | 5 => 5 | 46 => 165 | 146 => 178 | 51 => 177 | n => n, fun | 1 => 0 | n => n⟩
theorem Tryz.lays145 : Go.Proofs.Lays.n145 Tryz.prog Tryz.lays145_ren := {
  mixed := by kernel_rfl
  f145 := Tryz.func102.trans (congrArg some (by kernel_rfl))
  f217 := Tryz.func130.trans (congrArg some (by kernel_rfl))
  f219 := Tryz.func126.trans (congrArg some (by kernel_rfl))
  f220 := Tryz.func132.trans (congrArg some (by kernel_rfl))
  f224 := Tryz.func153.trans (congrArg some (by kernel_rfl))
  f225 := Tryz.func152.trans (congrArg some (by kernel_rfl))
  f266 := Tryz.func157.trans (congrArg some (by kernel_rfl))
  f267 := Tryz.func154.trans (congrArg some (by kernel_rfl))
  f314 := Tryz.func169.trans (congrArg some (by kernel_rfl))
  t3 := Tryz.underlying3
  a3 := Tryz.isAgg3
  z3 := Tryz.sizeOf3
  v3 := Tryz.zeroValue3
  t4 := Tryz.underlying4
  a4 := Tryz.isAgg4
  z4 := Tryz.sizeOf4
  v4 := Tryz.zeroValue4
  t5 := Tryz.underlying5
  a5 := Tryz.isAgg5
  z5 := Tryz.sizeOf5
  v5 := Tryz.zeroValue5
  t9 := Tryz.underlying9
  a9 := Tryz.isAgg9
  z9 := Tryz.sizeOf9
  v9 := Tryz.zeroValue9
  t46 := Tryz.underlying165
  a46 := Tryz.isAgg165
  z46 := Tryz.sizeOf165
  v46 := Tryz.zeroValue165
  t51 := Tryz.underlying177
  a51 := Tryz.isAgg177
  z51 := Tryz.sizeOf177
  v51 := Tryz.zeroValue177
  t59 := Tryz.underlying120
  a59 := Tryz.isAgg120
  z59 := Tryz.sizeOf120
  v59 := Tryz.zeroValue120
  t146 := Tryz.underlying178
  a146 := Tryz.isAgg178
  z146 := Tryz.sizeOf178
  v146 := Tryz.zeroValue178
  g1 := by kernel_rfl }
def Tryz.lays99_ren : Go.Shelf.Ren := ⟨fun | 99 => 125 | 206 => 151 | n => n, fun | 9 => 9 | 4 => 4 | 3 => 3 | n => n, fun | n => n⟩
theorem Tryz.lays99 : Go.Proofs.Lays.n99 Tryz.prog Tryz.lays99_ren := {
  mixed := by kernel_rfl
  f99 := Tryz.func125.trans (congrArg some (by kernel_rfl))
  f206 := Tryz.func151.trans (congrArg some (by kernel_rfl))
  t3 := Tryz.underlying3
  a3 := Tryz.isAgg3
  z3 := Tryz.sizeOf3
  v3 := Tryz.zeroValue3
  t4 := Tryz.underlying4
  a4 := Tryz.isAgg4
  z4 := Tryz.sizeOf4
  v4 := Tryz.zeroValue4
  t9 := Tryz.underlying9
  a9 := Tryz.isAgg9
  z9 := Tryz.sizeOf9
  v9 := Tryz.zeroValue9 }
end Go.Proofs
