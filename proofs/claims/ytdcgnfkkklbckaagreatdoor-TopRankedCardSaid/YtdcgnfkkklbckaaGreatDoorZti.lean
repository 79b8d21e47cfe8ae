/- TOP: TopRanked. -/
import Derived.Shelf.Strings.BuilderK
import Derived.Test.YtdcgnfkkklbckaaGreatDoorRows
import Derived.Shelf.Strconv.Itoa3
import Derived.Shelf.Strings.Split
import Derived.Shelf.Strings.FieldsFuncAny
import Derived.Shelf.Strings.SlTrimAscii
import Derived.Shelf.Strconv.Atoi
import Derived.Test.YtdcgnfkkklbckaaGreatDoorZth
import Derived.Test.YtdcgnfkkklbckaaGreatDoorZtg
import Derived.WalkKit
import Derived.Test.YtdcgnfkkklbckaaGreatDoorZtf
import Derived.Defers
/- THE LIBRARY's strings.Builder AT THIS PROGRAM: the layings of its functions. -/
set_option linter.unusedSimpArgs false
set_option linter.unusedVariables false
namespace Go.Proofs.YtdcgnfkkklbckaaGreatDoor
namespace Sh
open Go.Shelf
def lays240_ren : Go.Shelf.Ren := ⟨fun | 166 => 64 | 167 => 66 | 240 => 130 | 276 => 189 | 169 => 67 | n => n, fun | 70 => 167 | 72 => 169 | 37 => 92 | 75 => 171 | 80 => 178 | 164 => 318 | 127 => 263 | n => n, fun | n => n⟩
theorem lays240 : Go.Proofs.Lays.n240 Tryz.prog lays240_ren := {
  mixed := by kernel_rfl
  f240 := Tryz.func130.trans (congrArg some (by kernel_rfl))
  f276 := Tryz.func189.trans (congrArg some (by kernel_rfl))
  t0 := Tryz.underlying0
  a0 := Tryz.isAgg0
  z0 := Tryz.sizeOf0
  v0 := Tryz.zeroValue0
  t4 := Tryz.underlying4
  a4 := Tryz.isAgg4
  z4 := Tryz.sizeOf4
  v4 := Tryz.zeroValue4
  t9 := Tryz.underlying9
  a9 := Tryz.isAgg9
  z9 := Tryz.sizeOf9
  v9 := Tryz.zeroValue9
  t20 := Tryz.underlying20
  a20 := Tryz.isAgg20
  z20 := Tryz.sizeOf20
  v20 := Tryz.zeroValue20
  t70 := Tryz.underlying167
  a70 := Tryz.isAgg167
  z70 := Tryz.sizeOf167
  v70 := Tryz.zeroValue167
  t72 := Tryz.underlying169
  a72 := Tryz.isAgg169
  z72 := Tryz.sizeOf169
  v72 := Tryz.zeroValue169
  t164 := Tryz.underlying318
  a164 := Tryz.isAgg318
  z164 := Tryz.sizeOf318
  v164 := Tryz.zeroValue318 }
def lays167_ren : Go.Shelf.Ren := ⟨fun | 166 => 64 | 167 => 66 | 240 => 130 | 276 => 189 | 169 => 67 | n => n, fun | 70 => 167 | 72 => 169 | 37 => 92 | 75 => 171 | 80 => 178 | 164 => 318 | 127 => 263 | n => n, fun | n => n⟩
theorem lays167 : Go.Proofs.Lays.n167 Tryz.prog lays167_ren := {
  mixed := by kernel_rfl
  f167 := Tryz.func66.trans (congrArg some (by kernel_rfl))
  f240 := Tryz.func130.trans (congrArg some (by kernel_rfl))
  f276 := Tryz.func189.trans (congrArg some (by kernel_rfl))
  t0 := Tryz.underlying0
  a0 := Tryz.isAgg0
  z0 := Tryz.sizeOf0
  v0 := Tryz.zeroValue0
  t4 := Tryz.underlying4
  a4 := Tryz.isAgg4
  z4 := Tryz.sizeOf4
  v4 := Tryz.zeroValue4
  t5 := Tryz.underlying5
  a5 := Tryz.isAgg5
  z5 := Tryz.sizeOf5
  v5 := Tryz.zeroValue5
  t9 := Tryz.underlying9
  a9 := Tryz.isAgg9
  z9 := Tryz.sizeOf9
  v9 := Tryz.zeroValue9
  t20 := Tryz.underlying20
  a20 := Tryz.isAgg20
  z20 := Tryz.sizeOf20
  v20 := Tryz.zeroValue20
  t37 := Tryz.underlying92
  a37 := Tryz.isAgg92
  z37 := Tryz.sizeOf92
  v37 := Tryz.zeroValue92
  t70 := Tryz.underlying167
  a70 := Tryz.isAgg167
  z70 := Tryz.sizeOf167
  v70 := Tryz.zeroValue167
  t72 := Tryz.underlying169
  a72 := Tryz.isAgg169
  z72 := Tryz.sizeOf169
  v72 := Tryz.zeroValue169
  t75 := Tryz.underlying171
  a75 := Tryz.isAgg171
  z75 := Tryz.sizeOf171
  v75 := Tryz.zeroValue171
  t164 := Tryz.underlying318
  a164 := Tryz.isAgg318
  z164 := Tryz.sizeOf318
  v164 := Tryz.zeroValue318 }
def lays166_ren : Go.Shelf.Ren := ⟨fun | 166 => 64 | 167 => 66 | 240 => 130 | 276 => 189 | 169 => 67 | n => n, fun | 70 => 167 | 72 => 169 | 37 => 92 | 75 => 171 | 80 => 178 | 164 => 318 | 127 => 263 | n => n, fun | n => n⟩
theorem lays166 : Go.Proofs.Lays.n166 Tryz.prog lays166_ren := {
  mixed := by kernel_rfl
  f166 := Tryz.func64.trans (congrArg some (by kernel_rfl))
  f240 := Tryz.func130.trans (congrArg some (by kernel_rfl))
  f276 := Tryz.func189.trans (congrArg some (by kernel_rfl))
  t0 := Tryz.underlying0
  a0 := Tryz.isAgg0
  z0 := Tryz.sizeOf0
  v0 := Tryz.zeroValue0
  t3 := Tryz.underlying3
  a3 := Tryz.isAgg3
  z3 := Tryz.sizeOf3
  v3 := Tryz.zeroValue3
  t4 := Tryz.underlying4
  a4 := Tryz.isAgg4
  z4 := Tryz.sizeOf4
  v4 := Tryz.zeroValue4
  t9 := Tryz.underlying9
  a9 := Tryz.isAgg9
  z9 := Tryz.sizeOf9
  v9 := Tryz.zeroValue9
  t20 := Tryz.underlying20
  a20 := Tryz.isAgg20
  z20 := Tryz.sizeOf20
  v20 := Tryz.zeroValue20
  t37 := Tryz.underlying92
  a37 := Tryz.isAgg92
  z37 := Tryz.sizeOf92
  v37 := Tryz.zeroValue92
  t70 := Tryz.underlying167
  a70 := Tryz.isAgg167
  z70 := Tryz.sizeOf167
  v70 := Tryz.zeroValue167
  t72 := Tryz.underlying169
  a72 := Tryz.isAgg169
  z72 := Tryz.sizeOf169
  v72 := Tryz.zeroValue169
  t75 := Tryz.underlying171
  a75 := Tryz.isAgg171
  z75 := Tryz.sizeOf171
  v75 := Tryz.zeroValue171
  t164 := Tryz.underlying318
  a164 := Tryz.isAgg318
  z164 := Tryz.sizeOf318
  v164 := Tryz.zeroValue318 }
def lays169_ren : Go.Shelf.Ren := ⟨fun | 166 => 64 | 167 => 66 | 240 => 130 | 276 => 189 | 169 => 67 | n => n, fun | 70 => 167 | 72 => 169 | 37 => 92 | 75 => 171 | 80 => 178 | 164 => 318 | 127 => 263 | n => n, fun | n => n⟩
theorem lays169 : Go.Proofs.Lays.n169 Tryz.prog lays169_ren := {
  mixed := by kernel_rfl
  f169 := Tryz.func67.trans (congrArg some (by kernel_rfl))
  t0 := Tryz.underlying0
  a0 := Tryz.isAgg0
  z0 := Tryz.sizeOf0
  v0 := Tryz.zeroValue0
  t3 := Tryz.underlying3
  a3 := Tryz.isAgg3
  z3 := Tryz.sizeOf3
  v3 := Tryz.zeroValue3
  t9 := Tryz.underlying9
  a9 := Tryz.isAgg9
  z9 := Tryz.sizeOf9
  v9 := Tryz.zeroValue9
  t37 := Tryz.underlying92
  a37 := Tryz.isAgg92
  z37 := Tryz.sizeOf92
  v37 := Tryz.zeroValue92
  t70 := Tryz.underlying167
  a70 := Tryz.isAgg167
  z70 := Tryz.sizeOf167
  v70 := Tryz.zeroValue167
  t72 := Tryz.underlying169
  a72 := Tryz.isAgg169
  z72 := Tryz.sizeOf169
  v72 := Tryz.zeroValue169
  t127 := Tryz.underlying263
  a127 := Tryz.isAgg263
  z127 := Tryz.sizeOf263
  v127 := Tryz.zeroValue263 }
theorem bX_240 : Go.Proofs.Builder.X72 Tryz.prog lays240_ren := {
  sizeBuilder := by kernel_rfl
  liesBuilder := by kernel_rfl }
theorem bX_167 : Go.Proofs.Builder.Extra Tryz.prog lays167_ren := {
  sizeBuilder := by kernel_rfl
  liesBuilder := by kernel_rfl
  t5 := Tryz.underlying5
  a5 := Tryz.isAgg5
  z5 := Tryz.sizeOf5
  v5 := Tryz.zeroValue5
  infoByte := by kernel_rfl
  cellsByte := by kernel_rfl
  sizeByte := by kernel_rfl
  neB5 := by decide }
theorem bX_166 : Go.Proofs.Builder.Extra Tryz.prog lays166_ren := {
  sizeBuilder := by kernel_rfl
  liesBuilder := by kernel_rfl
  t5 := Tryz.underlying5
  a5 := Tryz.isAgg5
  z5 := Tryz.sizeOf5
  v5 := Tryz.zeroValue5
  infoByte := by kernel_rfl
  cellsByte := by kernel_rfl
  sizeByte := by kernel_rfl
  neB5 := by decide }
theorem bX_169 : Go.Proofs.Builder.Extra Tryz.prog lays169_ren := {
  sizeBuilder := by kernel_rfl
  liesBuilder := by kernel_rfl
  t5 := Tryz.underlying5
  a5 := Tryz.isAgg5
  z5 := Tryz.sizeOf5
  v5 := Tryz.zeroValue5
  infoByte := by kernel_rfl
  cellsByte := by kernel_rfl
  sizeByte := by kernel_rfl
  neB5 := by decide }
end Sh
end Go.Proofs.YtdcgnfkkklbckaaGreatDoor
/- THE LIBRARY's CONTRACTS AT THIS PROGRAM: laid by the shelf's own programs (plain words). -/
set_option linter.unusedSimpArgs false
set_option linter.unusedVariables false
namespace Go.Proofs.YtdcgnfkkklbckaaGreatDoor
namespace Sh
open Go.Shelf
def laysM171_ren : Go.Shelf.Ren := ⟨fun | 171 => 65 | 243 => 131 | 246 => 190 | 283 => 235 | 284 => 236 | 285 => 237 | 286 => 238 | 129 => 269 | 317 => 281 | 318 => 282 | 319 => 283 | 320 => 284 | 337 => 317 | 338 => 318 | n => n, fun | 3 => 3 | 9 => 9 | 2 => 2 | 4 => 4 | 171 => 371 | 0 => 0 | 53 => 372 | 37 => 92 | 5 => 5 | 173 => 375 | 212 => 411 | 51 => 399 | 20 => 20 | 213 => 412 | 46 => 201 | 232 => 449 | 233 => 450 | n => n, fun | 17 => 3 | 18 => 7 | 19 => 8 | n => n⟩
theorem laysM171 : Go.Proofs.LaysM.n171 Tryz.prog laysM171_ren := {
  mixed := by kernel_rfl
  f129 := Tryz.func269.trans (congrArg some (by kernel_rfl))
  f171 := Tryz.func65.trans (congrArg some (by kernel_rfl))
  f243 := Tryz.func131.trans (congrArg some (by kernel_rfl))
  f246 := Tryz.func190.trans (congrArg some (by kernel_rfl))
  f283 := Tryz.func235.trans (congrArg some (by kernel_rfl))
  f284 := Tryz.func236.trans (congrArg some (by kernel_rfl))
  f285 := Tryz.func237.trans (congrArg some (by kernel_rfl))
  f286 := Tryz.func238.trans (congrArg some (by kernel_rfl))
  f317 := Tryz.func281.trans (congrArg some (by kernel_rfl))
  f318 := Tryz.func282.trans (congrArg some (by kernel_rfl))
  f319 := Tryz.func283.trans (congrArg some (by kernel_rfl))
  f320 := Tryz.func284.trans (congrArg some (by kernel_rfl))
  f337 := Tryz.func317.trans (congrArg some (by kernel_rfl))
  f338 := Tryz.func318.trans (congrArg some (by kernel_rfl))
  t0 := Tryz.underlying0
  a0 := Tryz.isAgg0
  z0 := Tryz.sizeOf0
  v0 := Tryz.zeroValue0
  t2 := Tryz.underlying2
  a2 := Tryz.isAgg2
  z2 := Tryz.sizeOf2
  v2 := Tryz.zeroValue2
  t3 := Tryz.underlying3
  a3 := Tryz.isAgg3
  z3 := Tryz.sizeOf3
  v3 := Tryz.zeroValue3
  t4 := Tryz.underlying4
  a4 := Tryz.isAgg4
  z4 := Tryz.sizeOf4
  v4 := Tryz.zeroValue4
  t5 := Tryz.underlying5
  a5 := Tryz.isAgg5
  z5 := Tryz.sizeOf5
  v5 := Tryz.zeroValue5
  t9 := Tryz.underlying9
  a9 := Tryz.isAgg9
  z9 := Tryz.sizeOf9
  v9 := Tryz.zeroValue9
  t20 := Tryz.underlying20
  a20 := Tryz.isAgg20
  z20 := Tryz.sizeOf20
  v20 := Tryz.zeroValue20
  t37 := Tryz.underlying92
  a37 := Tryz.isAgg92
  z37 := Tryz.sizeOf92
  v37 := Tryz.zeroValue92
  t46 := Tryz.underlying201
  a46 := Tryz.isAgg201
  z46 := Tryz.sizeOf201
  v46 := Tryz.zeroValue201
  t51 := Tryz.underlying399
  a51 := Tryz.isAgg399
  z51 := Tryz.sizeOf399
  v51 := Tryz.zeroValue399
  t53 := Tryz.underlying372
  a53 := Tryz.isAgg372
  z53 := Tryz.sizeOf372
  v53 := Tryz.zeroValue372
  t171 := Tryz.underlying371
  a171 := Tryz.isAgg371
  z171 := Tryz.sizeOf371
  v171 := Tryz.zeroValue371
  t173 := Tryz.underlying375
  a173 := Tryz.isAgg375
  z173 := Tryz.sizeOf375
  v173 := Tryz.zeroValue375
  t212 := Tryz.underlying411
  a212 := Tryz.isAgg411
  z212 := Tryz.sizeOf411
  v212 := Tryz.zeroValue411
  t213 := Tryz.underlying412
  a213 := Tryz.isAgg412
  z213 := Tryz.sizeOf412
  t232 := Tryz.underlying449
  a232 := Tryz.isAgg449
  z232 := Tryz.sizeOf449
  v232 := Tryz.zeroValue449
  t233 := Tryz.underlying450
  a233 := Tryz.isAgg450
  z233 := Tryz.sizeOf450
  v233 := Tryz.zeroValue450
  g17 := by kernel_rfl
  g18 := by kernel_rfl
  g19 := by kernel_rfl
  i0 := by kernel_rfl
  i2 := by kernel_rfl
  i3 := by kernel_rfl
  i4 := by kernel_rfl
  i5 := by kernel_rfl
  i9 := by kernel_rfl
  i20 := by kernel_rfl
  i37 := by kernel_rfl
  i46 := by kernel_rfl
  i51 := by kernel_rfl
  i53 := by kernel_rfl
  i171 := by kernel_rfl
  i173 := by kernel_rfl
  i212 := by kernel_rfl
  i232 := by kernel_rfl
  i233 := by kernel_rfl
  m17 := by kernel_rfl
  m18 := by kernel_rfl
  m19 := by kernel_rfl }
def lays146_ren : Go.Shelf.Ren := ⟨fun | 146 => 132 | 221 => 191 | 268 => 239 | 138 => 240 | 143 => 241 | 195 => 285 | 197 => 286 | 218 => 287 | 219 => 288 | 260 => 319 | 217 => 320 | 225 => 321 | 224 => 322 | 267 => 323 | 266 => 335 | 314 => 336 | n => n, fun | 9 => 9 | 31 => 181 | 3 => 3 | 4 => 4 | 0 => 0 | 105 => 414 | 21 => 21 | 5 => 5 | 46 => 201 | 119 => 451 | 139 => 454 | 138 => 453 | 146 => 455 | 51 => 399 | n => n, fun | 1 => 4 | 3 => 9 | 4 => 10 | n => n⟩
theorem lays146 : Go.Proofs.Lays.n146 Tryz.prog lays146_ren := {
  mixed := by kernel_rfl
  f138 := Tryz.func240.trans (congrArg some (by kernel_rfl))
  f143 := Tryz.func241.trans (congrArg some (by kernel_rfl))
  f146 := Tryz.func132.trans (congrArg some (by kernel_rfl))
  f195 := Tryz.func285.trans (congrArg some (by kernel_rfl))
  f197 := Tryz.func286.trans (congrArg some (by kernel_rfl))
  f217 := Tryz.func320.trans (congrArg some (by kernel_rfl))
  f218 := Tryz.func287.trans (congrArg some (by kernel_rfl))
  f219 := Tryz.func288.trans (congrArg some (by kernel_rfl))
  f221 := Tryz.func191.trans (congrArg some (by kernel_rfl))
  f224 := Tryz.func322.trans (congrArg some (by kernel_rfl))
  f225 := Tryz.func321.trans (congrArg some (by kernel_rfl))
  f260 := Tryz.func319.trans (congrArg some (by kernel_rfl))
  f266 := Tryz.func335.trans (congrArg some (by kernel_rfl))
  f267 := Tryz.func323.trans (congrArg some (by kernel_rfl))
  f268 := Tryz.func239.trans (congrArg some (by kernel_rfl))
  f314 := Tryz.func336.trans (congrArg some (by kernel_rfl))
  t0 := Tryz.underlying0
  a0 := Tryz.isAgg0
  z0 := Tryz.sizeOf0
  v0 := Tryz.zeroValue0
  t3 := Tryz.underlying3
  a3 := Tryz.isAgg3
  z3 := Tryz.sizeOf3
  v3 := Tryz.zeroValue3
  t4 := Tryz.underlying4
  a4 := Tryz.isAgg4
  z4 := Tryz.sizeOf4
  v4 := Tryz.zeroValue4
  t5 := Tryz.underlying5
  a5 := Tryz.isAgg5
  z5 := Tryz.sizeOf5
  v5 := Tryz.zeroValue5
  t9 := Tryz.underlying9
  a9 := Tryz.isAgg9
  z9 := Tryz.sizeOf9
  v9 := Tryz.zeroValue9
  t21 := Tryz.underlying21
  a21 := Tryz.isAgg21
  z21 := Tryz.sizeOf21
  v21 := Tryz.zeroValue21
  t31 := Tryz.underlying181
  a31 := Tryz.isAgg181
  z31 := Tryz.sizeOf181
  v31 := Tryz.zeroValue181
  t46 := Tryz.underlying201
  a46 := Tryz.isAgg201
  z46 := Tryz.sizeOf201
  v46 := Tryz.zeroValue201
  t51 := Tryz.underlying399
  a51 := Tryz.isAgg399
  z51 := Tryz.sizeOf399
  v51 := Tryz.zeroValue399
  t105 := Tryz.underlying414
  a105 := Tryz.isAgg414
  z105 := Tryz.sizeOf414
  v105 := Tryz.zeroValue414
  t119 := Tryz.underlying451
  a119 := Tryz.isAgg451
  z119 := Tryz.sizeOf451
  t138 := Tryz.underlying453
  a138 := Tryz.isAgg453
  z138 := Tryz.sizeOf453
  v138 := Tryz.zeroValue453
  t139 := Tryz.underlying454
  a139 := Tryz.isAgg454
  z139 := Tryz.sizeOf454
  v139 := Tryz.zeroValue454
  t146 := Tryz.underlying455
  a146 := Tryz.isAgg455
  z146 := Tryz.sizeOf455
  v146 := Tryz.zeroValue455
  g1 := by kernel_rfl
  g3 := by kernel_rfl
  g4 := by kernel_rfl }
def lays229_ren : Go.Shelf.Ren := ⟨fun | 229 => 149 | n => n, fun | 9 => 9 | 40 => 282 | 31 => 181 | 152 => 329 | 3 => 3 | 0 => 0 | 4 => 4 | 21 => 21 | 154 => 331 | n => n, fun | n => n⟩
theorem lays229 : Go.Proofs.Lays.n229 Tryz.prog lays229_ren := {
  mixed := by kernel_rfl
  f229 := Tryz.func149.trans (congrArg some (by kernel_rfl))
  t0 := Tryz.underlying0
  a0 := Tryz.isAgg0
  z0 := Tryz.sizeOf0
  v0 := Tryz.zeroValue0
  t3 := Tryz.underlying3
  a3 := Tryz.isAgg3
  z3 := Tryz.sizeOf3
  v3 := Tryz.zeroValue3
  t4 := Tryz.underlying4
  a4 := Tryz.isAgg4
  z4 := Tryz.sizeOf4
  v4 := Tryz.zeroValue4
  t9 := Tryz.underlying9
  a9 := Tryz.isAgg9
  z9 := Tryz.sizeOf9
  v9 := Tryz.zeroValue9
  t21 := Tryz.underlying21
  a21 := Tryz.isAgg21
  z21 := Tryz.sizeOf21
  v21 := Tryz.zeroValue21
  t31 := Tryz.underlying181
  a31 := Tryz.isAgg181
  z31 := Tryz.sizeOf181
  v31 := Tryz.zeroValue181
  t40 := Tryz.underlying282
  a40 := Tryz.isAgg282
  z40 := Tryz.sizeOf282
  v40 := Tryz.zeroValue282
  t152 := Tryz.underlying329
  a152 := Tryz.isAgg329
  z152 := Tryz.sizeOf329
  v152 := Tryz.zeroValue329
  t154 := Tryz.underlying331
  a154 := Tryz.isAgg331
  z154 := Tryz.sizeOf331
  v154 := Tryz.zeroValue331 }
def lays160_ren : Go.Shelf.Ren := ⟨fun | 160 => 193 | 232 => 243 | 231 => 242 | 227 => 244 | 234 => 246 | 233 => 245 | 236 => 248 | 235 => 247 | 228 => 289 | 271 => 291 | 151 => 290 | 197 => 286 | 120 => 325 | 152 => 324 | 260 => 319 | 137 => 337 | 119 => 338 | 224 => 322 | 225 => 321 | 217 => 320 | 266 => 335 | n => n, fun | 9 => 9 | 4 => 4 | 3 => 3 | 5 => 5 | 117 => 382 | 116 => 381 | 0 => 0 | 124 => 385 | 21 => 21 | 105 => 414 | 46 => 201 | 119 => 451 | 139 => 454 | 138 => 453 | n => n, fun | 3 => 9 | 4 => 10 | n => n⟩
theorem lays160 : Go.Proofs.Lays.n160 Tryz.prog lays160_ren := {
  mixed := by kernel_rfl
  f119 := Tryz.func338.trans (congrArg some (by kernel_rfl))
  f120 := Tryz.func325.trans (congrArg some (by kernel_rfl))
  f137 := Tryz.func337.trans (congrArg some (by kernel_rfl))
  f151 := Tryz.func290.trans (congrArg some (by kernel_rfl))
  f152 := Tryz.func324.trans (congrArg some (by kernel_rfl))
  f160 := Tryz.func193.trans (congrArg some (by kernel_rfl))
  f197 := Tryz.func286.trans (congrArg some (by kernel_rfl))
  f217 := Tryz.func320.trans (congrArg some (by kernel_rfl))
  f224 := Tryz.func322.trans (congrArg some (by kernel_rfl))
  f225 := Tryz.func321.trans (congrArg some (by kernel_rfl))
  f227 := Tryz.func244.trans (congrArg some (by kernel_rfl))
  f228 := Tryz.func289.trans (congrArg some (by kernel_rfl))
  f231 := Tryz.func242.trans (congrArg some (by kernel_rfl))
  f232 := Tryz.func243.trans (congrArg some (by kernel_rfl))
  f233 := Tryz.func245.trans (congrArg some (by kernel_rfl))
  f234 := Tryz.func246.trans (congrArg some (by kernel_rfl))
  f235 := Tryz.func247.trans (congrArg some (by kernel_rfl))
  f236 := Tryz.func248.trans (congrArg some (by kernel_rfl))
  f260 := Tryz.func319.trans (congrArg some (by kernel_rfl))
  f266 := Tryz.func335.trans (congrArg some (by kernel_rfl))
  f271 := Tryz.func291.trans (congrArg some (by kernel_rfl))
  t0 := Tryz.underlying0
  a0 := Tryz.isAgg0
  z0 := Tryz.sizeOf0
  v0 := Tryz.zeroValue0
  t3 := Tryz.underlying3
  a3 := Tryz.isAgg3
  z3 := Tryz.sizeOf3
  v3 := Tryz.zeroValue3
  t4 := Tryz.underlying4
  a4 := Tryz.isAgg4
  z4 := Tryz.sizeOf4
  v4 := Tryz.zeroValue4
  t5 := Tryz.underlying5
  a5 := Tryz.isAgg5
  z5 := Tryz.sizeOf5
  v5 := Tryz.zeroValue5
  t9 := Tryz.underlying9
  a9 := Tryz.isAgg9
  z9 := Tryz.sizeOf9
  v9 := Tryz.zeroValue9
  t21 := Tryz.underlying21
  a21 := Tryz.isAgg21
  z21 := Tryz.sizeOf21
  v21 := Tryz.zeroValue21
  t46 := Tryz.underlying201
  a46 := Tryz.isAgg201
  z46 := Tryz.sizeOf201
  v46 := Tryz.zeroValue201
  t105 := Tryz.underlying414
  a105 := Tryz.isAgg414
  z105 := Tryz.sizeOf414
  v105 := Tryz.zeroValue414
  t116 := Tryz.underlying381
  a116 := Tryz.isAgg381
  z116 := Tryz.sizeOf381
  t117 := Tryz.underlying382
  a117 := Tryz.isAgg382
  z117 := Tryz.sizeOf382
  v117 := Tryz.zeroValue382
  t119 := Tryz.underlying451
  a119 := Tryz.isAgg451
  z119 := Tryz.sizeOf451
  t124 := Tryz.underlying385
  a124 := Tryz.isAgg385
  z124 := Tryz.sizeOf385
  v124 := Tryz.zeroValue385
  t138 := Tryz.underlying453
  a138 := Tryz.isAgg453
  z138 := Tryz.sizeOf453
  v138 := Tryz.zeroValue453
  t139 := Tryz.underlying454
  a139 := Tryz.isAgg454
  z139 := Tryz.sizeOf454
  v139 := Tryz.zeroValue454
  g3 := by kernel_rfl
  g4 := by kernel_rfl }
def lays172_ren : Go.Shelf.Ren := ⟨fun | 172 => 194 | 244 => 249 | 245 => 250 | 247 => 292 | 279 => 293 | 280 => 294 | 281 => 295 | 282 => 296 | 287 => 326 | 316 => 327 | 171 => 65 | 205 => 328 | 321 => 339 | 322 => 340 | 243 => 131 | 246 => 190 | 283 => 235 | 284 => 236 | 285 => 237 | 286 => 238 | 129 => 269 | 317 => 281 | 318 => 282 | 319 => 283 | 320 => 284 | 337 => 317 | 338 => 318 | n => n, fun | 9 => 9 | 3 => 3 | 75 => 171 | 76 => 172 | 4 => 4 | 5 => 5 | 167 => 419 | 37 => 92 | 0 => 0 | 85 => 420 | 2 => 2 | 168 => 422 | 53 => 372 | 175 => 438 | 46 => 201 | 210 => 442 | 127 => 263 | 145 => 461 | 143 => 459 | 21 => 21 | 171 => 371 | 173 => 375 | 212 => 411 | 51 => 399 | 20 => 20 | 213 => 412 | 232 => 449 | 233 => 450 | 80 => 178 | n => n, fun | 15 => 5 | 16 => 6 | 17 => 3 | 18 => 7 | 19 => 8 | n => n⟩
theorem lays172 : Go.Proofs.Lays.n172 Tryz.prog lays172_ren := {
  mixed := by kernel_rfl
  f129 := Tryz.func269.trans (congrArg some (by kernel_rfl))
  f171 := Tryz.func65.trans (congrArg some (by kernel_rfl))
  f172 := Tryz.func194.trans (congrArg some (by kernel_rfl))
  f205 := Tryz.func328.trans (congrArg some (by kernel_rfl))
  f243 := Tryz.func131.trans (congrArg some (by kernel_rfl))
  f244 := Tryz.func249.trans (congrArg some (by kernel_rfl))
  f245 := Tryz.func250.trans (congrArg some (by kernel_rfl))
  f246 := Tryz.func190.trans (congrArg some (by kernel_rfl))
  f247 := Tryz.func292.trans (congrArg some (by kernel_rfl))
  f279 := Tryz.func293.trans (congrArg some (by kernel_rfl))
  f280 := Tryz.func294.trans (congrArg some (by kernel_rfl))
  f281 := Tryz.func295.trans (congrArg some (by kernel_rfl))
  f282 := Tryz.func296.trans (congrArg some (by kernel_rfl))
  f283 := Tryz.func235.trans (congrArg some (by kernel_rfl))
  f284 := Tryz.func236.trans (congrArg some (by kernel_rfl))
  f285 := Tryz.func237.trans (congrArg some (by kernel_rfl))
  f286 := Tryz.func238.trans (congrArg some (by kernel_rfl))
  f287 := Tryz.func326.trans (congrArg some (by kernel_rfl))
  f316 := Tryz.func327.trans (congrArg some (by kernel_rfl))
  f317 := Tryz.func281.trans (congrArg some (by kernel_rfl))
  f318 := Tryz.func282.trans (congrArg some (by kernel_rfl))
  f319 := Tryz.func283.trans (congrArg some (by kernel_rfl))
  f320 := Tryz.func284.trans (congrArg some (by kernel_rfl))
  f321 := Tryz.func339.trans (congrArg some (by kernel_rfl))
  f322 := Tryz.func340.trans (congrArg some (by kernel_rfl))
  f337 := Tryz.func317.trans (congrArg some (by kernel_rfl))
  f338 := Tryz.func318.trans (congrArg some (by kernel_rfl))
  t0 := Tryz.underlying0
  a0 := Tryz.isAgg0
  z0 := Tryz.sizeOf0
  v0 := Tryz.zeroValue0
  t2 := Tryz.underlying2
  a2 := Tryz.isAgg2
  z2 := Tryz.sizeOf2
  v2 := Tryz.zeroValue2
  t3 := Tryz.underlying3
  a3 := Tryz.isAgg3
  z3 := Tryz.sizeOf3
  v3 := Tryz.zeroValue3
  t4 := Tryz.underlying4
  a4 := Tryz.isAgg4
  z4 := Tryz.sizeOf4
  v4 := Tryz.zeroValue4
  t5 := Tryz.underlying5
  a5 := Tryz.isAgg5
  z5 := Tryz.sizeOf5
  v5 := Tryz.zeroValue5
  t9 := Tryz.underlying9
  a9 := Tryz.isAgg9
  z9 := Tryz.sizeOf9
  v9 := Tryz.zeroValue9
  t20 := Tryz.underlying20
  a20 := Tryz.isAgg20
  z20 := Tryz.sizeOf20
  v20 := Tryz.zeroValue20
  t21 := Tryz.underlying21
  a21 := Tryz.isAgg21
  z21 := Tryz.sizeOf21
  v21 := Tryz.zeroValue21
  t37 := Tryz.underlying92
  a37 := Tryz.isAgg92
  z37 := Tryz.sizeOf92
  v37 := Tryz.zeroValue92
  t46 := Tryz.underlying201
  a46 := Tryz.isAgg201
  z46 := Tryz.sizeOf201
  v46 := Tryz.zeroValue201
  t51 := Tryz.underlying399
  a51 := Tryz.isAgg399
  z51 := Tryz.sizeOf399
  v51 := Tryz.zeroValue399
  t53 := Tryz.underlying372
  a53 := Tryz.isAgg372
  z53 := Tryz.sizeOf372
  v53 := Tryz.zeroValue372
  t75 := Tryz.underlying171
  a75 := Tryz.isAgg171
  z75 := Tryz.sizeOf171
  v75 := Tryz.zeroValue171
  t76 := Tryz.underlying172
  a76 := Tryz.isAgg172
  z76 := Tryz.sizeOf172
  v76 := Tryz.zeroValue172
  t85 := Tryz.underlying420
  a85 := Tryz.isAgg420
  z85 := Tryz.sizeOf420
  v85 := Tryz.zeroValue420
  t127 := Tryz.underlying263
  a127 := Tryz.isAgg263
  z127 := Tryz.sizeOf263
  v127 := Tryz.zeroValue263
  t143 := Tryz.underlying459
  a143 := Tryz.isAgg459
  z143 := Tryz.sizeOf459
  v143 := Tryz.zeroValue459
  t145 := Tryz.underlying461
  a145 := Tryz.isAgg461
  z145 := Tryz.sizeOf461
  v145 := Tryz.zeroValue461
  t167 := Tryz.underlying419
  a167 := Tryz.isAgg419
  z167 := Tryz.sizeOf419
  v167 := Tryz.zeroValue419
  t168 := Tryz.underlying422
  a168 := Tryz.isAgg422
  z168 := Tryz.sizeOf422
  v168 := Tryz.zeroValue422
  t171 := Tryz.underlying371
  a171 := Tryz.isAgg371
  z171 := Tryz.sizeOf371
  v171 := Tryz.zeroValue371
  t173 := Tryz.underlying375
  a173 := Tryz.isAgg375
  z173 := Tryz.sizeOf375
  v173 := Tryz.zeroValue375
  t175 := Tryz.underlying438
  a175 := Tryz.isAgg438
  z175 := Tryz.sizeOf438
  v175 := Tryz.zeroValue438
  t210 := Tryz.underlying442
  a210 := Tryz.isAgg442
  z210 := Tryz.sizeOf442
  v210 := Tryz.zeroValue442
  t212 := Tryz.underlying411
  a212 := Tryz.isAgg411
  z212 := Tryz.sizeOf411
  v212 := Tryz.zeroValue411
  t213 := Tryz.underlying412
  a213 := Tryz.isAgg412
  z213 := Tryz.sizeOf412
  t232 := Tryz.underlying449
  a232 := Tryz.isAgg449
  z232 := Tryz.sizeOf449
  v232 := Tryz.zeroValue449
  t233 := Tryz.underlying450
  a233 := Tryz.isAgg450
  z233 := Tryz.sizeOf450
  v233 := Tryz.zeroValue450
  g15 := by kernel_rfl
  g16 := by kernel_rfl
  g17 := by kernel_rfl
  g18 := by kernel_rfl
  g19 := by kernel_rfl }
open Go.RowKit Go.Sort Go.Lib in
theorem strconv_Itoa (n : Int) (h0 : -9223372036854775808 ≤ n) (h1 : n ≤ 9223372036854775807) (w : World) (htab : Lib.TabIs Tryz.prog w "internal/strconv.uint64pow10" .u64 Lib.pow10Tab) :
    Calls Tryz.prog 65 #[.int .i64 n] w fun e w' => e = .returned (.string ⟨(Lib.itoa n).toArray⟩) ∧ ∃ k os, w' = grow (w.drewN k) os := Any.strconv_Itoa laysM171 n h0 h1 w htab
open Go.RowKit Go.Lib in
theorem strings_Split (s sep : ByteArray) (m : Int) (w : World) (hs : s.size < 4294967281) (hm : w.cell? ⟨4, 0, none⟩ = some (.int .i64 m)) (h1 : 1 ≤ sep.size) :
    Calls Tryz.prog 132 #[.string s, .string sep] w fun e w' =>
      e = .returned (.slice (some ⟨w.heap.size, 0, none⟩) (Lib.countB s sep + 1) (Lib.countB s sep + 1)) ∧ w' = w.alloc (.cells ((Lib.splitB sep 0 (Lib.countB s sep) s).map Value.string).toArray 9) := Any.strings_Split lays146 (by kernel_rfl) s sep m w hs hm h1
open Go.RowKit Go.Lib in
theorem strings_FieldsFunc (g : Nat) (lb : Array Value) (eg : ∀ args w, (callFunc g args).run Tryz.prog w = .ok (.enter g args) w) (p : Nat → Bool) (s : ByteArray) (w : World) (hs : s.size ≤ 4294967296) (hp : PredAt Tryz.prog g lb encR p w) :
    Calls Tryz.prog 149 #[.string s, .func (.func g) #[] lb] w fun e w' => ∃ A, e = .returned (.slice (some ⟨A, 0, none⟩) (Lib.goFieldsP p s).length (Lib.goFieldsP p s).length) ∧ w.heap.size ≤ A ∧
      w'.ownsRow w.heap.size 9 1 (.slice (some ⟨A, 0, none⟩) (Lib.goFieldsP p s).length (Lib.goFieldsP p s).length) (Lib.goFieldsP p s).length ((Lib.goFieldsP p s).map Value.string) ∧ Below w.heap.size w w' := Any.strings_FieldsFunc lays229 g lb eg p s w hs hp (by kernel_rfl) (by kernel_rfl)
open Go.RowKit in
theorem strconv_Atoi (s : ByteArray) (n : Int) (hl : s.size ≤ 18) (h : Lib.atoi s.data.toList = some n) (w : World) :
    Calls Tryz.prog 194 #[.string s] w fun e w' => e = .returned (.tuple #[.int .i64 n, .nilIface]) ∧ ∃ t, w' = Lib.bytesWorld w 5 t := Any.strconv_Atoi lays172 s n hl h w
end Sh
end Go.Proofs.YtdcgnfkkklbckaaGreatDoor
/- LAW 13: the library's functions on texts, as pure calls. -/
set_option linter.unusedSimpArgs false
set_option linter.unusedVariables false
namespace Go.Proofs.YtdcgnfkkklbckaaGreatDoor
namespace Pv
open Go.RowKit
theorem args_nil (X : Cx) (γ : Gh) (w : World) (vals : List Value) (h : RepL X γ w [] vals) : vals = [] := h.nil_inv
theorem args_str (s : List UInt8) (X : Cx) (γ : Gh) (w : World) (vals : List Value) (h : RepL X γ w [.str s] vals) : vals = [strV s] := by
  obtain ⟨v, us, rfl, hv, hus⟩ := h.cons_inv
  rw [hv.str_inv, hus.nil_inv]; rfl
theorem args_str2 (s t : List UInt8) (X : Cx) (γ : Gh) (w : World) (vals : List Value) (h : RepL X γ w [.str s, .str t] vals) : vals = [strV s, strV t] := by
  obtain ⟨v, us, rfl, hv, hus⟩ := h.cons_inv
  rw [hv.str_inv, args_str t X γ w us hus]; rfl
theorem args_int (k : IntKind) (n : Int) (X : Cx) (γ : Gh) (w : World) (vals : List Value) (h : RepL X γ w [.int k n] vals) : vals = [.int k n] := by
  obtain ⟨v, us, rfl, hv, hus⟩ := h.cons_inv
  rw [hv.int_inv, hus.nil_inv]
theorem rep_raw (X : Cx) (γ : Gh) (w : World) : Rep X γ w (.raw .nilIface) .nilIface := .raw _ rfl
theorem rep_tup1 (n : Int) (X : Cx) (γ : Gh) (w : World) : Rep X γ w (.tup [.int .i64 n, .raw .nilIface]) (.tuple #[.int .i64 n, .nilIface]) := by
  refine .tup _ [.int .i64 n, .nilIface] rfl fun k c u hc hu => ?_
  match k, hc, hu with
  | 0, hc, hu => injection hc with hc; injection hu with hu; subst hc; subst hu; exact .int _ _
  | 1, hc, hu => injection hc with hc; injection hu with hu; subst hc; subst hu; exact .raw _ rfl
  | k + 2, hc, hu => simp at hc
theorem call64 (s x : List UInt8) (h : s.length + x.length ≤ 140737488355328) : PureCall Tryz.prog 64 [.pt 0 0 0, .str x] [.bld 169 5 s] ⟨.tup [.int .i64 x.length, .raw .nilIface], [.bld 169 5 (s ++ x)], []⟩ :=
  pure_bld ⟨_, Tryz.func64, rfl, rfl⟩ (args_str x) (rep_tup1 x.length) fun w b p v hp hH =>
    (held_string Sh.lays166 Sh.bX_166 hp hH x h).mono fun ev w' ⟨he, v', h1, h2, h3⟩ => ⟨he, self b, v', .inr rfl, h1, h2, h3⟩
theorem call67 (s : List UInt8) (h : s ≠ []) : PureCall Tryz.prog 67 [.pt 0 0 0] [.bld 169 5 s] ⟨.str s, [.bld 169 5 s], []⟩ :=
  pure_bld ⟨_, Tryz.func67, rfl, rfl⟩ args_nil (fun _ _ _ => .str s) fun w b p v hp hH =>
    (held_text Sh.lays169 Sh.bX_169 hH h).mono fun ev w' ⟨he, h1, h2⟩ => ⟨he, p, v, hp, h1, h2, fun g hg => .inl hg⟩
theorem call66 (s : List UInt8) (c : UInt8) (h : s.length + 1 ≤ 140737488355328) : PureCall Tryz.prog 66 [.pt 0 0 0, .int .u8 c.toNat] [.bld 169 5 s] ⟨.raw .nilIface, [.bld 169 5 (s ++ [c])], []⟩ :=
  pure_bld ⟨_, Tryz.func66, rfl, rfl⟩ (args_int .u8 c.toNat) rep_raw fun w b p v hp hH =>
    (held_byte Sh.lays167 Sh.bX_167 hp hH c h).mono fun ev w' ⟨he, v', h1, h2, h3⟩ => ⟨he, self b, v', .inr rfl, h1, h2, h3⟩
theorem keeps_grow (w : World) (k : Nat) (os : Array Obj) : Keeps (fun _ => False) w (Sort.grow (w.drewN k) os) :=
  ⟨rfl, rfl, rfl, by simp [Sort.grow], fun b hb _ => by simp [Sort.grow, Array.getElem?_append, hb]⟩
theorem keeps_drewN (w : World) (k : Nat) : Keeps (fun _ => False) w (w.drewN k) := ⟨rfl, rfl, rfl, Nat.le_refl _, fun b hb _ => rfl⟩
theorem pow_tab {w : World} (hg : ∀ b p, Pv.glob b = some p → ∃ o, w.heap[b]? = some o ∧ p o) : Lib.TabIs Tryz.prog w "internal/strconv.uint64pow10" .u64 Lib.pow10Tab := by
  obtain ⟨o, ho, T, fz, rfl⟩ := hg 3 isPow10 rfl
  unfold Lib.TabIs World.var?
  rw [show Tryz.prog.globalNamed "internal/strconv.uint64pow10" = some 3 from by kernel_rfl]
  simp [ho]
theorem some_int {w : World} (hg : ∀ b p, Pv.glob b = some p → ∃ o, w.heap[b]? = some o ∧ p o) : ∃ m, w.cell? ⟨4, 0, none⟩ = some (.int .i64 m) := by
  obtain ⟨o, ho, cs, T, fz, m, rfl, hm⟩ := hg 4 someInt rfl
  exact ⟨m, by rw [Lib.cell_of_heap ho]; exact hm⟩
theorem call65 (n : Int) (h0 : -9223372036854775808 ≤ n) (h1 : n ≤ 9223372036854775807) : PureCall Tryz.prog 65 [.int .i64 n] [] ⟨.str (Lib.itoa n), [], []⟩ :=
  pure_still ⟨_, Tryz.func65, rfl, rfl⟩ (args_int .i64 n) (fun _ _ _ => .str _) fun w hg =>
    (Sh.strconv_Itoa n h0 h1 w (pow_tab hg)).mono fun ev w' ⟨he, k, os, hw⟩ => ⟨he, by rw [hw]; exact keeps_grow w k os⟩
theorem splitB_C (s : List UInt8) (c : UInt8) : (Lib.splitB ⟨#[c]⟩ 0 (Lib.countB ⟨s.toArray⟩ ⟨#[c]⟩) ⟨s.toArray⟩).map Value.string = (splitC c s).map strV := by
  have h := Lib.splitB_data ⟨#[c]⟩ 0 (Lib.countB ⟨s.toArray⟩ ⟨#[c]⟩) ⟨s.toArray⟩
  have h2 : Lib.splitK [c] 0 (Lib.count s [c]) s = splitC c s := splitK_C c s
  have h3 : (Lib.splitB ⟨#[c]⟩ 0 (Lib.countB ⟨s.toArray⟩ ⟨#[c]⟩) ⟨s.toArray⟩).map (·.data.toList) = splitC c s := h.trans h2
  rw [← h3, List.map_map]
  exact List.map_congr_left fun x _ => by
    show Value.string x = Value.string ⟨x.data.toList.toArray⟩
    simp
theorem call132 (s : List UInt8) (c : UInt8) (h : s.length < 4294967281) : PureCall Tryz.prog 132 [.str s, .str [c]] [] ⟨.os 1000000000, [], [.row 0 9 1 (splitC c s).length (fl eStr (splitC c s))]⟩ := by
  have h1 : 1 ≤ (⟨#[c]⟩ : ByteArray).size := Nat.le_refl 1
  have hN : Lib.countB ⟨s.toArray⟩ ⟨#[c]⟩ + 1 = (splitC c s).length := by
    rw [← Lib.splitB_all ⟨#[c]⟩ h1 0 _ ⟨s.toArray⟩ rfl, ← List.length_map (f := Value.string), splitB_C, List.length_map]
  refine pure_new2 (vs := (splitC c s).map strV) ⟨_, Tryz.func132, rfl, rfl⟩ (args_str2 s [c]) (fun X γ w => strs_rows (splitC c s)) fun w hg => ?_
  obtain ⟨m, hm⟩ := some_int hg
  refine (Sh.strings_Split ⟨s.toArray⟩ ⟨#[c]⟩ m w (by show s.toArray.size < _; rw [List.size_toArray]; exact h) hm h1).mono ?_
  rintro ev w' ⟨he, hw⟩
  rw [splitB_C] at hw
  rw [hN] at he
  have hle := (splitC_len c s).1
  have hnew : w'.heap[w.heap.size]? = some (.cells ((splitC c s).map strV).toArray 9 (0, 0)) := by
    rw [hw]
    show (w.heap.push _)[w.heap.size]? = _
    simp
  refine ⟨_, he, ⟨by simp, .inr ⟨w.heap.size, _, _, rfl, Nat.le_refl _, hnew, Nat.le_refl _, by unfold maxLen; omega, by simp, by simp only [Nat.mul_one]; exact List.take_of_length_le (by simp)⟩⟩, by rw [hw]; exact Keeps.alloc _ _ _⟩
open Go.Shelf Go.Lib in
theorem is_blank (w : World) : PredAt Tryz.prog 192 #[] encR (fun r => decide ((r : Int) = 32 ∨ (r : Int) = 10)) w := fun W r _ => by
  unfold FnGives
  go_enter Tryz.func192, Tryz.ntmps192
  go_wp2
  all_goals (go_ret)
  · rename_i h
    exact ⟨by simp [h], 0, rfl⟩
  · rename_i h
    refine ⟨?_, 0, rfl⟩
    have e : ((r : Int) == 32 || (r : Int) == 10) = decide ((r : Int) = 32 ∨ (r : Int) = 10) := by
      rw [Bool.decide_or]; rfl
    rw [← e]
    rfl
open Go.Shelf Go.Lib in
theorem call149 (s : List UInt8) (h : s.length ≤ 65536) : PureCall Tryz.prog 149 [.str s, .fn (.func 192) [] []] [] ⟨.os 1000000000, [], [.row 0 9 1 (wordsB isBl s).length (fl eStr (wordsB isBl s))]⟩ := by
  have hw : (Lib.goFieldsP (fun r => decide ((r : Int) = 32 ∨ (r : Int) = 10)) ⟨s.toArray⟩).map Value.string = (wordsB isBl s).map strV := by
    rw [← fields_words s, List.map_map]
    exact List.map_congr_left fun x _ => by
      show Value.string x = Value.string ⟨x.data.toList.toArray⟩
      simp
  have hl : (Lib.goFieldsP (fun r => decide ((r : Int) = 32 ∨ (r : Int) = 10)) ⟨s.toArray⟩).length = (wordsB isBl s).length := by
    have := congrArg List.length hw
    simpa using this
  refine pure_new2 (us := [strV s, .func (.func 192) #[] #[]]) (vs := (wordsB isBl s).map strV) ⟨_, Tryz.func149, rfl, rfl⟩ (fun X γ w vals h => ?_) (fun X γ w => strs_rows (wordsB isBl s)) fun w hg => ?_
  · obtain ⟨v, us, rfl, hv, hus⟩ := h.cons_inv
    obtain ⟨v2, us2, rfl, hv2, hus2⟩ := hus.cons_inv
    rw [hv.str_inv, hus2.nil_inv]
    cases hv2 with
    | fn _ _ _ vs us hvl hul h h' =>
      have e1 : vs = [] := List.eq_nil_of_length_eq_zero hvl
      have e2 : us = [] := List.eq_nil_of_length_eq_zero hul
      subst e1 e2
      rfl
  · refine (Sh.strings_FieldsFunc 192 #[] (enters_of Tryz.func192 (by kernel_rfl) rfl) _ ⟨s.toArray⟩ w (by show s.toArray.size ≤ _; rw [List.size_toArray]; omega) (is_blank w)).mono ?_
    rintro ev w' ⟨A, he, _, ho, hb⟩
    rw [hl, hw] at ho
    rw [hl] at he
    exact ⟨_, he, ho, ⟨hb.os, hb.tape, hb.output, hb.size, fun b hlt _ => hb.block b hlt⟩⟩
end Pv
end Go.Proofs.YtdcgnfkkklbckaaGreatDoor
/- LAW 13: strings.Trim, strconv.Atoi, strings.Repeat as pure calls. -/
set_option linter.unusedSimpArgs false
set_option linter.unusedVariables false
namespace Go.Proofs.YtdcgnfkkklbckaaGreatDoor
namespace Pv
open Go.RowKit
theorem keeps_below {w w' : World} (hb : Below w.heap.size w w') : Keeps (fun _ => False) w w' :=
  ⟨hb.os, hb.tape, hb.output, hb.size, fun b hlt _ => hb.block b hlt⟩
theorem keeps_bytes (w : World) (e : TypeId) (t : ByteArray) : Keeps (fun _ => False) w (Lib.bytesWorld w e t) :=
  ⟨rfl, rfl, rfl, by simp [Lib.bytesWorld, World.freeze, World.alloc], fun b hb _ => by
    have hne : ¬ w.heap.size = b := Nat.ne_of_gt hb
    have hd : w.drew.heap = w.heap := rfl
    simp only [Lib.bytesWorld, World.freeze, World.alloc]
    rw [if_neg (by decide)]
    show (Array.modify _ _ _)[b]? = _
    rw [Array.getElem?_modify, if_neg hne]
    show (w.heap.push _)[b]? = w.heap[b]?
    rw [Array.getElem?_push, if_neg (Nat.ne_of_lt hb)]⟩
theorem call193 (s : List UInt8) (h : s.length ≤ 9223372036854775807) : PureCall Tryz.prog 193 [.str s, .str digT] [] ⟨.str (Lib.trimS s digT), [], []⟩ :=
  pure_still ⟨_, Tryz.func193, rfl, rfl⟩ (args_str2 s digT) (fun _ _ _ => .str _) fun w hg =>
    (Any.strings_Trim_laid Sh.lays160 (by kernel_rfl) ⟨s.toArray⟩ ⟨digT.toArray⟩ w (by show s.toArray.size ≤ _; rw [List.size_toArray]; exact h) (by decide) (ascii_of_all (by decide))).mono fun ev w' ⟨he, hb⟩ => ⟨he, keeps_below hb⟩
theorem call194 (s : List UInt8) (n : Int) (h : numF s = some n) : PureCall Tryz.prog 194 [.str s] [] ⟨.tup [.int .i64 n, .raw .nilIface], [], []⟩ :=
  pure_still ⟨_, Tryz.func194, rfl, rfl⟩ (args_str s) (rep_tup1 n) fun w hg =>
    (Sh.strconv_Atoi ⟨s.toArray⟩ n (by
      show s.toArray.size ≤ 18
      rw [List.size_toArray]
      unfold numF at h
      split at h
      · cases h
      · omega) (num_atoi h).1 w).mono fun ev w' ⟨he, t, hw⟩ => ⟨he, by rw [hw]; exact keeps_bytes w 5 t⟩
end Pv
end Go.Proofs.YtdcgnfkkklbckaaGreatDoor
/- THE WALKS: made conditions. -/
set_option linter.unusedSimpArgs false
set_option linter.unusedVariables false
namespace Go.Proofs.YtdcgnfkkklbckaaGreatDoor
namespace Pv
def c102 : C := (.seq (.reg [⟨(some 2), 32, none, .al [(.int .i64 0), (.int .i64 0)]⟩])
  (.seq (.seq (.reg [⟨(some 3), 48, none, .mv (.t 0)⟩,
    ⟨(some 4), 64, none, .call (.c (.fn (.func 12) [] [])) [(.t 3), (.c (.int .i64 4))]⟩])
  (.block 0 (.seq (.reg [⟨(some 6), 96, none, .bi false .eql (.t 4) (.c (.int .i64 0))⟩,
    ⟨(some 5), 80, none, .mv (.t 6)⟩])
  (.cond (.t 5) (.seq (.reg [⟨(some 7), 112, none, .bd [(.int .i64 0), (.int .i64 0)] [(1, 1, (.c (.int .i64 364)))]⟩,
    ⟨none, 0, none, .st 2 (.t 2) (.t 7)⟩])
  .ret) (.seq (.reg [⟨(some 9), 144, none, .bi false .eql (.t 4) (.c (.int .i64 1))⟩,
    ⟨(some 8), 128, none, .mv (.t 9)⟩])
  (.cond (.t 8) (.seq (.reg [⟨(some 10), 160, none, .mv (.t 0)⟩,
    ⟨(some 11), 176, none, .call (.c (.fn (.func 12) [] [])) [(.t 10), (.c (.int .i64 10))]⟩,
    ⟨(some 12), 192, none, .mv (.t 0)⟩,
    ⟨(some 13), 208, none, .call (.c (.fn (.func 12) [] [])) [(.t 12), (.c (.int .i64 10))]⟩,
    ⟨(some 14), 224, none, .bd [(.int .i64 0), (.int .i64 0)] [(0, 1, (.t 11)), (1, 1, (.t 13))]⟩,
    ⟨none, 0, none, .st 2 (.t 2) (.t 14)⟩])
  .ret) .skip))))))
  (.seq (.reg [⟨(some 15), 240, none, .mv (.t 0)⟩,
    ⟨(some 16), 256, none, .call (.c (.fn (.func 12) [] [])) [(.t 15), (.c (.int .i64 365))]⟩,
    ⟨(some 17), 272, none, .mv (.t 0)⟩,
    ⟨(some 18), 288, none, .call (.c (.fn (.func 12) [] [])) [(.t 17), (.c (.int .i64 365))]⟩,
    ⟨(some 19), 304, none, .bd [(.int .i64 0), (.int .i64 0)] [(0, 1, (.t 16)), (1, 1, (.t 18))]⟩,
    ⟨none, 0, none, .st 2 (.t 2) (.t 19)⟩])
  .ret)))
theorem fits102 : fits Tryz.prog false Tryz.f102 1 20 [(2, some (2, true))] = some c102.er := by kernel_rfl
def c61 : C := (.seq (.reg [⟨(some 2), 32, none, .al [(.int .i64 0), (.int .i64 0), (.int .i64 0), (.int .i64 0), (.int .i64 0), (.int .i64 0), (.int .i64 0)]⟩])
  (.seq (.reg [⟨(some 4), 64, none, .mv (.t 0)⟩,
    ⟨(some 5), 80, none, .call (.c (.fn (.func 12) [] [])) [(.t 4), (.c (.int .i64 4))]⟩,
    ⟨(some 6), 96, none, .bi false .add (.c (.int .i64 1)) (.t 5)⟩,
    ⟨(some 7), 112, none, .mv (.t 0)⟩,
    ⟨(some 8), 128, none, .call (.c (.fn (.func 12) [] [])) [(.t 7), (.c (.int .i64 4))]⟩,
    ⟨(some 9), 144, none, .bi false .add (.c (.int .i64 1)) (.t 8)⟩,
    ⟨(some 10), 160, none, .mv (.t 0)⟩,
    ⟨(some 11), 176, none, .call (.c (.fn (.func 12) [] [])) [(.t 10), (.c (.int .i64 30))]⟩,
    ⟨(some 12), 192, none, .mv (.t 0)⟩,
    ⟨(some 13), 208, none, .call (.c (.fn (.func 102) [] [])) [(.t 12)]⟩,
    ⟨(some 14), 224, none, .bd [(.int .i64 0), (.int .i64 0), (.int .i64 0), (.int .i64 0), (.int .i64 0), (.int .i64 0), (.int .i64 0)] [(0, 1, (.t 6)), (1, 1, (.t 9)), (2, 1, (.t 11)), (3, 2, (.t 13)), (6, 1, (.c (.int .i64 16777216)))]⟩,
    ⟨(some 3), 48, none, .al [(.int .i64 0), (.int .i64 0), (.int .i64 0), (.int .i64 0), (.int .i64 0), (.int .i64 0), (.int .i64 0)]⟩,
    ⟨none, 0, none, .st 7 (.t 3) (.t 14)⟩])
  (.seq (.seq (.reg [⟨(some 15), 240, none, .mv (.t 0)⟩,
    ⟨(some 16), 256, none, .call (.c (.fn (.func 12) [] [])) [(.t 15), (.c (.int .i64 3))]⟩,
    ⟨(some 17), 272, none, .bi false .eql (.t 16) (.c (.int .i64 0))⟩])
  (.cond (.t 17) (.seq (.reg [⟨(some 18), 288, none, .mv (.t 0)⟩,
    ⟨(some 19), 304, none, .call (.c (.fn (.func 12) [] [])) [(.t 18), (.c (.int .i64 60))]⟩,
    ⟨(some 20), 320, none, .bi false .add (.c (.int .i64 90)) (.t 19)⟩,
    ⟨(some 21), 336, none, .fa 5 (.t 3)⟩,
    ⟨none, 0, none, .st 1 (.t 21) (.t 20)⟩])
  (.drw [⟨(some 22), 352, none, .fa 5 (.t 3)⟩,
    ⟨(some 23), 368, none, .ld 1 false (.t 22)⟩,
    ⟨(some 24), 384, none, .mv (.t 0)⟩,
    ⟨(some 25), 400, none, .call (.c (.fn (.func 12) [] [])) [(.t 24), (.c (.int .i64 80))]⟩,
    ⟨(some 26), 416, none, .bi false .add (.t 23) (.t 25)⟩,
    ⟨(some 27), 432, none, .fa 6 (.t 3)⟩,
    ⟨none, 0, none, .st 1 (.t 27) (.t 26)⟩]
    [(0, 2, 22), (0, 3, 22), (1, 2, 23), (1, 3, 23)])) .skip))
  (.seq (.reg [⟨(some 28), 448, none, .ld 7 true (.t 3)⟩,
    ⟨none, 0, none, .st 7 (.t 2) (.t 28)⟩])
  .ret))))
theorem fits61 : fits Tryz.prog false Tryz.f61 1 29 [(2, some (7, true))] = some c61.er := by kernel_rfl
def c17L1 : C := (.seq (.seq (.reg [⟨(some 7), 112, none, .mv (.t 4)⟩,
    ⟨(some 8), 128, none, .bi false .gtr (.t 7) (.c (.int .i64 0))⟩])
  (.cond (.t 8) .skip (.exit 0)))
  (.seq (.block 1 (.reg [⟨(some 11), 176, none, .mv (.t 3)⟩,
    ⟨(some 12), 192, none, .mv (.t 0)⟩,
    ⟨(some 13), 208, none, .call (.c (.fn (.func 61) [] [])) [(.t 12)]⟩,
    ⟨(some 14), 224, none, .bs 89 7 [(.t 13)]⟩,
    ⟨(some 15), 240, none, .app 89 7 56 (.t 11) (.t 14)⟩,
    ⟨(some 3), 48, none, .mv (.t 15)⟩]))
  (.reg [⟨(some 9), 144, none, .mv (.t 4)⟩,
    ⟨(some 10), 160, none, .bi false .sub (.t 9) (.c (.int .i64 1))⟩,
    ⟨(some 4), 64, none, .mv (.t 10)⟩])))
def c17 : C := (.seq (.reg [⟨(some 2), 32, none, .mv (.c (.nil 7))⟩])
  (.seq (.reg [⟨(some 3), 48, none, .mv (.c (.nil 7))⟩])
  (.seq (.seq (.reg [⟨(some 5), 80, none, .mv (.t 0)⟩,
    ⟨(some 6), 96, none, .call (.c (.fn (.func 12) [] [])) [(.t 5), (.c (.int .i64 7))]⟩,
    ⟨(some 4), 64, none, .mv (.t 6)⟩])
  (.block 0 (.loop c17L1)))
  (.seq (.reg [⟨(some 16), 256, none, .mv (.t 3)⟩,
    ⟨(some 2), 32, none, .mv (.t 16)⟩])
  .ret))))
theorem fits17 : fits Tryz.prog false Tryz.f17 1 17 [(2, none)] = some c17.er := by kernel_rfl
def spanF (d : Dk) : (Int × Int) × Dk :=
  let e := nxtD d 4
  if nxt d 4 = 0 then ((0, 364), e) else if nxt d 4 = 1 then ((nxt e 10, nxt (nxtD e 10) 10), nxtD (nxtD e 10) 10) else ((nxt e 365, nxt (nxtD e 365) 365), nxtD (nxtD e 365) 365)
def condF (d : Dk) : Cd × Dk :=
  let d1 := nxtD d 4
  let d2 := nxtD d1 4
  let d3 := nxtD d2 30
  let s := spanF d3
  let d5 := nxtD s.2 3
  if nxt s.2 3 = 0 then (⟨1 + nxt d 4, 1 + nxt d1 4, nxt d2 30, s.1.1, s.1.2, 90 + nxt d5 60, 90 + nxt d5 60 + nxt (nxtD d5 60) 80⟩, nxtD (nxtD d5 60) 80)
  else (⟨1 + nxt d 4, 1 + nxt d1 4, nxt d2 30, s.1.1, s.1.2, 0, 16777216⟩, d5)
def condN (s : List Cd × Dk) : List Cd × Dk := (s.1 ++ [(condF s.2).1], (condF s.2).2)
def condsF (d : Dk) : List Cd × Dk := it condN (nxt d 7).toNat ([], nxtD d 7)
theorem spanF_ok (d : Dk) : (0 ≤ (spanF d).1.1 ∧ (spanF d).1.1 ≤ 364 ∧ 0 ≤ (spanF d).1.2 ∧ (spanF d).1.2 ≤ 364) ∧ (spanF d).2.at_ ≤ d.at_ + 3 := by
  unfold spanF
  dsimp only
  have a0 := nxtD_at d 4
  generalize nxtD d 4 = e at a0 ⊢
  split
  · dsimp only; omega
  split
  · have r1 := nxt_lt e (n := 10) (by omega)
    have a1 := nxtD_at e 10
    generalize nxtD e 10 = e1 at a1 ⊢
    have r2 := nxt_lt e1 (n := 10) (by omega)
    have a2 := nxtD_at e1 10
    dsimp only; omega
  · have r1 := nxt_lt e (n := 365) (by omega)
    have a1 := nxtD_at e 365
    generalize nxtD e 365 = e1 at a1 ⊢
    have r2 := nxt_lt e1 (n := 365) (by omega)
    have a2 := nxtD_at e1 365
    dsimp only; omega
structure CondOK (c : Cd) : Prop where
  r : 1 ≤ c.r ∧ c.r ≤ 4
  k : 1 ≤ c.k ∧ c.k ≤ 4
  v : 0 ≤ c.v ∧ c.v ≤ 29
  f : 0 ≤ c.f ∧ c.f ≤ 364
  u : 0 ≤ c.u ∧ c.u ≤ 364
  a : 0 ≤ c.a ∧ c.a ≤ 149
  ab : c.a ≤ c.b
  b : c.b ≤ 16777216
theorem condF_ok (d : Dk) : CondOK (condF d).1 ∧ (condF d).2.at_ ≤ d.at_ + 9 := by
  unfold condF
  dsimp only
  have r0 := nxt_lt d (n := 4) (by omega)
  have a0 := nxtD_at d 4
  generalize nxtD d 4 = d1 at a0 ⊢
  have r1 := nxt_lt d1 (n := 4) (by omega)
  have a1 := nxtD_at d1 4
  generalize nxtD d1 4 = d2 at a1 ⊢
  have r2 := nxt_lt d2 (n := 30) (by omega)
  have a2 := nxtD_at d2 30
  generalize nxtD d2 30 = d3 at a2 ⊢
  obtain ⟨⟨s1, s2, s3, s4⟩, s5⟩ := spanF_ok d3
  generalize spanF d3 = S at s1 s2 s3 s4 s5 ⊢
  have a3 := nxtD_at S.2 3
  generalize nxtD S.2 3 = d5 at a3 ⊢
  split
  · have r4 := nxt_lt d5 (n := 60) (by omega)
    have a4 := nxtD_at d5 60
    generalize nxtD d5 60 = d6 at a4 ⊢
    have r5 := nxt_lt d6 (n := 80) (by omega)
    have a5 := nxtD_at d6 80
    refine ⟨⟨?_, ?_, ?_, ?_, ?_, ?_, ?_, ?_⟩, ?_⟩ <;> dsimp only <;> omega
  · refine ⟨⟨?_, ?_, ?_, ?_, ?_, ?_, ?_, ?_⟩, ?_⟩ <;> dsimp only <;> omega
theorem getD_pushC {α : Type} [Inhabited α] {P : α → Prop} {l : List α} {x : α} (h : ∀ i, i < l.length → P (l.getD i default)) (hx : P x) : ∀ i, i < (l ++ [x]).length → P ((l ++ [x]).getD i default) := fun i hi => by
  rw [List.length_append, List.length_cons, List.length_nil] at hi
  by_cases hi2 : i < l.length
  · have := h i hi2
    rw [List.getD_eq_getElem?_getD] at this ⊢
    rw [List.getElem?_append_left hi2]; exact this
  · have hi3 : i = l.length := by omega
    subst hi3
    rw [List.getD_eq_getElem?_getD, List.getElem?_append_right (Nat.le_refl _), Nat.sub_self]
    exact hx
theorem condI_ok : ∀ (n : Nat) (s : List Cd × Dk), (∀ i, i < s.1.length → CondOK (s.1.getD i default)) →
    (it condN n s).1.length = s.1.length + n ∧ (∀ i, i < (it condN n s).1.length → CondOK ((it condN n s).1.getD i default)) ∧ (it condN n s).2.at_ ≤ s.2.at_ + 9 * n
  | 0, s, h => ⟨rfl, h, Nat.le_refl _⟩
  | n + 1, s, h => by
    have h1 := condF_ok s.2
    have ih := condI_ok n (condN s) (getD_pushC h h1.1)
    have e1 : (condN s).1.length = s.1.length + 1 := by simp [condN]
    have e2 : (condN s).2 = (condF s.2).2 := rfl
    unfold it
    rw [e1, e2] at ih
    exact ⟨by omega, ih.2.1, by omega⟩
theorem condsF_ok (d : Dk) : (condsF d).1.length ≤ 6 ∧ (∀ i, i < (condsF d).1.length → CondOK ((condsF d).1.getD i default)) ∧ (condsF d).2.at_ ≤ d.at_ + 55 := by
  have r1 := nxt_lt d (n := 7) (by omega)
  have a1 := nxtD_at d 7
  have h := condI_ok (nxt d 7).toNat ([], nxtD d 7) (fun i hi => absurd hi (Nat.not_lt_zero _))
  unfold condsF
  simp only [List.length_nil] at h
  generalize it condN (nxt d 7).toNat ([], nxtD d 7) = W at h ⊢
  exact ⟨by omega, h.2.1, by omega⟩
set_option maxRecDepth 100000 in
set_option maxHeartbeats 8000000 in
theorem call102 (d : Dk) (hd : d.at_ ≤ 990000000) : PureCall Tryz.prog 102 [.pt 0 0 0] [.box (eDk 1 d)] ⟨.agg [.int .i64 (spanF d).1.1, .int .i64 (spanF d).1.2], [.box (eDk 1 (spanF d).2)], []⟩ := by
  refine pure_call mix Tryz.func102 fits102 rfl ?_
  conv => whnf
  refine ⟨_, fun _ => call_next 1 d 4 (by omega) (by omega), ?_⟩
  unfold spanF
  dsimp only
  have a0 := nxtD_at d 4
  generalize nxt d 4 = k
  generalize nxtD d 4 = e at a0 ⊢
  conv => whnf
  refine ⟨?_, fun hc => ?_, fun hc => ?_⟩
  · exact g0
  · have hk : k = 0 := beq_iff_eq.1 hc
    subst hk
    rw [if_pos rfl]
    conv => whnf
    refine ⟨?_, [], ?_⟩
    · exact g0
    conv => whnf
    refine ⟨rfl, ?_, ?_, trivial⟩
    all_goals repeat' (first | exact True.intro | refine leF_cons rfl ?_ ?_ | refine leS_cons rfl ?_ ?_ | (show PLe _ _ _ _; conv => whnf) | (show SLe _ _ _ _; conv => whnf) | (show PLeL _ _ _ _; conv => whnf) | apply And.intro | rfl | exact Nat.le_refl _ | exact fun _ _ => rfl | exact rowEq0 _ _)
  have hk : ¬ k = 0 := beq_eq_false_iff_ne.1 hc
  rw [if_neg hk]
  conv => whnf
  refine ⟨trivial, fun hc2 => ?_, fun hc2 => ?_⟩
  · have hk2 : k = 1 := beq_iff_eq.1 hc2
    rw [if_pos hk2]
    conv => whnf
    refine ⟨_, fun _ => call_next 1 e 10 (by omega) (by omega), ?_⟩
    have a1 := nxtD_at e 10
    generalize nxtD e 10 = e1 at a1 ⊢
    conv => whnf
    refine ⟨_, fun _ => call_next 1 e1 10 (by omega) (by omega), ?_⟩
    conv => whnf
    refine ⟨?_, [], ?_⟩
    · exact g0
    conv => whnf
    refine ⟨rfl, ?_, ?_, trivial⟩
    all_goals repeat' (first | exact True.intro | refine leF_cons rfl ?_ ?_ | refine leS_cons rfl ?_ ?_ | (show PLe _ _ _ _; conv => whnf) | (show SLe _ _ _ _; conv => whnf) | (show PLeL _ _ _ _; conv => whnf) | apply And.intro | rfl | exact Nat.le_refl _ | exact fun _ _ => rfl | exact rowEq0 _ _)
  · have hk2 : ¬ k = 1 := beq_eq_false_iff_ne.1 hc2
    rw [if_neg hk2]
    conv => whnf
    refine ⟨_, fun _ => call_next 1 e 365 (by omega) (by omega), ?_⟩
    have a1 := nxtD_at e 365
    generalize nxtD e 365 = e1 at a1 ⊢
    conv => whnf
    refine ⟨_, fun _ => call_next 1 e1 365 (by omega) (by omega), ?_⟩
    conv => whnf
    refine ⟨?_, [], ?_⟩
    · exact g0
    conv => whnf
    refine ⟨rfl, ?_, ?_, trivial⟩
    all_goals repeat' (first | exact True.intro | refine leF_cons rfl ?_ ?_ | refine leS_cons rfl ?_ ?_ | (show PLe _ _ _ _; conv => whnf) | (show SLe _ _ _ _; conv => whnf) | (show PLeL _ _ _ _; conv => whnf) | apply And.intro | rfl | exact Nat.le_refl _ | exact fun _ _ => rfl | exact rowEq0 _ _)
set_option maxRecDepth 100000 in
set_option maxHeartbeats 8000000 in
theorem call61 (d : Dk) (hd : d.at_ ≤ 980000000) : PureCall Tryz.prog 61 [.pt 0 0 0] [.box (eDk 1 d)] ⟨.agg (eCd (condF d).1), [.box (eDk 1 (condF d).2)], []⟩ := by
  refine pure_call mix Tryz.func61 fits61 rfl ?_
  unfold condF
  dsimp only
  conv => whnf
  refine ⟨_, fun _ => call_next 1 d 4 (by omega) (by omega), ?_⟩
  have r0 := nxt_lt d (n := 4) (by omega)
  have a0 := nxtD_at d 4
  generalize nxt d 4 = n0 at r0 ⊢
  generalize nxtD d 4 = d1 at a0 ⊢
  conv => whnf
  refine ⟨_, fun _ => call_next 1 d1 4 (by omega) (by omega), ?_⟩
  have r1 := nxt_lt d1 (n := 4) (by omega)
  have a1 := nxtD_at d1 4
  generalize nxt d1 4 = n1 at r1 ⊢
  generalize nxtD d1 4 = d2 at a1 ⊢
  conv => whnf
  refine ⟨_, fun _ => call_next 1 d2 30 (by omega) (by omega), ?_⟩
  have r2 := nxt_lt d2 (n := 30) (by omega)
  have a2 := nxtD_at d2 30
  generalize nxt d2 30 = n2 at r2 ⊢
  generalize nxtD d2 30 = d3 at a2 ⊢
  conv => whnf
  refine ⟨_, fun _ => call102 d3 (by omega), ?_⟩
  have s5 := (spanF_ok d3).2
  generalize spanF d3 = S at s5 ⊢
  obtain ⟨⟨f, u⟩, d4⟩ := S
  dsimp only at s5 ⊢
  conv => whnf
  refine ⟨_, fun _ => call_next 1 d4 3 (by omega) (by omega), ?_⟩
  have a3 := nxtD_at d4 3
  generalize nxt d4 3 = n3
  generalize nxtD d4 3 = d5 at a3 ⊢
  conv => whnf
  refine ⟨?_, fun hc => ?_, fun hc => ?_⟩
  · exact g0
  · have hk : n3 = 0 := beq_iff_eq.1 hc
    rw [if_pos hk]
    conv => whnf
    refine ⟨_, fun _ => call_next 1 d5 60 (by omega) (by omega), ?_⟩
    have r4 := nxt_lt d5 (n := 60) (by omega)
    have a4 := nxtD_at d5 60
    generalize nxt d5 60 = n4 at r4 ⊢
    generalize nxtD d5 60 = d6 at a4 ⊢
    conv => whnf
    refine ⟨_, fun _ => call_next 1 d6 80 (by omega) (by omega), ?_⟩
    have r5 := nxt_lt d6 (n := 80) (by omega)
    generalize nxt d6 80 = n5 at r5 ⊢
    generalize nxtD d6 80 = d7
    conv => whnf
    refine ⟨rfl, ?_⟩
    conv => whnf
    refine ⟨?_, [], ?_⟩
    · exact g0
    conv => whnf
    refine ⟨rfl, ?_, ?_, trivial⟩
    all_goals repeat' (first | exact True.intro | refine leF_cons rfl ?_ ?_ | refine leS_cons rfl ?_ ?_ | (show PLe _ _ _ _; conv => whnf) | (show SLe _ _ _ _; conv => whnf) | (show PLeL _ _ _ _; conv => whnf) | apply And.intro | rfl | exact Nat.le_refl _ | exact fun _ _ => rfl | exact rowEq0 _ _)
  · have hk : ¬ n3 = 0 := beq_eq_false_iff_ne.1 hc
    rw [if_neg hk]
    conv => whnf
    refine ⟨?_, [], ?_⟩
    · exact g0
    conv => whnf
    refine ⟨rfl, ?_, ?_, trivial⟩
    all_goals repeat' (first | exact True.intro | refine leF_cons rfl ?_ ?_ | refine leS_cons rfl ?_ ?_ | (show PLe _ _ _ _; conv => whnf) | (show SLe _ _ _ _; conv => whnf) | (show PLeL _ _ _ _; conv => whnf) | apply And.intro | rfl | exact Nat.le_refl _ | exact fun _ _ => rfl | exact rowEq0 _ _)
set_option maxRecDepth 100000 in
set_option maxHeartbeats 8000000 in
theorem call17 (d : Dk) (hd : d.at_ ≤ 970000000) : PureCall Tryz.prog 17 [.pt 0 0 0] [.box (eDk 1 d)] ⟨.sl 0 7 (condsF d).1.length (fl eCd (condsF d).1), [.box (eDk 1 (condsF d).2)], []⟩ := by
  refine pure_call mix Tryz.func17 fits17 rfl ?_
  conv => whnf
  refine ⟨_, fun _ => call_next 1 d 7 (by omega) (by omega), ?_⟩
  have r0 := nxt_lt d (n := 7) (by omega)
  have a0 := nxtD_at d 7
  unfold condsF
  obtain ⟨m0, hm0⟩ : ∃ m : Nat, (m : Int) = nxt d 7 := ⟨(nxt d 7).toNat, by omega⟩
  rw [← hm0] at r0 ⊢
  rw [Int.toNat_natCast]
  generalize nxtD d 7 = d0 at a0 ⊢
  conv => whnf
  refine ⟨?_, ?_⟩
  · exact g0
  refine LSem.adopt 3 1000000 89 7 7 rfl rfl ?_
  refine LSem.loop (n := 17) mix (α := Nat × List Cd × Dk) (fun s => s.1 + s.2.1.length = m0 ∧ it condN s.1 s.2 = it condN m0 ([], d0) ∧ s.2.2.at_ ≤ 970000001 + 9 * s.2.1.length)
    (fun s => [(0, .pt 0 0 0), (3, .os 1000000), (4, .int .i64 s.1)])
    (fun s => [(0, .box (eDk 1 s.2.2)), (1000000, .row 0 89 7 s.2.1.length (fl eCd s.2.1))]) (fun s => s.1) (m0, [], d0) ?_ ?_ ?_
  · exact ⟨rfl, rfl, by dsimp only; omega⟩
  · refine ⟨rfl, rfl, ?_, ?_⟩
    all_goals repeat' (first | exact True.intro | refine leF_cons rfl ?_ ?_ | refine leS_cons rfl ?_ ?_ | (show PLe _ _ _ _; conv => whnf) | (show SLe _ _ _ _; conv => whnf) | (show PLeL _ _ _ _; conv => whnf) | apply And.intro | rfl | exact Nat.le_refl _ | exact fun _ _ => rfl | exact rowEq0 _ _)
  · intro s hs
    obtain ⟨m, l, e⟩ := s
    obtain ⟨k1, k2, k3⟩ := hs
    dsimp only at k1 k2 k3
    conv => whnf
    refine ⟨trivial, fun hc => ?_, fun hc => ?_⟩
    · replace hc := of_decide_eq_true hc
      obtain ⟨m, rfl⟩ : ∃ m', m = m' + 1 := ⟨m - 1, by
        have h : (0 : Int) < m := hc
        omega⟩
      have hvs := condF_ok e
      have hst : it condN m (l ++ [(condF e).1], (condF e).2) = it condN m0 ([], d0) := k2
      have q := fl_push eCd l (condF e).1
      have hxl : (l ++ [(condF e).1]).length = l.length + 1 := by simp
      conv => whnf
      refine ⟨_, fun _ => call61 e (by omega), ?_⟩
      generalize condF e = W at hvs hst q hxl ⊢
      conv => whnf
      refine ⟨?_, (m, l ++ [W.1], W.2), ⟨?_, hst, ?_⟩, ?_, rfl, rfl, ?_, ?_⟩
      · exact g0
      · dsimp only; rw [hxl]; omega
      · dsimp only; rw [hxl]; omega
      · dsimp only; omega
      all_goals repeat' (first | exact True.intro | refine leF_cons rfl ?_ ?_ | refine leS_cons rfl ?_ ?_ | (show PLe _ _ _ _; conv => whnf) | (show SLe _ _ _ _; conv => whnf) | (show PLeL _ _ _ _; conv => whnf) | apply And.intro | rfl | exact Nat.le_refl _ | exact fun _ _ => rfl | exact rowEq0 _ _)
      all_goals first | exact q | (dsimp only; rw [hxl]; rfl) | (dsimp only; rw [hxl]; done) | (dsimp only; omega) | omega | skip
    · replace hc := of_decide_eq_false hc
      have h0 : m = 0 := by
        have h : ¬ (0 : Int) < m := hc
        omega
      subst h0
      have hp : (l, e) = it condN m0 ([], d0) := k2
      rw [← hp]
      conv => whnf
      refine ⟨?_, [], ?_⟩
      · exact g0
      conv => whnf
      refine ⟨rfl, ?_, ?_, trivial⟩
      all_goals repeat' (first | exact True.intro | refine leF_cons rfl ?_ ?_ | refine leS_cons rfl ?_ ?_ | (show PLe _ _ _ _; conv => whnf) | (show SLe _ _ _ _; conv => whnf) | (show PLeL _ _ _ _; conv => whnf) | apply And.intro | rfl | exact Nat.le_refl _ | exact fun _ _ => rfl | exact rowEq0 _ _)
end Pv
end Go.Proofs.YtdcgnfkkklbckaaGreatDoor
/- LAW 13, THE WALKS: the reader of words: its next word, its next number. -/
set_option linter.unusedSimpArgs false
set_option linter.unusedVariables false
namespace Go.Proofs.YtdcgnfkkklbckaaGreatDoor
namespace Pv
def c134 : C := (.seq (.reg [⟨(some 2), 32, none, .mv (.c (.str []))⟩])
  (.seq (.seq (.reg [⟨(some 4), 64, none, .mv (.t 0)⟩,
    ⟨(some 5), 80, none, .nc (.t 4)⟩,
    ⟨(some 6), 96, none, .fa 0 (.t 5)⟩,
    ⟨(some 7), 112, none, .ld 1 false (.t 6)⟩,
    ⟨(some 8), 128, none, .len (.t 7)⟩,
    ⟨(some 9), 144, none, .bi false .eql (.t 8) (.c (.int .i64 0))⟩])
  (.cond (.t 9) (.seq (.reg [⟨(some 10), 160, none, .mv (.t 0)⟩,
    ⟨(some 11), 176, none, .nc (.t 10)⟩,
    ⟨(some 12), 192, none, .fa 1 (.t 11)⟩,
    ⟨none, 0, none, .st 1 (.t 12) (.c (.bool true))⟩])
  (.seq (.reg [⟨(some 2), 32, none, .mv (.c (.str []))⟩])
  .ret)) .skip))
  (.seq (.reg [⟨(some 13), 208, none, .mv (.t 0)⟩,
    ⟨(some 14), 224, none, .nc (.t 13)⟩,
    ⟨(some 15), 240, none, .fa 0 (.t 14)⟩,
    ⟨(some 16), 256, none, .ld 1 false (.t 15)⟩,
    ⟨(some 17), 272, none, .ia 1 (.t 16) (.c (.int .i64 0))⟩,
    ⟨(some 18), 288, none, .ld 1 false (.t 17)⟩,
    ⟨(some 3), 48, none, .mv (.t 18)⟩])
  (.seq (.reg [⟨(some 19), 304, none, .mv (.t 0)⟩,
    ⟨(some 20), 320, none, .mv (.t 0)⟩,
    ⟨(some 21), 336, none, .nc (.t 20)⟩,
    ⟨(some 22), 352, none, .fa 0 (.t 21)⟩,
    ⟨(some 23), 368, none, .ld 1 false (.t 22)⟩,
    ⟨(some 24), 384, none, .slc 1 (.t 23) (some (.c (.int .i64 1))) none⟩,
    ⟨(some 25), 400, none, .nc (.t 19)⟩,
    ⟨(some 26), 416, none, .fa 0 (.t 25)⟩,
    ⟨none, 0, none, .st 1 (.t 26) (.t 24)⟩])
  (.seq (.reg [⟨(some 27), 432, none, .mv (.t 3)⟩,
    ⟨(some 2), 32, none, .mv (.t 27)⟩])
  .ret)))))
theorem fits134 : fits Tryz.prog false Tryz.f134 1 28 [(2, none)] = some c134.er := by kernel_rfl
def c135 : C := (.seq (.reg [⟨(some 2), 32, none, .mv (.c (.int .i64 0))⟩])
  (.seq (.reg [⟨(some 6), 96, none, .mv (.t 0)⟩,
    ⟨(some 7), 112, none, .call (.c (.fn (.func 134) [] [])) [(.t 6)]⟩,
    ⟨(some 3), 48, none, .mv (.t 7)⟩])
  (.seq (.seq (.reg [⟨(some 8), 128, none, .mv (.t 3)⟩,
    ⟨(some 9), 144, none, .lens (.t 8)⟩,
    ⟨(some 10), 160, none, .bi false .eql (.t 9) (.c (.int .i64 0))⟩,
    ⟨(some 11), 176, none, .mv (.t 10)⟩,
    ⟨(some 12), 192, (some (11, false)), .mv (.t 3)⟩,
    ⟨(some 13), 208, (some (11, false)), .lens (.t 12)⟩,
    ⟨(some 14), 224, (some (11, false)), .bi false .gtr (.t 13) (.c (.int .i64 10))⟩,
    ⟨(some 15), 240, none, .pick (.t 11) (.c (.bool true)) (.t 14)⟩,
    ⟨(some 16), 256, none, .mv (.t 15)⟩,
    ⟨(some 17), 272, (some (16, false)), .mv (.t 3)⟩,
    ⟨(some 18), 288, (some (16, false)), .call (.c (.fn (.func 193) [] [])) [(.t 17), (.c (.str [48, 49, 50, 51, 52, 53, 54, 55, 56, 57]))]⟩,
    ⟨(some 19), 304, (some (16, false)), .bi false .neq (.t 18) (.c (.str []))⟩,
    ⟨(some 20), 320, none, .pick (.t 16) (.c (.bool true)) (.t 19)⟩])
  (.cond (.t 20) (.seq (.reg [⟨(some 21), 336, none, .mv (.t 0)⟩,
    ⟨(some 22), 352, none, .nc (.t 21)⟩,
    ⟨(some 23), 368, none, .fa 1 (.t 22)⟩,
    ⟨none, 0, none, .st 1 (.t 23) (.c (.bool true))⟩])
  (.seq (.reg [⟨(some 2), 32, none, .mv (.c (.int .i64 0))⟩])
  .ret)) .skip))
  (.seq (.reg [⟨(some 25), 400, none, .mv (.t 3)⟩,
    ⟨(some 26), 416, none, .call (.c (.fn (.func 194) [] [])) [(.t 25)]⟩,
    ⟨(some 24), 384, none, .mv (.t 26)⟩,
    ⟨(some 27), 432, none, .ex (.t 24) 0⟩,
    ⟨(some 28), 448, none, .ex (.t 24) 1⟩,
    ⟨(some 4), 64, none, .mv (.t 27)⟩,
    ⟨(some 5), 80, none, .mv (.t 28)⟩])
  (.seq (.reg [⟨(some 29), 464, none, .mv (.t 4)⟩,
    ⟨(some 2), 32, none, .mv (.t 29)⟩])
  .ret)))))
theorem fits135 : fits Tryz.prog false Tryz.f135 1 30 [(2, none)] = some c135.er := by kernel_rfl
def eRw (w : List (List UInt8)) (bad : Bool) : List PV := [.sl 1 1 w.length (fl eStr w), .bool bad]
theorem fl_tail (x : List UInt8) (r : List (List UInt8)) : RowEq (x :: r).tail.length (fun i => fl eStr (x :: r) (1 + i)) (fl eStr r) := fun i _ => by
  simp only [fl]; rw [Nat.add_comm]; rfl
def wLens (w : List (List UInt8)) : Prop := w.length ≤ 65537 ∧ ∀ x ∈ w, x.length ≤ 65536
theorem wLens.tail {w : List (List UInt8)} (h : wLens w) : wLens w.tail := ⟨by have := h.1; rw [List.length_tail]; omega, fun x hx => h.2 x (List.mem_of_mem_tail hx)⟩
theorem wLens.head {w : List (List UInt8)} (h : wLens w) : (w.headD []).length ≤ 65536 := by
  cases w with
  | nil => exact Nat.zero_le _
  | cons x r => exact h.2 x (List.mem_cons_self ..)
set_option maxRecDepth 100000 in
theorem call134 (w : List (List UInt8)) (bad : Bool) : PureCall Tryz.prog 134 [.pt 0 0 0] [.box (eRw w bad)] ⟨.str (w.headD []), [.box (eRw w.tail (bad || w.isEmpty))], []⟩ := by
  refine pure_call mix Tryz.func134 fits134 rfl ?_
  cases w with
  | nil =>
    rw [show (bad || ([] : List (List UInt8)).isEmpty) = true by cases bad <;> rfl]
    conv => whnf
    refine ⟨trivial, fun hc => ?_, fun hc => (by cases hc)⟩
    conv => whnf
    exact retB
  | cons x r =>
    rw [show (bad || (x :: r).isEmpty) = bad by cases bad <;> rfl]
    have hq := fl_tail x r
    conv => whnf
    refine ⟨trivial, fun hc => ?_, fun hc => ?_⟩
    · simp only [bp, List.length_cons] at hc; omega
    conv => whnf
    refine ⟨?_, [], ?_⟩
    · exact g0
    conv => whnf
    refine ⟨rfl, ?_, ?_, trivial⟩ <;> exact ent
def numG (w : List (List UInt8)) : Int := (numF (w.headD [])).getD 0
def numB (w : List (List UInt8)) : Bool := (numF (w.headD [])).isNone
theorem num_test (s : List UInt8) : (bif bif (s.length : Int) == 0 then true else decide (10 < (s.length : Int)) then true else !(Lib.trimS s digT == [])) = (numF s).isNone := by
  have hn := num_none s
  cases h : numF s with
  | none =>
    rcases hn.1 h with h | h | h
    · rw [h]; rfl
    · rw [show ((s.length : Int) == 0) = false by rw [beq_eq_false_iff_ne]; omega, decide_eq_true (by omega)]; rfl
    · rw [show (Lib.trimS s digT == []) = false by rw [beq_eq_false_iff_ne]; exact h]; simp
  | some n =>
    have h0 : ¬ (s.length = 0 ∨ 10 < s.length ∨ Lib.trimS s digT ≠ []) := fun hh => by rw [hn.2 hh] at h; cases h
    have h1 : s.length ≠ 0 := fun e => h0 (.inl e)
    have h2 : ¬ 10 < s.length := fun e => h0 (.inr (.inl e))
    have h3 : Lib.trimS s digT = [] := Classical.byContradiction fun e => h0 (.inr (.inr e))
    rw [show ((s.length : Int) == 0) = false by rw [beq_eq_false_iff_ne]; omega, decide_eq_false (by omega), h3]; rfl
set_option maxRecDepth 100000 in
theorem call135 (w : List (List UInt8)) (bad : Bool) (hw : wLens w) : PureCall Tryz.prog 135 [.pt 0 0 0] [.box (eRw w bad)] ⟨.int .i64 (numG w), [.box (eRw w.tail (bad || numB w))], []⟩ := by
  have hs := hw.head
  have hE : w.isEmpty = true → numB w = true := fun h => by
    have : w = [] := by simpa using h
    subst this; rfl
  unfold numG
  unfold numB at hE ⊢
  refine pure_call mix Tryz.func135 fits135 rfl ?_
  conv => whnf
  refine ⟨_, fun _ => call134 w bad, ?_⟩
  generalize w.headD [] = s at hs hE ⊢
  generalize w.tail = r
  have hn := num_none s
  conv => whnf
  refine ⟨_, fun _ => call193 s (by omega), ?_⟩
  conv => whnf
  refine ⟨?_, fun hc => ?_, fun hc => ?_⟩
  · exact g0
  · rw [num_test] at hc
    have h0 : numF s = none := by simpa using hc
    rw [h0]
    rw [show (bad || (none : Option Int).isNone) = true by cases bad <;> rfl]
    conv => whnf
    exact retB
  · rw [num_test] at hc
    obtain ⟨n, h0⟩ : ∃ n, numF s = some n := by
      cases h : numF s with
      | none => rw [h] at hc; cases hc
      | some n => exact ⟨n, rfl⟩
    have hwe : w.isEmpty = false := by
      cases he : w.isEmpty with
      | false => rfl
      | true => have := hE he; rw [h0] at this; cases this
    rw [h0, hwe]
    rw [show (bad || (some n : Option Int).isNone) = bad by cases bad <;> rfl, show (bad || false) = bad by cases bad <;> rfl]
    conv => whnf
    refine ⟨_, fun _ => call194 s n h0, ?_⟩
    conv => whnf
    exact retB
end Pv
end Go.Proofs.YtdcgnfkkklbckaaGreatDoor
/- LAW 13, THE WALKS: a line's words as a condition. -/
set_option linter.unusedSimpArgs false
set_option linter.unusedVariables false
namespace Go.Proofs.YtdcgnfkkklbckaaGreatDoor
namespace Pv
def c69L1 : C := (.seq (.reg [⟨(some 29), 464, none, .bi false .lss (.t 28) (.c (.int .i64 5))⟩])
  (.seq (.cond (.t 29) .skip (.exit 0))
  (.seq (.block 1 (.seq (.reg [⟨(some 30), 480, none, .mv (.t 28)⟩,
    ⟨(some 31), 496, none, .ixa 5 1 false (.t 27) (.t 28)⟩,
    ⟨(some 8), 128, none, .mv (.t 30)⟩,
    ⟨(some 9), 144, none, .mv (.t 31)⟩])
  (.seq (.reg [⟨(some 32), 512, none, .mv (.t 8)⟩,
    ⟨(some 33), 528, none, .bi false .gtr (.t 32) (.c (.int .i64 0))⟩,
    ⟨(some 34), 544, none, .mv (.t 33)⟩,
    ⟨(some 35), 560, (some (34, true)), .mv (.t 9)⟩,
    ⟨(some 36), 576, (some (34, true)), .mv (.t 7)⟩,
    ⟨(some 37), 592, (some (34, true)), .bi false .eql (.t 35) (.t 36)⟩,
    ⟨(some 38), 608, none, .pick (.t 34) (.t 37) (.c (.bool false))⟩])
  (.cond (.t 38) (.reg [⟨(some 39), 624, none, .mv (.t 8)⟩,
    ⟨(some 40), 640, none, .fa 1 (.t 5)⟩,
    ⟨none, 0, none, .st 1 (.t 40) (.t 39)⟩]) .skip))))
  (.reg [⟨(some 41), 656, none, .bi false .add (.t 28) (.c (.int .i64 1))⟩,
    ⟨(some 28), 448, none, .mv (.t 41)⟩]))))
def c69 : C := (.seq (.reg [⟨(some 2), 32, none, .al [(.int .i64 0), (.int .i64 0), (.int .i64 0), (.int .i64 0), (.int .i64 0), (.int .i64 0), (.int .i64 0)]⟩,
    ⟨(some 3), 48, none, .mv (.c (.bool false))⟩])
  (.scope (.seq (.reg [⟨(some 10), 160, none, .mv (.t 0)⟩,
    ⟨(some 11), 176, none, .bd [(.nil 1), (.bool false)] [(0, 1, (.t 10))]⟩,
    ⟨(some 12), 192, none, .bx 2 (.t 11)⟩,
    ⟨(some 4), 64, none, .mv (.t 12)⟩])
  (.seq (.reg [⟨(some 13), 208, none, .bd [(.int .i64 0), (.int .i64 0)] [(1, 1, (.c (.int .i64 364)))]⟩,
    ⟨(some 14), 224, none, .bd [(.int .i64 0), (.int .i64 0), (.int .i64 0), (.int .i64 0), (.int .i64 0), (.int .i64 0), (.int .i64 0)] [(3, 2, (.t 13)), (6, 1, (.c (.int .i64 16777216)))]⟩,
    ⟨(some 5), 80, none, .al [(.int .i64 0), (.int .i64 0), (.int .i64 0), (.int .i64 0), (.int .i64 0), (.int .i64 0), (.int .i64 0)]⟩,
    ⟨none, 0, none, .st 7 (.t 5) (.t 14)⟩])
  (.seq (.reg [⟨(some 15), 240, none, .mkm [.s] [.b] false false⟩,
    ⟨(some 6), 96, none, .mv (.t 15)⟩])
  (.seq (.reg [⟨(some 16), 256, none, .mv (.t 4)⟩,
    ⟨(some 17), 272, none, .mv (.t 4)⟩,
    ⟨(some 18), 288, none, .call (.c (.fn (.func 134) [] [])) [(.t 17)]⟩,
    ⟨(some 19), 304, none, .bi false .neq (.t 18) (.c (.str [114, 97, 110, 107]))⟩,
    ⟨(some 20), 320, none, .nc (.t 16)⟩,
    ⟨(some 21), 336, none, .fa 1 (.t 20)⟩,
    ⟨none, 0, none, .st 1 (.t 21) (.t 19)⟩])
  (.seq (.reg [⟨(some 22), 352, none, .mv (.t 4)⟩,
    ⟨(some 23), 368, none, .call (.c (.fn (.func 135) [] [])) [(.t 22)]⟩,
    ⟨(some 24), 384, none, .fa 0 (.t 5)⟩,
    ⟨none, 0, none, .st 1 (.t 24) (.t 23)⟩])
  (.seq (.reg [⟨(some 25), 400, none, .mv (.t 4)⟩,
    ⟨(some 26), 416, none, .call (.c (.fn (.func 134) [] [])) [(.t 25)]⟩,
    ⟨(some 7), 112, none, .mv (.t 26)⟩])
  (.seq (.seq (.reg [⟨(some 27), 432, none, .ld 5 true (.c (.rp 1 [(.str []), (.str [108, 101, 97, 115, 116]), (.str [109, 111, 115, 116]), (.str [117, 112]), (.str [100, 111, 119, 110])]))⟩,
    ⟨(some 28), 448, none, .mv (.c (.int .i64 0))⟩])
  (.block 0 (.loop c69L1)))
  (.seq (.reg [⟨(some 42), 672, none, .mv (.t 4)⟩,
    ⟨(some 43), 688, none, .mv (.t 4)⟩,
    ⟨(some 44), 704, none, .nc (.t 43)⟩,
    ⟨(some 45), 720, none, .fa 1 (.t 44)⟩,
    ⟨(some 46), 736, none, .ld 1 false (.t 45)⟩,
    ⟨(some 47), 752, none, .mv (.t 46)⟩,
    ⟨(some 48), 768, (some (47, false)), .fa 1 (.t 5)⟩,
    ⟨(some 49), 784, (some (47, false)), .ld 1 false (.t 48)⟩,
    ⟨(some 50), 800, (some (47, false)), .bi false .eql (.t 49) (.c (.int .i64 0))⟩,
    ⟨(some 51), 816, none, .pick (.t 47) (.c (.bool true)) (.t 50)⟩,
    ⟨(some 52), 832, none, .nc (.t 42)⟩,
    ⟨(some 53), 848, none, .fa 1 (.t 52)⟩,
    ⟨none, 0, none, .st 1 (.t 53) (.t 51)⟩])
  (.seq (.reg [⟨(some 54), 864, none, .mv (.t 4)⟩,
    ⟨(some 55), 880, none, .call (.c (.fn (.func 135) [] [])) [(.t 54)]⟩,
    ⟨(some 56), 896, none, .fa 2 (.t 5)⟩,
    ⟨none, 0, none, .st 1 (.t 56) (.t 55)⟩])
  (.cut (.seq (.lab 0)
  (.seq (.seq (.reg [⟨(some 57), 912, none, .mv (.t 4)⟩,
    ⟨(some 58), 928, none, .nc (.t 57)⟩,
    ⟨(some 59), 944, none, .fa 1 (.t 58)⟩,
    ⟨(some 60), 960, none, .ld 1 false (.t 59)⟩,
    ⟨(some 61), 976, none, .mv (.t 60)⟩,
    ⟨(some 62), 992, (some (61, false)), .mv (.t 4)⟩,
    ⟨(some 63), 1008, (some (61, false)), .nc (.t 62)⟩,
    ⟨(some 64), 1024, (some (61, false)), .fa 0 (.t 63)⟩,
    ⟨(some 65), 1040, (some (61, false)), .ld 1 false (.t 64)⟩,
    ⟨(some 66), 1056, (some (61, false)), .len (.t 65)⟩,
    ⟨(some 67), 1072, (some (61, false)), .bi false .eql (.t 66) (.c (.int .i64 0))⟩,
    ⟨(some 68), 1088, none, .pick (.t 61) (.c (.bool true)) (.t 67)⟩])
  (.cond (.t 68) (.seq (.drw [⟨(some 69), 1104, none, .ld 7 true (.t 5)⟩,
    ⟨(some 70), 1120, none, .mv (.t 4)⟩,
    ⟨(some 71), 1136, none, .nc (.t 70)⟩,
    ⟨(some 72), 1152, none, .fa 1 (.t 71)⟩,
    ⟨(some 73), 1168, none, .ld 1 false (.t 72)⟩,
    ⟨(some 74), 1184, none, .un false .not (.t 73)⟩,
    ⟨none, 0, none, .st 7 (.t 2) (.t 69)⟩,
    ⟨(some 3), 48, none, .mv (.t 74)⟩]
    [(0, 1, 69), (0, 2, 69), (0, 3, 69), (0, 4, 69), (0, 5, 69), (1, 6, 70), (2, 6, 71), (3, 6, 72), (4, 6, 73), (5, 6, 74)])
  .ret) .skip))
  (.seq (.reg [⟨(some 75), 1200, none, .mv (.t 4)⟩,
    ⟨(some 76), 1216, none, .call (.c (.fn (.func 134) [] [])) [(.t 75)]⟩,
    ⟨(some 7), 112, none, .mv (.t 76)⟩])
  (.seq (.reg [⟨(some 77), 1232, none, .mv (.t 4)⟩,
    ⟨(some 78), 1248, none, .mv (.t 6)⟩,
    ⟨(some 79), 1264, none, .mv (.t 7)⟩,
    ⟨(some 80), 1280, none, .mpg [.s] [.b] false false false (.t 78) (.t 79)⟩,
    ⟨(some 81), 1296, none, .nc (.t 77)⟩,
    ⟨(some 82), 1312, none, .fa 1 (.t 81)⟩,
    ⟨none, 0, none, .st 1 (.t 82) (.t 80)⟩])
  (.seq (.reg [⟨(some 83), 1328, none, .mv (.t 6)⟩,
    ⟨(some 84), 1344, none, .mv (.t 7)⟩,
    ⟨none, 0, none, .mpu [.s] [.b] false false (.t 83) (.t 84) (.c (.bool true))⟩])
  (.seq (.seq (.reg [⟨(some 85), 1360, none, .mv (.t 7)⟩])
  (.block 2 (.seq (.reg [⟨(some 90), 1440, none, .bi false .eql (.t 85) (.c (.str [100, 97, 121, 115]))⟩,
    ⟨(some 89), 1424, none, .mv (.t 90)⟩])
  (.cond (.t 89) (.reg [⟨(some 91), 1456, none, .mv (.t 4)⟩,
    ⟨(some 92), 1472, none, .call (.c (.fn (.func 135) [] [])) [(.t 91)]⟩,
    ⟨(some 93), 1488, none, .mv (.t 4)⟩,
    ⟨(some 94), 1504, none, .call (.c (.fn (.func 135) [] [])) [(.t 93)]⟩,
    ⟨(some 95), 1520, none, .bd [(.int .i64 0), (.int .i64 0)] [(0, 1, (.t 92)), (1, 1, (.t 94))]⟩,
    ⟨(some 96), 1536, none, .fa 3 (.t 5)⟩,
    ⟨none, 0, none, .st 2 (.t 96) (.t 95)⟩]) (.seq (.reg [⟨(some 98), 1568, none, .bi false .eql (.t 85) (.c (.str [97, 98, 111, 118, 101]))⟩,
    ⟨(some 97), 1552, none, .mv (.t 98)⟩])
  (.cond (.t 97) (.reg [⟨(some 99), 1584, none, .mv (.t 4)⟩,
    ⟨(some 100), 1600, none, .call (.c (.fn (.func 135) [] [])) [(.t 99)]⟩,
    ⟨(some 101), 1616, none, .fa 5 (.t 5)⟩,
    ⟨none, 0, none, .st 1 (.t 101) (.t 100)⟩]) (.seq (.reg [⟨(some 103), 1648, none, .bi false .eql (.t 85) (.c (.str [98, 101, 108, 111, 119]))⟩,
    ⟨(some 102), 1632, none, .mv (.t 103)⟩])
  (.cond (.t 102) (.reg [⟨(some 104), 1664, none, .mv (.t 4)⟩,
    ⟨(some 105), 1680, none, .call (.c (.fn (.func 135) [] [])) [(.t 104)]⟩,
    ⟨(some 106), 1696, none, .fa 6 (.t 5)⟩,
    ⟨none, 0, none, .st 1 (.t 106) (.t 105)⟩]) (.reg [⟨(some 86), 1376, none, .mv (.t 4)⟩,
    ⟨(some 87), 1392, none, .nc (.t 86)⟩,
    ⟨(some 88), 1408, none, .fa 1 (.t 87)⟩,
    ⟨none, 0, none, .st 1 (.t 88) (.c (.bool true))⟩])))))))))
  (.gto 0)))))))))))))))))))
theorem fits69 : fits Tryz.prog false Tryz.f69 1 107 [(2, some (7, true)), (3, none)] = some c69.er := by kernel_rfl
section
variable {P : Program} {s : PS} {wr : Bool} {np n : Nat} {Q : Lv → PS → Prop} {b : C}
theorem LSem.jumps2 (hmix : P.follows .mixedOrders = true) {α : Type} (l : Nat) (r : C) (hr : C.from l b = some r) (I : α → Prop) (fl : α → List (Nat × PV)) (sl : α → List (Nat × SE)) (μ : α → Nat)
    (pass : ∀ x, I x → ∀ J : PS → Prop, (∀ s', (s'.ok ∧ ∃ x', I x' ∧ μ x' < μ x ∧ Ent np s' n (fl x') (sl x')) → J s') → vc (PureCall P) (LSem P wr np) r (jmps l J Q) (St n (fl x) (sl x)))
    (first : ∀ J : PS → Prop, (∀ x, I x → vc (PureCall P) (LSem P wr np) r (jmps l J Q) (St n (fl x) (sl x))) → vc (PureCall P) (LSem P wr np) b (jmps l J Q) s) : LSem P wr np (.scope b) Q s :=
  LSem.jumps hmix l r hr I fl sl μ (first _ fun x hx => pass x hx _ fun _ ⟨h0, x', h1, _, h3⟩ => ⟨h0, x', h1, h3⟩) fun x hx => pass x hx _ fun _ h => h
end
def partsG : Nat → Cd → Bool → Bool → Bool → Bool → List (List UInt8) → Cd × Bool
  | 0, c, bad, _, _, _, _ => (c, !bad)
  | n + 1, c, bad, d, a, b, w => if bad = true then (c, false) else match w with
    | [] => (c, true)
    | x :: r => if x = wDays then partsG n { c with f := numG r, u := numG r.tail } ((d || numB r) || numB r.tail) true a b r.tail.tail
      else if x = wAbove then partsG n { c with a := numG r } (a || numB r) d true b r.tail
      else if x = wBelow then partsG n { c with b := numG r } (b || numB r) d a true r.tail
      else (c, false)
def kU (w : List UInt8) : Nat → Int
  | 0 => 0
  | i + 1 => if 0 < i ∧ kindWords.getD i [] = w then i else kU w i
theorem kU_kind (w : List UInt8) : kU w 5 = kindOf w := by
  by_cases h1 : w = wLeast
  · subst h1; decide
  by_cases h2 : w = wMost
  · subst h2; decide
  by_cases h3 : w = wUp
  · subst h3; decide
  by_cases h4 : w = wDown
  · subst h4; decide
  unfold kindOf
  rw [if_neg h1, if_neg h2, if_neg h3, if_neg h4]
  unfold kU; rw [if_neg (fun h => h4 h.2.symm)]
  unfold kU; rw [if_neg (fun h => h3 h.2.symm)]
  unfold kU; rw [if_neg (fun h => h2 h.2.symm)]
  unfold kU; rw [if_neg (fun h => h1 h.2.symm)]
  unfold kU; rw [if_neg (fun h => absurd h.1 (Nat.lt_irrefl 0))]
  rfl
def headG (w : List (List UInt8)) : Cd × Bool :=
  (⟨numG w.tail, kindOf (w.tail.tail.headD []), numG w.tail.tail.tail, 0, 364, 0, 16777216⟩,
   (((!(w.headD [] == wRank)) || numB w.tail) || w.tail.tail.isEmpty || (kindOf (w.tail.tail.headD []) == 0)) || numB w.tail.tail.tail)
def condG (w : List (List UInt8)) : Cd × Bool := partsG (w.length + 1) (headG w).1 (headG w).2 false false false w.tail.tail.tail.tail
set_option maxRecDepth 100000 in
set_option maxHeartbeats 8000000 in
theorem call69 (w : List (List UInt8)) (hw : wLens w) : PureCall Tryz.prog 69 [.sl 1 1 w.length (fl eStr w)] [] ⟨.tup [.agg (eCd (condG w).1), .bool (condG w).2], [], []⟩ := by
  refine pure_call mix Tryz.func69 fits69 rfl ?_
  conv => whnf
  refine ⟨trivial, ?_⟩
  refine LSem.jumps2 (n := 107) mix (α := (Nat × Cd × Bool × Bool × Bool × Bool) × List (List UInt8) × (List PC → Bool) × (List PC → List PC)) 0 _ rfl
    (fun ⟨⟨n, c, bad, d, a, b⟩, w', h, f⟩ => wLens w' ∧ w'.length < n ∧ (f [.s wDays] = [.b d] ∧ f [.s wAbove] = [.b a] ∧ f [.s wBelow] = [.b b] ∧ ∀ k, ∃ z, f [.s k] = [.b z]) ∧ partsG n c bad d a b w' = condG w)
    (fun ⟨⟨n, c, bad, d, a, b⟩, w', h, f⟩ => [(2, .pt 32 0 0), (4, .pt 192 0 0), (5, .pt 80 0 0), (6, .rf none 240)])
    (fun ⟨⟨n, c, bad, d, a, b⟩, w', h, f⟩ => [(32, .box [.int .i64 0, .int .i64 0, .int .i64 0, .int .i64 0, .int .i64 0, .int .i64 0, .int .i64 0]), (80, .box (eCd c)), (192, .box (eRw w' bad)), (240, .box [.mpv [.s] [.b] false false h f])])
    (fun x => x.1.1) ?_ ?_
  · rintro ⟨⟨n, c, bad, d, a, b⟩, w', h, f⟩ ⟨h1, h2, ⟨h3, h4, h5, h6⟩, h7⟩ J hJ
    obtain ⟨n, rfl⟩ : ∃ m, n = m + 1 := ⟨n - 1, by omega⟩
    cases bad with
    | true =>
      rw [show condG w = (c, false) from h7.symm]
      conv => whnf
      refine ⟨?_, fun hc => ?_, fun hc => (by cases hc)⟩
      · exact g0
      conv => whnf
      refine ⟨rfl, ?_⟩
      conv => whnf
      refine ⟨?_, [], ?_⟩
      · exact g0
      conv => whnf
      refine ⟨rfl, ?_, trivial, trivial⟩
      exact ent
    | false =>
      cases w' with
      | nil =>
        rw [show condG w = (c, true) from h7.symm]
        conv => whnf
        refine ⟨?_, fun hc => ?_, fun hc => (by cases hc)⟩
        · exact g0
        conv => whnf
        refine ⟨rfl, ?_⟩
        conv => whnf
        refine ⟨?_, [], ?_⟩
        · exact g0
        conv => whnf
        refine ⟨rfl, ?_, trivial, trivial⟩
        exact ent
      | cons x r =>
        conv => whnf
        refine ⟨?_, fun hc => ?_, fun hc => ?_⟩
        · exact g0
        · simp only [bp, List.length_cons] at hc; omega
        clear hc
        conv => whnf
        have hN : PureCall Tryz.prog 134 [.pt 0 0 0] [.box (eRw (x :: r) false)] ⟨.str x, [.box (eRw r false)], []⟩ := call134 (x :: r) false
        have hr : wLens r := h1.tail
        have h2' : r.length < n := by rw [List.length_cons] at h2; omega
        have hne : ∀ u v : List UInt8, u ≠ v → eqK [.s u] [.s v] = false := fun u v h => by
          show (u == v && true) = false
          rw [beq_eq_false_iff_ne.2 h]; rfl
        have heq : ∀ u : List UInt8, eqK [.s u] [.s u] = true := fun u => by
          show (u == u && true) = true
          rw [beq_self_eq_true]; rfl
        refine ⟨_, fun _ => hN, ?_⟩
        by_cases e1 : x = wDays
        · subst e1
          have hB : boolP ((f [.s wDays]).headD default) = d := by rw [h3]; rfl
          conv => whnf
          refine ⟨?_, fun hc => ?_, fun hc => absurd hc (by decide)⟩
          · exact g0
          conv => whnf
          refine ⟨_, fun _ => call135 r (boolP ((f [.s wDays]).headD default)) hr, ?_⟩
          conv => whnf
          refine ⟨_, fun _ => call135 r.tail (boolP ((f [.s wDays]).headD default) || numB r) hr.tail, ?_⟩
          conv => whnf
          apply hJ
          refine ⟨?_, ((n, { c with f := numG r, u := numG r.tail }, (boolP ((f [.s wDays]).headD default) || numB r) || numB r.tail, true, a, b), r.tail.tail, (fun k => eqK k [.s wDays] || h k), (fun k => bif eqK k [.s wDays] then [.b true] else f k)), ⟨hr.tail.tail, ?_, ⟨?_, ?_, ?_, ?_⟩, ?_⟩, ?_, rfl, rfl, ?_, ?_⟩
          · exact g0
          · simp only [List.length_tail]; omega
          · dsimp only; rw [heq]; rfl
          · dsimp only; rw [hne _ _ (by decide)]; exact h4
          · dsimp only; rw [hne _ _ (by decide)]; exact h5
          · intro k
            dsimp only
            cases eqK [.s k] [.s wDays]
            · exact h6 k
            · exact ⟨true, rfl⟩
          · rw [hB, ← h7]; rfl
          · exact Nat.lt_succ_self n
          · exact ent
          · exact ent
        by_cases e2 : x = wAbove
        · subst e2
          have hB : boolP ((f [.s wAbove]).headD default) = a := by rw [h4]; rfl
          conv => whnf
          refine ⟨?_, fun hc => absurd hc (by decide), fun hc => ?_⟩
          · exact g0
          conv => whnf
          refine ⟨?_, fun hc => ?_, fun hc => absurd hc (by decide)⟩
          · exact g0
          conv => whnf
          refine ⟨_, fun _ => call135 r (boolP ((f [.s wAbove]).headD default)) hr, ?_⟩
          conv => whnf
          apply hJ
          refine ⟨?_, ((n, { c with a := numG r }, boolP ((f [.s wAbove]).headD default) || numB r, d, true, b), r.tail, (fun k => eqK k [.s wAbove] || h k), (fun k => bif eqK k [.s wAbove] then [.b true] else f k)), ⟨hr.tail, ?_, ⟨?_, ?_, ?_, ?_⟩, ?_⟩, ?_, rfl, rfl, ?_, ?_⟩
          · exact g0
          · simp only [List.length_tail]; omega
          · dsimp only; rw [hne _ _ (by decide)]; exact h3
          · dsimp only; rw [heq]; rfl
          · dsimp only; rw [hne _ _ (by decide)]; exact h5
          · intro k
            dsimp only
            cases eqK [.s k] [.s wAbove]
            · exact h6 k
            · exact ⟨true, rfl⟩
          · rw [hB, ← h7]; rfl
          · exact Nat.lt_succ_self n
          · exact ent
          · exact ent
        by_cases e3 : x = wBelow
        · subst e3
          have hB : boolP ((f [.s wBelow]).headD default) = b := by rw [h5]; rfl
          conv => whnf
          refine ⟨?_, fun hc => absurd hc (by decide), fun hc => ?_⟩
          · exact g0
          conv => whnf
          refine ⟨?_, fun hc => absurd hc (by decide), fun hc => ?_⟩
          · exact g0
          conv => whnf
          refine ⟨?_, fun hc => ?_, fun hc => absurd hc (by decide)⟩
          · exact g0
          conv => whnf
          refine ⟨_, fun _ => call135 r (boolP ((f [.s wBelow]).headD default)) hr, ?_⟩
          conv => whnf
          apply hJ
          refine ⟨?_, ((n, { c with b := numG r }, boolP ((f [.s wBelow]).headD default) || numB r, d, a, true), r.tail, (fun k => eqK k [.s wBelow] || h k), (fun k => bif eqK k [.s wBelow] then [.b true] else f k)), ⟨hr.tail, ?_, ⟨?_, ?_, ?_, ?_⟩, ?_⟩, ?_, rfl, rfl, ?_, ?_⟩
          · exact g0
          · simp only [List.length_tail]; omega
          · dsimp only; rw [hne _ _ (by decide)]; exact h3
          · dsimp only; rw [hne _ _ (by decide)]; exact h4
          · dsimp only; rw [heq]; rfl
          · intro k
            dsimp only
            cases eqK [.s k] [.s wBelow]
            · exact h6 k
            · exact ⟨true, rfl⟩
          · rw [hB, ← h7]; rfl
          · exact Nat.lt_succ_self n
          · exact ent
          · exact ent
        have hG : (c, false) = condG w := by
          rw [← h7]; unfold partsG; dsimp only; rw [if_neg (by decide), if_neg e1, if_neg e2, if_neg e3]
        conv => whnf
        refine ⟨?_, fun hc => absurd (eq_of_beq hc) e1, fun hc => ?_⟩
        · exact g0
        conv => whnf
        refine ⟨?_, fun hc => absurd (eq_of_beq hc) e2, fun hc => ?_⟩
        · exact g0
        conv => whnf
        refine ⟨?_, fun hc => absurd (eq_of_beq hc) e3, fun hc => ?_⟩
        · exact g0
        conv => whnf
        apply hJ
        refine ⟨?_, ((n, c, true, d, a, b), r, (fun k => eqK k [.s x] || h k), (fun k => bif eqK k [.s x] then [.b true] else f k)), ⟨hr, h2', ⟨?_, ?_, ?_, ?_⟩, ?_⟩, ?_, rfl, rfl, ?_, ?_⟩
        · exact g0
        · dsimp only; rw [hne _ _ (fun e => e1 e.symm)]; exact h3
        · dsimp only; rw [hne _ _ (fun e => e2 e.symm)]; exact h4
        · dsimp only; rw [hne _ _ (fun e => e3 e.symm)]; exact h5
        · intro k
          dsimp only
          cases eqK [.s k] [.s x]
          · exact h6 k
          · exact ⟨true, rfl⟩
        · rw [← hG]; cases n <;> rfl
        · exact Nat.lt_succ_self n
        · exact ent
        · exact ent
  · intro J hJ
    have hw1 := hw.tail
    have hw2 := hw1.tail
    have hw3 := hw2.tail
    conv => whnf
    refine ⟨_, fun _ => call134 w false, ?_⟩
    conv => whnf
    refine ⟨_, fun _ => call135 w.tail (!(w.headD [] == wRank)) hw1, ?_⟩
    conv => whnf
    refine ⟨_, fun _ => call134 w.tail.tail ((!(w.headD [] == wRank)) || numB w.tail), ?_⟩
    conv => whnf
    refine ⟨?_, ?_⟩
    · exact g0
    refine LSem.loop (n := 107) mix (α := Nat) (fun i => i ≤ 5)
      (fun i => [(2, .pt 32 0 0), (4, .pt 192 0 0), (5, .pt 80 0 0), (6, .rf none 240), (7, .str (w.tail.tail.headD [])), (27, .agg [.str [], .str wLeast, .str wMost, .str wUp, .str wDown]), (28, .int .i64 i)])
      (fun i => [(32, .box [.int .i64 0, .int .i64 0, .int .i64 0, .int .i64 0, .int .i64 0, .int .i64 0, .int .i64 0]), (80, .box (eCd ⟨numG w.tail, kU (w.tail.tail.headD []) i, 0, 0, 364, 0, 16777216⟩)), (192, .box (eRw w.tail.tail.tail (((!(w.headD [] == wRank)) || numB w.tail) || w.tail.tail.isEmpty))), (240, .box [.mpv [.s] [.b] false false (fun _ => false) (fun _ => [.b false])])]) (fun i => 5 - i) 0 ?_ ?_ ?_
    · exact Nat.zero_le _
    · refine ⟨rfl, rfl, ?_, ?_⟩ <;> exact ent
    · intro i hi
      have hcs : i = 0 ∨ i = 1 ∨ i = 2 ∨ i = 3 ∨ i = 4 ∨ i = 5 := by omega
      rcases hcs with rfl | rfl | rfl | rfl | rfl | rfl
      · conv => whnf
        refine ⟨trivial, fun hc => ?_, fun hc => (by cases hc)⟩
        conv => whnf
        refine ⟨?_, fun hc => (by cases hc), fun hc => ?_⟩
        · exact g0
        conv => whnf
        refine ⟨?_, 1, by omega, by omega, rfl, rfl, ?_, ?_⟩
        · exact g0
        · exact ent
        · exact ent
      · conv => whnf
        refine ⟨trivial, fun hc => ?_, fun hc => (by cases hc)⟩
        conv => whnf
        refine ⟨?_, fun hc => ?_, fun hc => ?_⟩
        · exact g0
        · have hk : (1 : Int) = kU (w.tail.tail.headD []) 2 := by
            have he : wLeast = w.tail.tail.headD [] := eq_of_beq hc
            unfold kU; rw [if_pos ⟨by decide, he⟩]; rfl
          conv => whnf
          refine ⟨?_, 2, by omega, by omega, rfl, rfl, ?_, ?_⟩
          · exact g0
          · exact ent
          · exact ent
        · have hk : kU (w.tail.tail.headD []) 1 = kU (w.tail.tail.headD []) 2 := by
            have he : ¬ wLeast = w.tail.tail.headD [] := ne_of_beq_false hc
            rw [show kU (w.tail.tail.headD []) 2 = if 0 < 1 ∧ kindWords.getD 1 [] = w.tail.tail.headD [] then 1 else kU (w.tail.tail.headD []) 1 from rfl, if_neg (fun h => he h.2)]
          conv => whnf
          refine ⟨?_, 2, by omega, by omega, rfl, rfl, ?_, ?_⟩
          · exact g0
          · exact ent
          · exact ent
      · conv => whnf
        refine ⟨trivial, fun hc => ?_, fun hc => (by cases hc)⟩
        conv => whnf
        refine ⟨?_, fun hc => ?_, fun hc => ?_⟩
        · exact g0
        · have hk : (2 : Int) = kU (w.tail.tail.headD []) 3 := by
            have he : wMost = w.tail.tail.headD [] := eq_of_beq hc
            unfold kU; rw [if_pos ⟨by decide, he⟩]; rfl
          conv => whnf
          refine ⟨?_, 3, by omega, by omega, rfl, rfl, ?_, ?_⟩
          · exact g0
          · exact ent
          · exact ent
        · have hk : kU (w.tail.tail.headD []) 2 = kU (w.tail.tail.headD []) 3 := by
            have he : ¬ wMost = w.tail.tail.headD [] := ne_of_beq_false hc
            rw [show kU (w.tail.tail.headD []) 3 = if 0 < 2 ∧ kindWords.getD 2 [] = w.tail.tail.headD [] then 2 else kU (w.tail.tail.headD []) 2 from rfl, if_neg (fun h => he h.2)]
          conv => whnf
          refine ⟨?_, 3, by omega, by omega, rfl, rfl, ?_, ?_⟩
          · exact g0
          · exact ent
          · exact ent
      · conv => whnf
        refine ⟨trivial, fun hc => ?_, fun hc => (by cases hc)⟩
        conv => whnf
        refine ⟨?_, fun hc => ?_, fun hc => ?_⟩
        · exact g0
        · have hk : (3 : Int) = kU (w.tail.tail.headD []) 4 := by
            have he : wUp = w.tail.tail.headD [] := eq_of_beq hc
            unfold kU; rw [if_pos ⟨by decide, he⟩]; rfl
          conv => whnf
          refine ⟨?_, 4, by omega, by omega, rfl, rfl, ?_, ?_⟩
          · exact g0
          · exact ent
          · exact ent
        · have hk : kU (w.tail.tail.headD []) 3 = kU (w.tail.tail.headD []) 4 := by
            have he : ¬ wUp = w.tail.tail.headD [] := ne_of_beq_false hc
            rw [show kU (w.tail.tail.headD []) 4 = if 0 < 3 ∧ kindWords.getD 3 [] = w.tail.tail.headD [] then 3 else kU (w.tail.tail.headD []) 3 from rfl, if_neg (fun h => he h.2)]
          conv => whnf
          refine ⟨?_, 4, by omega, by omega, rfl, rfl, ?_, ?_⟩
          · exact g0
          · exact ent
          · exact ent
      · conv => whnf
        refine ⟨trivial, fun hc => ?_, fun hc => (by cases hc)⟩
        conv => whnf
        refine ⟨?_, fun hc => ?_, fun hc => ?_⟩
        · exact g0
        · have hk : (4 : Int) = kU (w.tail.tail.headD []) 5 := by
            have he : wDown = w.tail.tail.headD [] := eq_of_beq hc
            unfold kU; rw [if_pos ⟨by decide, he⟩]; rfl
          conv => whnf
          refine ⟨?_, 5, by omega, by omega, rfl, rfl, ?_, ?_⟩
          · exact g0
          · exact ent
          · exact ent
        · have hk : kU (w.tail.tail.headD []) 4 = kU (w.tail.tail.headD []) 5 := by
            have he : ¬ wDown = w.tail.tail.headD [] := ne_of_beq_false hc
            rw [show kU (w.tail.tail.headD []) 5 = if 0 < 4 ∧ kindWords.getD 4 [] = w.tail.tail.headD [] then 4 else kU (w.tail.tail.headD []) 4 from rfl, if_neg (fun h => he h.2)]
          conv => whnf
          refine ⟨?_, 5, by omega, by omega, rfl, rfl, ?_, ?_⟩
          · exact g0
          · exact ent
          · exact ent
      · conv => whnf
        refine ⟨trivial, fun hc => (by cases hc), fun hc => ?_⟩
        rw [kU_kind]
        conv => whnf
        refine ⟨_, fun _ => call135 w.tail.tail.tail (bif ((!(w.headD [] == wRank)) || numB w.tail) || w.tail.tail.isEmpty then true else kindOf (w.tail.tail.headD []) == 0) hw3, ?_⟩
        conv => whnf
        refine ⟨?_, ?_⟩
        · exact g0
        refine LSem.cut mix (fl := [(2, .pt 32 0 0), (4, .pt 192 0 0), (5, .pt 80 0 0), (6, .rf none 240)])
          (sl := [(32, .box [.int .i64 0, .int .i64 0, .int .i64 0, .int .i64 0, .int .i64 0, .int .i64 0, .int .i64 0]), (80, .box (eCd (headG w).1)), (192, .box (eRw w.tail.tail.tail.tail (headG w).2)), (240, .box [.mpv [.s] [.b] false false (fun _ => false) (fun _ => [.b false])])]) ?_
          (hJ ((w.length + 1, (headG w).1, (headG w).2, false, false, false), w.tail.tail.tail.tail, _, _) ⟨hw3.tail, by simp only [List.length_tail]; omega, ⟨rfl, rfl, rfl, fun k => ⟨false, rfl⟩⟩, rfl⟩)
        have hB : ((bif ((!(w.headD [] == wRank)) || numB w.tail) || w.tail.tail.isEmpty then true else kindOf (w.tail.tail.headD []) == 0) || numB w.tail.tail.tail) = (headG w).2 := by
          unfold headG
          dsimp only
          cases ((!(w.headD [] == wRank)) || numB w.tail) || w.tail.tail.isEmpty <;> rfl
        rw [hB]
        refine ⟨rfl, rfl, ?_, ?_⟩ <;> exact ent
end Pv
end Go.Proofs.YtdcgnfkkklbckaaGreatDoor
/- LAW 13, THE WALKS: a text's lines that are conditions. -/
set_option linter.unusedSimpArgs false
set_option linter.unusedVariables false
namespace Go.Proofs.YtdcgnfkkklbckaaGreatDoor
namespace Pv
def c133 : C := (.seq (.reg [⟨(some 2), 32, none, .mv (.c (.nil 1))⟩])
  (.seq (.reg [⟨(some 3), 48, none, .mv (.t 0)⟩,
    ⟨(some 4), 64, none, .call (.c (.fn (.func 149) [] [])) [(.t 3), (.c (.fn (.func 192) [] []))]⟩,
    ⟨(some 2), 32, none, .mv (.t 4)⟩])
  .ret))
theorem fits133 : fits Tryz.prog false Tryz.f133 1 5 [(2, none)] = some c133.er := by kernel_rfl
def c68L1 : C := (.seq (.reg [⟨(some 11), 176, none, .bi false .lss (.t 10) (.t 9)⟩])
  (.seq (.cond (.t 11) .skip (.exit 0))
  (.seq (.block 1 (.seq (.reg [⟨(some 12), 192, none, .mv (.t 10)⟩,
    ⟨(some 13), 208, none, .ia 1 (.t 8) (.t 10)⟩,
    ⟨(some 14), 224, none, .ld 1 false (.t 13)⟩,
    ⟨(some 4), 64, none, .mv (.t 12)⟩,
    ⟨(some 5), 80, none, .mv (.t 14)⟩])
  (.seq (.reg [⟨(some 15), 240, none, .mv (.t 5)⟩,
    ⟨(some 16), 256, none, .call (.c (.fn (.func 133) [] [])) [(.t 15)]⟩,
    ⟨(some 6), 96, none, .mv (.t 16)⟩])
  (.seq (.reg [⟨(some 17), 272, none, .mv (.t 6)⟩,
    ⟨(some 18), 288, none, .len (.t 17)⟩,
    ⟨(some 19), 304, none, .bi false .gtr (.t 18) (.c (.int .i64 0))⟩,
    ⟨(some 20), 320, none, .mv (.t 19)⟩,
    ⟨(some 21), 336, (some (20, true)), .mv (.t 6)⟩,
    ⟨(some 22), 352, (some (20, true)), .ia 1 (.t 21) (.c (.int .i64 0))⟩,
    ⟨(some 23), 368, (some (20, true)), .ld 1 false (.t 22)⟩,
    ⟨(some 24), 384, (some (20, true)), .ixs (.t 23) (.c (.int .i64 0))⟩,
    ⟨(some 25), 400, (some (20, true)), .bi false .neq (.t 24) (.c (.int .u8 35))⟩,
    ⟨(some 26), 416, none, .pick (.t 20) (.t 25) (.c (.bool false))⟩])
  (.cond (.t 26) (.reg [⟨(some 27), 432, none, .mv (.t 3)⟩,
    ⟨(some 28), 448, none, .mv (.t 4)⟩,
    ⟨(some 29), 464, none, .bi false .add (.t 28) (.c (.int .i64 1))⟩,
    ⟨(some 30), 480, none, .mv (.t 6)⟩,
    ⟨(some 31), 496, none, .bd [(.int .i64 0), (.nil 1)] [(0, 1, (.t 29)), (1, 1, (.t 30))]⟩,
    ⟨(some 32), 512, none, .bs 183 2 [(.t 31)]⟩,
    ⟨(some 33), 528, none, .app 183 2 32 (.t 27) (.t 32)⟩,
    ⟨(some 3), 48, none, .mv (.t 33)⟩]) .skip)))))
  (.reg [⟨(some 34), 544, none, .bi false .add (.t 10) (.c (.int .i64 1))⟩,
    ⟨(some 10), 160, none, .mv (.t 34)⟩]))))
def c68 : C := (.seq (.reg [⟨(some 2), 32, none, .mv (.c (.nil 2))⟩])
  (.seq (.reg [⟨(some 3), 48, none, .mv (.c (.nil 2))⟩])
  (.seq (.seq (.reg [⟨(some 7), 112, none, .mv (.t 0)⟩,
    ⟨(some 8), 128, none, .call (.c (.fn (.func 132) [] [])) [(.t 7), (.c (.str [10]))]⟩,
    ⟨(some 9), 144, none, .len (.t 8)⟩,
    ⟨(some 10), 160, none, .mv (.c (.int .i64 0))⟩])
  (.block 0 (.loop c68L1)))
  (.seq (.reg [⟨(some 35), 560, none, .mv (.t 3)⟩,
    ⟨(some 2), 32, none, .mv (.t 35)⟩])
  .ret))))
theorem fits68 : fits Tryz.prog false Tryz.f68 1 36 [(2, none)] = some c68.er := by kernel_rfl
theorem call133 (s : List UInt8) (h : s.length ≤ 65536) : PureCall Tryz.prog 133 [.str s] [] ⟨.os 1000000000, [], [.row 0 9 1 (wordsB isBl s).length (fl eStr (wordsB isBl s))]⟩ := by
  refine pure_call mix Tryz.func133 fits133 rfl ?_
  conv => whnf
  refine ⟨_, fun _ => call149 s h, ?_⟩
  conv => whnf
  refine ⟨?_, [64], ?_⟩
  · exact g0
  conv => whnf
  refine ⟨rfl, ?_, trivial, ?_⟩ <;> exact ent
def cntd : List (List UInt8) → Bool
  | [] => false
  | x :: _ => !(x.getD 0 0 == 35)
def linL : Int → List (List (List UInt8)) → List (Int × List (List UInt8))
  | _, [] => []
  | i, w :: r => if cntd w = true then (i + 1, w) :: linL (i + 1) r else linL (i + 1) r
def eLn (x : Int × List (List UInt8)) : List PV := [.int .i64 x.1, .sl 0 1 x.2.length (fl eStr x.2)]
def linesW (s : List UInt8) : List (List (List UInt8)) := (splitC 10 s).map (wordsB isBl)
theorem linesW_getD {s : List UInt8} {i : Nat} (h : i < (splitC 10 s).length) : (linesW s).getD i default = wordsB isBl ((splitC 10 s).getD i default) := by
  simp [linesW, List.getD, h]
theorem linesW_len (s : List UInt8) : (linesW s).length = (splitC 10 s).length := by simp [linesW]
theorem linL_drop {W : List (List (List UInt8))} {i : Nat} (h : i < W.length) : linL (i : Int) (W.drop i) = if cntd (W.getD i default) = true then ((i : Int) + 1, W.getD i default) :: linL ((i : Int) + 1) (W.drop (i + 1)) else linL ((i : Int) + 1) (W.drop (i + 1)) := by
  rw [List.drop_eq_getElem_cons h]
  have : W.getD i default = W[i] := by simp [List.getD, h]
  rw [this]; rfl
set_option maxRecDepth 100000 in
set_option maxHeartbeats 8000000 in
theorem call68 (s : List UInt8) (hs : s.length ≤ 65536) : PureCall Tryz.prog 68 [.str s] [] ⟨.os 1000000000, [], [.row 0 183 2 (linL 0 (linesW s)).length (fl eLn (linL 0 (linesW s)))]⟩ := by
  obtain ⟨L, hL⟩ : ∃ L, L = splitC 10 s := ⟨_, rfl⟩
  obtain ⟨W, hW⟩ : ∃ W, W = linesW s := ⟨_, rfl⟩
  have hWl : W.length = L.length := by rw [hW, hL, linesW_len]
  have hLl : L.length ≤ 65537 := by have := (splitC_len 10 s).1; rw [← hL] at this; omega
  have hWg : ∀ i, i < L.length → W.getD i default = wordsB isBl (L.getD i default) := fun i hi => by
    rw [hW, linesW_getD (by rw [← hL]; exact hi), hL]
  have hLm : ∀ i, i < L.length → (L.getD i default).length ≤ 65536 := fun i hi => by
    have := (splitC_len 10 s).2 (L.getD i default) (by rw [← hL]; exact getD_mem hi); omega
  refine pure_call mix Tryz.func68 fits68 rfl ?_
  conv => whnf
  refine ⟨_, fun _ => call132 s 10 (by omega), ?_⟩
  rw [← hL, ← hW]
  conv => whnf
  refine ⟨?_, ?_⟩
  · exact g0
  refine LSem.adopt 3 1000000 183 2 2 rfl rfl ?_
  refine LSem.loop (n := 36) mix (α := Nat × List (Int × List (List UInt8))) (fun x => x.1 ≤ L.length ∧ x.2.length ≤ x.1 ∧ x.2 ++ linL (x.1 : Int) (W.drop x.1) = linL 0 W)
    (fun x => [(3, .os 1000000), (8, .os 128), (9, .int .i64 L.length), (10, .int .i64 x.1)])
    (fun x => [(1000000, .row 0 183 2 x.2.length (fl eLn x.2)), (128, .row 0 9 1 L.length (fl eStr L))]) (fun x => L.length - x.1) (0, []) ?_ ?_ ?_
  · exact ⟨Nat.zero_le _, Nat.le_refl _, rfl⟩
  · refine ⟨rfl, rfl, ?_, ?_⟩ <;> exact ent
  · rintro ⟨i, out⟩ ⟨hi, ho, hp⟩
    dsimp only at hi ho hp
    have hj : ((i : Int)).toNat = i := by omega
    conv => whnf
    refine ⟨trivial, fun hc => ?_, fun hc => ?_⟩
    · replace hc := of_decide_eq_true hc
      have hlt : i < L.length := by
        have h : (i : Int) < L.length := hc
        omega
      rw [linL_drop (by omega)] at hp
      have hWi := hWg i hlt
      have hok := words_ok isBl (L.getD i default)
      conv => whnf
      dsimp only
      rw [hj]
      refine ⟨_, fun _ => call133 (L.getD i default) (hLm i hlt), ?_⟩
      rw [← hWi] at hok ⊢
      generalize W.getD i default = w at hp hok ⊢
      cases w with
      | nil =>
        rw [if_neg (by decide)] at hp
        conv => whnf
        refine ⟨?_, fun h => (by cases h), fun _ => ?_⟩
        · exact g0
        conv => whnf
        refine ⟨?_, (i + 1, out), ⟨hlt, by dsimp only; omega, hp⟩, ?_, rfl, rfl, ?_, ?_⟩
        · exact g0
        · dsimp only; omega
        · exact ent
        · exact ent
      | cons x r =>
        have hx := (hok x (List.mem_cons_self ..)).1
        have hxl : 0 < x.length := List.length_pos_iff.2 hx
        have hcn : cntd (x :: r) = !(x.getD 0 0 == 35) := rfl
        have h35 : (((x.getD 0 0).toNat : Int) != 35) = !(x.getD 0 0 == 35) := by
          rw [Bool.eq_iff_iff]
          simp only [bne_iff_ne, ne_eq, Bool.not_eq_true', beq_eq_false_iff_ne]
          constructor
          · intro h e; rw [e] at h; exact h rfl
          · intro h e; exact h (UInt8.toNat_inj.1 (by show _ = 35; omega))
        rw [hcn, ← h35] at hp
        have hd : decide ((0 : Int) < (((x :: r).length : Nat) : Int)) = true := decide_eq_true (by rw [List.length_cons]; omega)
        conv => whnf
        refine ⟨?_, fun h => ?_, fun h => ?_⟩
        · exact g1
        · replace h : (((x.getD 0 0).toNat : Int) != 35) = true := by rw [hd] at h; exact h
          rw [if_pos h] at hp
          have q := fl_push eLn out ((i : Int) + 1, x :: r)
          have hol : (out ++ [((i : Int) + 1, x :: r)]).length = out.length + 1 := by simp
          conv => whnf
          refine ⟨?_, (i + 1, out ++ [((i : Int) + 1, x :: r)]), ⟨hlt, by dsimp only; rw [hol]; omega, by dsimp only; rw [List.append_assoc]; exact hp⟩, ?_, rfl, rfl, ?_, ?_⟩
          · exact g0
          · dsimp only; omega
          · exact ent
          · exact ent
        · replace h : (((x.getD 0 0).toNat : Int) != 35) = false := by rw [hd] at h; exact h
          rw [if_neg (by rw [h]; decide)] at hp
          conv => whnf
          refine ⟨?_, (i + 1, out), ⟨hlt, by dsimp only; omega, hp⟩, ?_, rfl, rfl, ?_, ?_⟩
          · exact g0
          · dsimp only; omega
          · exact ent
          · exact ent
    · replace hc := of_decide_eq_false hc
      have hk : i = L.length := by
        have h : ¬ (i : Int) < L.length := hc
        omega
      subst hk
      rw [← hWl, List.drop_length] at hp
      rw [show linL 0 W = out by rw [← hp]; exact List.append_nil out]
      conv => whnf
      refine ⟨?_, [1000000], ?_⟩
      · exact g0
      conv => whnf
      refine ⟨rfl, ?_, trivial, ?_⟩ <;> exact ent
end Pv
end Go.Proofs.YtdcgnfkkklbckaaGreatDoor
/- WORDS OF A TEXT: how many, how long. No program in sight. -/
set_option linter.unusedSimpArgs false
set_option linter.unusedVariables false
namespace Go.Proofs.YtdcgnfkkklbckaaGreatDoor
namespace Pv
theorem splitP_len (p : UInt8 → Bool) : ∀ s : List UInt8, (splitP p s).length ≤ s.length + 1 ∧ ∀ x ∈ splitP p s, x.length ≤ s.length
  | [] => by simp [splitP]
  | x :: xs => by
    obtain ⟨h1, h2⟩ := splitP_len p xs
    simp only [splitP]
    split
    · refine ⟨by simp only [List.length_cons]; omega, fun y hy => ?_⟩
      rcases List.mem_cons.1 hy with rfl | hy
      · simp
      · have := h2 y hy; simp only [List.length_cons]; omega
    · split
      · simp
      · rename_i h t he
        rw [he] at h1 h2
        refine ⟨by simp only [List.length_cons] at h1 ⊢; omega, fun y hy => ?_⟩
        rcases List.mem_cons.1 hy with rfl | hy
        · have := h2 h (List.mem_cons_self ..); simp only [List.length_cons]; omega
        · have := h2 y (List.mem_cons_of_mem _ hy); simp only [List.length_cons]; omega
theorem splitC_P (c : UInt8) : ∀ s : List UInt8, splitC c s = splitP (fun b => b == c) s
  | [] => rfl
  | x :: xs => by
    simp only [splitC, splitP, splitC_P c xs, beq_iff_eq] <;> (split <;> first | rfl | (cases splitP (fun b => b == c) xs <;> rfl))
theorem wordsB_mem {p : UInt8 → Bool} {s x : List UInt8} (h : x ∈ wordsB p s) : x.length ≤ s.length := (splitP_len p s).2 x (List.mem_filter.1 h).1
theorem wordsB_len (p : UInt8 → Bool) (s : List UInt8) : (wordsB p s).length ≤ s.length + 1 := Nat.le_trans (List.length_filter_le _ _) (splitP_len p s).1
end Pv
end Go.Proofs.YtdcgnfkkklbckaaGreatDoor
/- LAW 13, THE WALKS: a text's conditions. -/
set_option linter.unusedSimpArgs false
set_option linter.unusedVariables false
namespace Go.Proofs.YtdcgnfkkklbckaaGreatDoor
namespace Pv
def c19L1 : C := (.seq (.reg [⟨(some 23), 368, none, .bi false .lss (.t 22) (.t 21)⟩])
  (.seq (.cond (.t 23) .skip (.exit 0))
  (.seq (.block 1 (.seq (.reg [⟨(some 24), 384, none, .ia 2 (.t 20) (.t 22)⟩,
    ⟨(some 25), 400, none, .ld 2 true (.t 24)⟩,
    ⟨(some 8), 128, none, .al [(.int .i64 0), (.nil 1)]⟩,
    ⟨none, 0, none, .st 2 (.t 8) (.t 25)⟩])
  (.seq (.reg [⟨(some 27), 432, none, .fa 1 (.t 8)⟩,
    ⟨(some 28), 448, none, .ld 1 false (.t 27)⟩,
    ⟨(some 29), 464, none, .call (.c (.fn (.func 69) [] [])) [(.t 28)]⟩,
    ⟨(some 26), 416, none, .mv (.t 29)⟩,
    ⟨(some 30), 480, none, .ex (.t 26) 0⟩,
    ⟨(some 31), 496, none, .ex (.t 26) 1⟩,
    ⟨(some 9), 144, none, .al [(.int .i64 0), (.int .i64 0), (.int .i64 0), (.int .i64 0), (.int .i64 0), (.int .i64 0), (.int .i64 0)]⟩,
    ⟨none, 0, none, .st 7 (.t 9) (.t 30)⟩,
    ⟨(some 10), 160, none, .mv (.t 31)⟩])
  (.seq (.seq (.reg [⟨(some 32), 512, none, .mv (.t 10)⟩,
    ⟨(some 33), 528, none, .un false .not (.t 32)⟩])
  (.cond (.t 33) (.seq (.drw [⟨(some 34), 544, none, .fa 0 (.t 8)⟩,
    ⟨(some 35), 560, none, .ld 1 false (.t 34)⟩,
    ⟨(some 2), 32, none, .mv (.c (.nil 7))⟩,
    ⟨(some 3), 48, none, .mv (.t 35)⟩,
    ⟨(some 4), 64, none, .mv (.c (.int .i64 7))⟩]
    [(0, 2, 34), (1, 2, 35)])
  .ret) .skip))
  (.seq (.seq (.reg [⟨(some 36), 576, none, .ld 7 true (.t 9)⟩,
    ⟨(some 37), 592, none, .call (.c (.fn (.func 70) [] [])) [(.t 36)]⟩,
    ⟨(some 11), 176, none, .mv (.t 37)⟩])
  (.seq (.reg [⟨(some 38), 608, none, .mv (.t 11)⟩,
    ⟨(some 39), 624, none, .bi false .neq (.t 38) (.c (.int .i64 0))⟩])
  (.cond (.t 39) (.seq (.drw [⟨(some 40), 640, none, .fa 0 (.t 8)⟩,
    ⟨(some 41), 656, none, .ld 1 false (.t 40)⟩,
    ⟨(some 42), 672, none, .mv (.t 11)⟩,
    ⟨(some 2), 32, none, .mv (.c (.nil 7))⟩,
    ⟨(some 3), 48, none, .mv (.t 41)⟩,
    ⟨(some 4), 64, none, .mv (.t 42)⟩]
    [(0, 2, 40), (0, 3, 40), (1, 2, 41), (1, 3, 41), (2, 3, 42), (2, 4, 42)])
  .ret) .skip)))
  (.reg [⟨(some 43), 688, none, .mv (.t 6)⟩,
    ⟨(some 44), 704, none, .ld 7 true (.t 9)⟩,
    ⟨(some 45), 720, none, .bs 89 7 [(.t 44)]⟩,
    ⟨(some 46), 736, none, .app 89 7 56 (.t 43) (.t 45)⟩,
    ⟨(some 6), 96, none, .mv (.t 46)⟩]))))))
  (.reg [⟨(some 47), 752, none, .bi false .add (.t 22) (.c (.int .i64 1))⟩,
    ⟨(some 22), 352, none, .mv (.t 47)⟩]))))
def c19 : C := (.seq (.reg [⟨(some 2), 32, none, .mv (.c (.nil 7))⟩,
    ⟨(some 3), 48, none, .mv (.c (.int .i64 0))⟩,
    ⟨(some 4), 64, none, .mv (.c (.int .i64 0))⟩])
  (.seq (.seq (.reg [⟨(some 12), 192, none, .mv (.t 0)⟩,
    ⟨(some 13), 208, none, .lens (.t 12)⟩,
    ⟨(some 14), 224, none, .bi false .gtr (.t 13) (.c (.int .i64 65536))⟩])
  (.cond (.t 14) (.seq (.reg [⟨(some 2), 32, none, .mv (.c (.nil 7))⟩,
    ⟨(some 3), 48, none, .mv (.c (.int .i64 0))⟩,
    ⟨(some 4), 64, none, .mv (.c (.int .i64 10))⟩])
  .ret) .skip))
  (.seq (.reg [⟨(some 15), 240, none, .mv (.t 0)⟩,
    ⟨(some 16), 256, none, .call (.c (.fn (.func 68) [] [])) [(.t 15)]⟩,
    ⟨(some 5), 80, none, .mv (.t 16)⟩])
  (.seq (.seq (.reg [⟨(some 17), 272, none, .mv (.t 5)⟩,
    ⟨(some 18), 288, none, .len (.t 17)⟩,
    ⟨(some 19), 304, none, .bi false .gtr (.t 18) (.c (.int .i64 200))⟩])
  (.cond (.t 19) (.seq (.reg [⟨(some 2), 32, none, .mv (.c (.nil 7))⟩,
    ⟨(some 3), 48, none, .mv (.c (.int .i64 0))⟩,
    ⟨(some 4), 64, none, .mv (.c (.int .i64 10))⟩])
  .ret) .skip))
  (.seq (.reg [⟨(some 6), 96, none, .mv (.c (.nil 7))⟩])
  (.seq (.seq (.reg [⟨(some 20), 320, none, .mv (.t 5)⟩,
    ⟨(some 21), 336, none, .len (.t 20)⟩,
    ⟨(some 22), 352, none, .mv (.c (.int .i64 0))⟩])
  (.block 0 (.loop c19L1)))
  (.seq (.reg [⟨(some 48), 768, none, .mv (.t 6)⟩,
    ⟨(some 2), 32, none, .mv (.t 48)⟩,
    ⟨(some 3), 48, none, .mv (.c (.int .i64 0))⟩,
    ⟨(some 4), 64, none, .mv (.c (.int .i64 0))⟩])
  .ret)))))))
theorem fits19 : fits Tryz.prog false Tryz.f19 1 49 [(2, none), (3, none), (4, none)] = some c19.er := by kernel_rfl
theorem linL_mem : ∀ {W : List (List (List UInt8))} {i : Int} {x : Int × List (List UInt8)}, x ∈ linL i W → x.2 ∈ W
  | [], i, x, h => by simp [linL] at h
  | w :: r, i, x, h => by
    unfold linL at h
    split at h
    · rcases List.mem_cons.1 h with rfl | h
      · simp
      · exact List.mem_cons_of_mem _ (linL_mem h)
    · exact List.mem_cons_of_mem _ (linL_mem h)
theorem linL_len : ∀ (W : List (List (List UInt8))) (i : Int), (linL i W).length ≤ W.length
  | [], i => Nat.le_refl _
  | w :: r, i => by
    have ih := linL_len r (i + 1)
    unfold linL
    split <;> simp only [List.length_cons] <;> omega
theorem linesW_lens {s : List UInt8} (hs : s.length ≤ 65536) : ∀ w ∈ linesW s, wLens w := fun w hw => by
  obtain ⟨y, hy, rfl⟩ := List.mem_map.1 hw
  have h1 := (splitC_len 10 s).2 y hy
  have h2 := wordsB_len isBl y
  exact ⟨by omega, fun x hx => by have := wordsB_mem hx; omega⟩
def parG : List (Int × List (List UInt8)) → List Cd → List Cd × Int × Int
  | [], out => (out, 0, 0)
  | x :: r, out => if (condG x.2).2 = false then ([], x.1, 7) else if oneC (condG x.2).1 ≠ 0 then ([], x.1, oneC (condG x.2).1) else parG r (out ++ [(condG x.2).1])
def parseG (s : List UInt8) : List Cd × Int × Int := if 65536 < s.length then ([], 0, 10) else if 200 < (linL 0 (linesW s)).length then ([], 0, 10) else parG (linL 0 (linesW s)) []
theorem parG_drop {l : List (Int × List (List UInt8))} {i : Nat} (out : List Cd) (h : i < l.length) : parG (l.drop i) out = if (condG (l.getD i default).2).2 = false then ([], (l.getD i default).1, 7) else
    if oneC (condG (l.getD i default).2).1 ≠ 0 then ([], (l.getD i default).1, oneC (condG (l.getD i default).2).1) else parG (l.drop (i + 1)) (out ++ [(condG (l.getD i default).2).1]) := by
  rw [List.drop_eq_getElem_cons h]
  have : l.getD i default = l[i] := by simp [List.getD, h]
  rw [this]; rfl
set_option maxRecDepth 100000 in
set_option maxHeartbeats 8000000 in
theorem call19 (s : List UInt8) (hs : s.length ≤ 4611686018427387904) : PureCall Tryz.prog 19 [.str s] [] ⟨.tup [.sl 0 7 (parseG s).1.length (fl eCd (parseG s).1), .int .i64 (parseG s).2.1, .int .i64 (parseG s).2.2], [], []⟩ := by
  refine pure_call mix Tryz.func19 fits19 rfl ?_
  conv => whnf
  refine ⟨?_, fun hc => ?_, fun hc => ?_⟩
  · exact g0
  · simp only [bp] at hc
    rw [show parseG s = ([], 0, 10) by unfold parseG; rw [if_pos (by omega)]]
    conv => whnf
    exact ret
  simp only [bp] at hc
  have hs2 : s.length ≤ 65536 := by omega
  have hlen := linL_len (linesW s) 0
  rw [linesW_len] at hlen
  have hll2 := (splitC_len 10 s).1
  have hmem : ∀ i, i < (linL 0 (linesW s)).length → wLens ((linL 0 (linesW s)).getD i default).2 := fun i hi => linesW_lens hs2 _ (linL_mem (getD_mem hi))
  conv => whnf
  refine ⟨_, fun _ => call68 s hs2, ?_⟩
  conv => whnf
  refine ⟨?_, fun hc2 => ?_, fun hc2 => ?_⟩
  · exact g0
  · simp only [bp] at hc2
    rw [show parseG s = ([], 0, 10) by unfold parseG; rw [if_neg (by omega), if_pos (by omega)]]
    conv => whnf
    exact ret
  simp only [bp] at hc2
  rw [show parseG s = parG (linL 0 (linesW s)) [] by unfold parseG; rw [if_neg (by omega), if_neg (by omega)]]
  generalize linL 0 (linesW s) = l at hlen hmem hc2 ⊢
  conv => whnf
  refine ⟨trivial, ?_⟩
  refine LSem.adopt 6 1000000 89 7 7 rfl rfl ?_
  refine LSem.loop (n := 49) mix (α := Nat × List Cd) (fun x => x.1 ≤ l.length ∧ x.2.length ≤ x.1 ∧ parG (l.drop x.1) x.2 = parG l [])
    (fun x => [(6, .os 1000000), (20, .os 256), (21, .int .i64 l.length), (22, .int .i64 x.1)])
    (fun x => [(1000000, .row 0 89 7 x.2.length (fl eCd x.2)), (256, .row 0 183 2 l.length (fl eLn l))]) (fun x => l.length - x.1) (0, []) ?_ ?_ ?_
  · exact ⟨Nat.zero_le _, Nat.le_refl _, rfl⟩
  · refine ⟨rfl, rfl, ?_, ?_⟩ <;> exact ent
  · rintro ⟨i, out⟩ ⟨hi, ho, hp⟩
    dsimp only at hi ho hp
    have hj : ((i : Int)).toNat = i := by omega
    conv => whnf
    refine ⟨trivial, fun hc3 => ?_, fun hc3 => ?_⟩
    · replace hc3 := of_decide_eq_true hc3
      have hlt : i < l.length := by
        have h : (i : Int) < l.length := hc3
        omega
      have hw := hmem i hlt
      rw [parG_drop out hlt] at hp
      conv => whnf
      dsimp only
      rw [hj]
      refine ⟨_, fun _ => call69 (l.getD i default).2 hw, ?_⟩
      generalize condG (l.getD i default).2 = R at hp ⊢
      generalize (l.getD i default).1 = nu at hp ⊢
      conv => whnf
      refine ⟨?_, fun h1 => ?_, fun h1 => ?_⟩
      · exact g0
      · simp only [bp] at h1
        rw [if_pos h1] at hp
        rw [← hp]
        conv => whnf
        refine ⟨rfl, ?_⟩
        conv => whnf
        exact ret
      simp only [bp] at h1
      rw [if_neg (by rw [h1]; decide)] at hp
      conv => whnf
      refine ⟨_, fun _ => call70 R.1, ?_⟩
      conv => whnf
      refine ⟨?_, fun h2 => ?_, fun h2 => ?_⟩
      · exact g0
      · simp only [bp] at h2
        rw [if_pos h2] at hp
        rw [← hp]
        conv => whnf
        refine ⟨rfl, ?_⟩
        conv => whnf
        exact ret
      · simp only [bp] at h2
        rw [if_neg (by omega)] at hp
        have q := fl_push eCd out R.1
        conv => whnf
        refine ⟨?_, (i + 1, out ++ [R.1]), ⟨hlt, by dsimp only; rw [List.length_append]; simp only [List.length_cons, List.length_nil]; omega, hp⟩, ?_, rfl, rfl, ?_, ?_⟩
        · exact g0
        · dsimp only; omega
        · exact ent
        · exact ent
    · replace hc3 := of_decide_eq_false hc3
      have hk : i = l.length := by
        have h : ¬ (i : Int) < l.length := hc3
        omega
      subst hk
      rw [List.drop_length] at hp
      have hp2 : (out, (0 : Int), (0 : Int)) = parG l [] := hp
      rw [← hp2]
      conv => whnf
      exact ret
end Pv
end Go.Proofs.YtdcgnfkkklbckaaGreatDoor
/- RUNS: what has to be shown of an instruction, reckoned; then it holds. -/
set_option linter.unusedSimpArgs false
set_option linter.unusedVariables false
namespace Go.Proofs.YtdcgnfkkklbckaaGreatDoor
namespace Pv
def inRB (k : IntKind) (n : Int) : Bool := decide (k.min ≤ n) && decide (n ≤ k.max)
theorem inRB_ok {k : IntKind} {n : Int} (h : inRB k n = true) : inR k n := by
  unfold inRB at h; simp only [Bool.and_eq_true, decide_eq_true_eq] at h; exact h
def biB (w : Bool) (op : BinOp) (k : IntKind) (a b : Int) : Bool := match op with
  | .add => w || inRB k (a + b)
  | .sub => w || inRB k (a - b)
  | .mul => w || inRB k (a * b)
  | .quo => !(b == 0) && (w || inRB k (a.tdiv b))
  | .rem => !(b == 0)
  | .shr => b == 1
  | .or | .xor | .and => (decide (0 ≤ a) && decide (a ≤ k.max)) && (decide (0 ≤ b) && decide (b ≤ k.max))
  | _ => true
def shfB (w : Bool) (op : BinOp) (k : IntKind) (a b : Int) : Bool := match op with
  | .shr => decide (0 ≤ b) && decide (b.toNat ≤ k.bits)
  | .shl => (decide (0 ≤ b) && decide (b.toNat ≤ k.bits)) && (w || inRB k (a * 2 ^ b.toNat))
  | _ => true
def biVB (w : Bool) (op : BinOp) : PV → PV → Bool
  | .int k a, .int k' b => if k = k' then biB w op k a b else shfB w op k a b
  | .str a, .str b => match op with
    | .add => decide (a.length + b.length ≤ 9223372036854775807)
    | _ => true
  | _, _ => true
def pickB : Bool → PV → PV → Bool
  | _, .bool _, .bool _ => true
  | c, .bool _, .cnd g (.bool _) => c || g
  | c, .cnd g (.bool _), .bool _ => !c || g
  | c, .bool _, .cnd _ .junk => c
  | c, .cnd _ .junk, .bool _ => !c
  | c, .cnd g (.bool _), .cnd g' (.bool _) => (!c || g) && (c || g')
  | _, _, _ => true
def idxB (i : Int) (n : Nat) : Bool := decide (0 ≤ i) && decide (i.toNat < n)
def slcB (lo hi : Bool) (vs : List PV) (cs : List SE) : Bool := match lo, hi, vs, cs with
  | true, false, [.sl _ _ m _, .int _ l], _ => decide (0 ≤ l) && decide (l.toNat ≤ m)
  | true, false, [.os _, .int _ l], [.row _ _ _ m _] => decide (0 ≤ l) && decide (l.toNat ≤ m)
  | false, true, [.sl _ _ m _, .int _ h], _ => decide (0 ≤ h) && decide (h.toNat ≤ m)
  | false, true, [.os _, .int _ h], [.row _ _ _ m _] => decide (0 ≤ h) && decide (h.toNat ≤ m)
  | true, true, [.sl _ _ m _, .int _ l, .int _ h], _ => (decide (0 ≤ l) && decide (l.toNat ≤ h.toNat)) && (decide (0 ≤ h) && decide (h.toNat ≤ m))
  | _, _, _, _ => true
def slcsB (lo hi : Bool) (vs : List PV) : Bool := match lo, hi, vs with
  | true, false, [.str s, .int _ l] => decide (0 ≤ l) && decide (l.toNat ≤ s.length)
  | false, true, [.str s, .int _ h] => decide (0 ≤ h) && decide (h.toNat ≤ s.length)
  | true, true, [.str s, .int _ l, .int _ h] => (decide (0 ≤ l) && decide (l.toNat ≤ h.toNat)) && (decide (0 ≤ h) && decide (h.toNat ≤ s.length))
  | _, _, _ => true
def appB (bytes : Nat) (vs : List PV) (cs : List SE) : Bool := match vs, cs with
  | [.vw true _ _ h, y], .row .. :: cs => match srcRows y cs with
    | some (_, _, m', _) => decide ((h + m') * bytes ≤ 140737488355328) && decide (h + m' ≤ maxLen)
    | none => true
  | [.os _, y], .row _ _ _ m _ :: cs => match srcRows y cs with
    | some (_, _, m', _) => decide ((m + m') * bytes ≤ 140737488355328) && decide (m + m' ≤ maxLen)
    | none => true
  | [.nil _, y], cs => match srcRows y cs with
    | some (_, _, m', _) => decide (m' * bytes ≤ 140737488355328) && decide (m' ≤ maxLen)
    | none => true
  | _, _ => true
def effB (i : I) (vs : List PV) (cs : List SE) : Bool := match i with
  | .bi w op _ _ => match vs with
    | [a, b] => biVB w op a b
    | _ => true
  | .pick _ _ _ => match vs with
    | [.bool c, a, b] => pickB c a b
    | _ => true
  | .ld _ _ _ => match vs, cs with
    | [.pt _ i _], [.row _ _ _ m _] => decide (i < m)
    | _, _ => true
  | .st _ _ _ => match vs, cs with
    | [.pt _ i _, _], [.row _ _ _ m _] => decide (i < m)
    | _, _ => true
  | .isn _ _ => match vs, cs with
    | [.sl _ _ n _], _ => decide (0 < n)
    | [.os _], [.row _ _ _ n _] => decide (0 < n)
    | _, _ => true
  | .un w .neg _ => match vs with
    | [.int k n] => biB w .sub k 0 n
    | _ => true
  | .cv w k _ => match vs with
    | [.int _ n] => w || inRB k n
    | _ => true
  | .ia _ _ _ => match vs, cs with
    | [.sl _ _ m _, .int _ i], _ => idxB i m
    | [.os _, .int _ i], [.row _ _ _ m _] => idxB i m
    | [.vw _ _ _ n, .int _ i], [.row ..] => idxB i n
    | [.rf (some (_, n)) _, .int _ i], _ => idxB i n
    | _, _ => true
  | .iaa len _ _ _ => match vs with
    | [_, .int _ i] => idxB i len
    | _ => true
  | .ixa len _ _ _ _ => match vs with
    | [_, .int _ i] => idxB i len
    | _ => true
  | .ixs _ _ => match vs with
    | [.str s, .int _ i] => idxB i s.length
    | _ => true
  | .app _ _ bytes _ _ => appB bytes vs cs
  | .slc _ _ lo hi => slcB lo.isSome hi.isSome vs cs
  | .slcs _ lo hi => slcsB lo.isSome hi.isSome vs
  | .mks _ _ bytes _ _ _ => match vs with
    | [.int _ n, .int _ c] => (decide (0 ≤ n) && decide (n ≤ c)) && (decide (c * (bytes : Int) ≤ 140737488355328) && decide (c ≤ (maxLen : Int)))
    | _ => true
  | .cvb _ _ => match vs with
    | [.str s] => decide (s.length ≤ maxLen)
    | _ => true
  | .cvs _ => false
  | .clr _ _ => match vs, cs with
    | [.vw _ _ lo n], [.row _ _ _ m _] => decide (lo + n ≤ m)
    | _, _ => true
  | _ => true
theorem biB_ok {w : Bool} {op : BinOp} {k : IntKind} {a b : Int} {E : Eff} (h : biI w op k a b = some E) (hb : biB w op k a b = true) : allP E.side := by
  unfold biI at h
  unfold biB at hb
  cases op <;> simp only at h hb <;> cases w <;> simp only [Bool.false_eq_true, if_false, if_true, Option.some.injEq, reduceCtorEq, Bool.true_or, Bool.false_or] at h hb <;> (try subst h) <;>
    simp_all [Eff.pure, Eff.side', allP, Bool.and_eq_true, inRB_ok]
theorem shfB_ok {w : Bool} {op : BinOp} {k : IntKind} {a b : Int} {E : Eff} (h : shfI w op k a b = some E) (hb : shfB w op k a b = true) : allP E.side := by
  unfold shfI at h
  unfold shfB at hb
  cases op <;> simp only at h hb <;> cases w <;> simp only [Bool.false_eq_true, if_false, if_true, Option.some.injEq, reduceCtorEq, Bool.true_or, Bool.false_or] at h hb <;> (try subst h) <;>
    simp_all [Eff.pure, Eff.side', allP, Bool.and_eq_true, inRB_ok]
theorem biVB_ok {w : Bool} {op : BinOp} {a b : PV} {E : Eff} (h : biV w op a b = some E) (hb : biVB w op a b = true) : allP E.side := by
  unfold biV at h
  unfold biVB at hb
  split at h
  · simp only at hb
    split at h
    · rename_i hk; rw [if_pos hk] at hb; exact biB_ok h hb
    · rename_i hk; rw [if_neg hk] at hb; exact shfB_ok h hb
  · simp only at hb
    cases op <;> simp only [Option.some.injEq, reduceCtorEq] at h hb <;> (try subst h) <;> simp_all [Eff.pure, Eff.side', allP]
  · cases h
theorem pickB_ok {c : Bool} {a b : PV} {E : Eff} (h : pickV c a b = some E) (hb : pickB c a b = true) : allP E.side := by
  unfold pickV at h
  split at h <;> (try simp only [Option.some.injEq, reduceCtorEq] at h) <;> (try subst h) <;> simp only [pickB, Bool.and_eq_true, Bool.or_eq_true, Bool.not_eq_true'] at hb <;>
    simp only [Eff.pure, Eff.side', allP, and_true]
  · intro hc; rcases hb with hb | hb
    · rw [hc] at hb; cases hb
    · exact hb
  · intro hc; rcases hb with hb | hb
    · rw [hc] at hb; cases hb
    · exact hb
  · exact hb
  · exact hb
  · refine ⟨fun hc => ?_, fun hc => ?_⟩
    · rcases hb.1 with h | h
      · rw [hc] at h; cases h
      · exact h
    · rcases hb.2 with h | h
      · rw [hc] at h; cases h
      · exact h
theorem idxB_ok {i : Int} {n : Nat} (h : idxB i n = true) : 0 ≤ i ∧ i.toNat < n := by
  unfold idxB at h; simpa using h
theorem ld_ok {n : Nat} {agg : Bool} {x : A} {vs : List PV} {cs : List SE} {E : Eff} (h : eLd n agg vs cs = some E) (hb : effB (.ld n agg x) vs cs = true) : allP E.side := by
  unfold eLd at h
  repeat' split at h
  all_goals first
    | (cases h; done)
    | (injection h with h; subst h; simp_all [effB, Eff.pure, Eff.side', allP])
theorem st_ok {n : Nat} {x v : A} {vs : List PV} {cs : List SE} {E : Eff} (h : eSt n vs cs = some E) (hb : effB (.st n x v) vs cs = true) : allP E.side := by
  unfold eSt at h
  repeat' split at h
  all_goals first
    | (cases h; done)
    | (injection h with h; subst h; simp_all [effB, Eff.pure, Eff.side', allP])
theorem clr_ok {zs : List PV} {x : A} {vs : List PV} {cs : List SE} {E : Eff} (h : eClr zs vs cs = some E) (hb : effB (.clr zs x) vs cs = true) : allP E.side := by
  unfold eClr at h
  repeat' split at h
  all_goals first
    | (cases h; done)
    | (injection h with h; subst h; simp_all [effB, Eff.pure, Eff.side', allP])
theorem cpy_ok {z : Nat} {vs : List PV} {cs : List SE} {E : Eff} (h : eCpy z vs cs = some E) : allP E.side := by
  unfold eCpy at h
  repeat' split at h
  all_goals first
    | (cases h; done)
    | (injection h with h; subst h; exact trivial)
theorem isn_ok {neg : Bool} {x : A} {vs : List PV} {cs : List SE} {E : Eff} (h : eIsn neg vs cs = some E) (hb : effB (.isn neg x) vs cs = true) : allP E.side := by
  unfold eIsn at h
  repeat' split at h
  all_goals first
    | (cases h; done)
    | (injection h with h; subst h; simp_all [effB, Eff.pure, Eff.side', allP])
theorem ia_ok {z : Nat} {x y : A} {vs : List PV} {cs : List SE} {E : Eff} (h : eIa z vs cs = some E) (hb : effB (.ia z x y) vs cs = true) : allP E.side := by
  unfold eIa at h
  repeat' split at h
  all_goals first
    | (cases h; done)
    | (injection h with h; subst h; simp only [effB] at hb; simpa [Eff.side', allP] using idxB_ok hb)
theorem iaa_ok {len z : Nat} {x y : A} {vs : List PV} {cs : List SE} {E : Eff} (h : eIaa len z vs = some E) (hb : effB (.iaa len z x y) vs cs = true) : allP E.side := by
  unfold eIaa at h
  repeat' split at h
  all_goals first
    | (cases h; done)
    | (injection h with h; subst h; simp only [effB] at hb; simpa [Eff.side', allP] using idxB_ok hb)
theorem ixa_ok {len z : Nat} {agg : Bool} {x y : A} {vs : List PV} {cs : List SE} {E : Eff} (h : eIxa len z agg vs = some E) (hb : effB (.ixa len z agg x y) vs cs = true) : allP E.side := by
  unfold eIxa at h
  repeat' split at h
  all_goals first
    | (cases h; done)
    | (injection h with h; subst h; simp only [effB] at hb; simpa [Eff.side', allP] using idxB_ok hb)
theorem ixs_ok {x y : A} {vs : List PV} {cs : List SE} {E : Eff} (h : eIxs vs = some E) (hb : effB (.ixs x y) vs cs = true) : allP E.side := by
  unfold eIxs at h
  repeat' split at h
  all_goals first
    | (cases h; done)
    | (injection h with h; subst h; simp only [effB] at hb; simpa [Eff.side', allP] using idxB_ok hb)
theorem app_ok {d e z bytes : Nat} {x y : A} {vs : List PV} {cs : List SE} {E : Eff} (h : eApp d e z bytes vs cs = some E) (hb : effB (.app e z bytes x y) vs cs = true) : allP E.side := by
  unfold eApp at h
  simp only [effB, appB] at hb
  split at h <;> (try (cases h; done)) <;> (split at h <;> (try (cases h; done)) <;> (split at h <;> (try (cases h; done)) <;> (injection h with h; subst h; rename_i hs _ ; simp only [hs, Bool.and_eq_true, decide_eq_true_eq] at hb; exact ⟨hb.1, hb.2, trivial⟩)))
theorem slc_ok {z : Nat} {x : A} {lo hi : Option A} {vs : List PV} {cs : List SE} {E : Eff} (h : eSlc z lo.isSome hi.isSome vs cs = some E) (hb : effB (.slc z x lo hi) vs cs = true) : allP E.side := by
  simp only [effB] at hb
  cases hl : lo.isSome <;> cases hh : hi.isSome <;> rw [hl, hh] at h hb <;> simp only [eSlc] at h
  · unfold eSlc00 at h
    repeat' split at h
    all_goals first | (cases h; done) | (injection h with h; subst h; simp [Eff.pure, allP])
  · unfold eSlc01 at h
    repeat' split at h
    all_goals first | (cases h; done) | (injection h with h; subst h; simp only [slcB, Bool.and_eq_true, decide_eq_true_eq] at hb; simpa [Eff.side', allP] using hb)
  · unfold eSlc10 at h
    repeat' split at h
    all_goals first | (cases h; done) | (injection h with h; subst h; simp only [slcB, Bool.and_eq_true, decide_eq_true_eq] at hb; simpa [Eff.side', allP] using hb)
  · unfold eSlc11 at h
    repeat' split at h
    all_goals first | (cases h; done) | (injection h with h; subst h; simp only [slcB, Bool.and_eq_true, decide_eq_true_eq] at hb; simp only [Eff.side', allP, and_true]; exact ⟨hb.1.1, hb.1.2, hb.2.1, hb.2.2⟩)
theorem slcs_ok {x : A} {lo hi : Option A} {vs : List PV} {cs : List SE} {E : Eff} (h : eSlcs lo.isSome hi.isSome vs = some E) (hb : effB (.slcs x lo hi) vs cs = true) : allP E.side := by
  simp only [effB] at hb
  cases hl : lo.isSome <;> cases hh : hi.isSome <;> rw [hl, hh] at h hb <;> simp only [eSlcs] at h
  · unfold eSlcs00 at h
    repeat' split at h
    all_goals first | (cases h; done) | (injection h with h; subst h; simp [Eff.pure, allP])
  · unfold eSlcs01 at h
    repeat' split at h
    all_goals first | (cases h; done) | (injection h with h; subst h; simp only [slcsB, Bool.and_eq_true, decide_eq_true_eq] at hb; simpa [Eff.side', allP] using hb)
  · unfold eSlcs10 at h
    repeat' split at h
    all_goals first | (cases h; done) | (injection h with h; subst h; simp only [slcsB, Bool.and_eq_true, decide_eq_true_eq] at hb; simpa [Eff.side', allP] using hb)
  · unfold eSlcs11 at h
    repeat' split at h
    all_goals first | (cases h; done) | (injection h with h; subst h; simp only [slcsB, Bool.and_eq_true, decide_eq_true_eq] at hb; simp only [Eff.side', allP, and_true]; exact ⟨hb.1.1, hb.1.2, hb.2.1, hb.2.2⟩)
theorem mks_ok {d e z bytes : Nat} {zero : List PV} {x y : A} {vs : List PV} {cs : List SE} {E : Eff} (h : eMks d e z bytes zero vs = some E) (hb : effB (.mks e z bytes zero x y) vs cs = true) : allP E.side := by
  unfold eMks at h
  repeat' split at h
  all_goals first
    | (cases h; done)
    | (injection h with h; subst h; simp only [effB, Bool.and_eq_true, decide_eq_true_eq] at hb; simp only [allP, and_true]; exact ⟨hb.1.1, hb.1.2, hb.2.1, hb.2.2⟩)
theorem mx_pure {vs : List PV} {E : Eff} (h : eMx vs = some E) : allP E.side := by
  unfold eMx at h
  repeat' split at h
  all_goals first | (cases h; done) | (injection h with h; subst h; exact trivial)
theorem mn_pure {vs : List PV} {E : Eff} (h : eMn vs = some E) : allP E.side := by
  unfold eMn at h
  repeat' split at h
  all_goals first | (cases h; done) | (injection h with h; subst h; exact trivial)
theorem effB_ok {i : I} {c : CallRes} {d : Nat} {vs : List PV} {ids : List Nat} {cs : List SE} {E : Eff} (h : eff (fun _ _ _ _ => True) c d i vs ids cs = some E) (hb : effB i vs cs = true) : allP E.side := by
  cases i with
  | bi w op x y =>
    simp only [eff, eBi] at h
    split at h
    · exact biVB_ok h (by simpa [effB] using hb)
    · cases h
  | pick a b c' =>
    simp only [eff, ePick] at h
    split at h
    · exact pickB_ok h (by simpa [effB] using hb)
    · cases h
  | ld n agg x => exact ld_ok (x := x) h hb
  | st n x v => exact st_ok (x := x) (v := v) h hb
  | isn neg x => exact isn_ok (x := x) h hb
  | clr zs x => exact clr_ok (x := x) h hb
  | cpy z x y => exact cpy_ok h
  | un w op x =>
    simp only [eff] at h
    unfold eUn at h
    split at h
    · exact biB_ok h (by simpa [effB] using hb)
    · injection h with h; subst h; exact trivial
    · cases h
  | cv w k x =>
    simp only [eff, eCv] at h
    simp only [effB] at hb
    split at h
    · simp only [Bool.or_eq_true] at hb
      split at h
      · injection h with h; subst h; exact trivial
      · rename_i hw
        injection h with h; subst h
        exact ⟨inRB_ok (hb.resolve_left hw), trivial⟩
    · cases h
  | ia z x y => exact ia_ok (x := x) (y := y) h hb
  | iaa len z x y => exact iaa_ok (x := x) (y := y) h hb
  | ixa len z agg x y => exact ixa_ok (x := x) (y := y) h hb
  | ixs x y => exact ixs_ok (x := x) (y := y) h hb
  | app e z bytes x y => exact app_ok (x := x) (y := y) h hb
  | slc z x lo hi => exact slc_ok (x := x) h hb
  | slcs x lo hi => exact slcs_ok (x := x) h hb
  | mks e z bytes zero x y => exact mks_ok (x := x) (y := y) h hb
  | cvb e x =>
    simp only [eff, eCvb] at h
    simp only [effB] at hb
    split at h
    · injection h with h; subst h
      exact ⟨by simpa using hb, trivial⟩
    · cases h
  | cvs x => cases hb
  | mx xs => exact mx_pure h
  | mn xs => exact mn_pure h
  | call f xs =>
    simp only [eff, eCall, callV] at h
    repeat' split at h
    all_goals first
      | (cases h; done)
      | (injection h with h; subst h; exact ⟨trivial, trivial⟩)
      | (unfold givV at h
         repeat' split at h
         all_goals first
           | (cases h; done)
           | (injection h with h; subst h; exact ⟨trivial, trivial⟩))
  | _ =>
    simp only [eff, eMv, eBx, eBd, eBs, eNc, eBib, eEqa, eFa, eFd, eLen, eLens, eEx, eMkm, eMpg, eMpu, eBsx, eCvb] at h
    (repeat' split at h) <;> first | (cases h; done) | (injection h with h; subst h; simp [Eff.pure, allP]) | skip
end Pv
end Go.Proofs.YtdcgnfkkklbckaaGreatDoor
/- RUNS: a region that is run on known values. -/
set_option linter.unusedSimpArgs false
set_option linter.unusedVariables false
namespace Go.Proofs.YtdcgnfkkklbckaaGreatDoor
namespace Pv
def cndsB : List PV → Bool
  | [] => true
  | .cnd g _ :: ps => g && cndsB ps
  | _ :: ps => cndsB ps
def stripB (i : I) (vs : List PV) : Bool := match i with
  | .pick _ _ _ => match vs with
    | .cnd g _ :: _ => g
    | _ => true
  | _ => cndsB vs
theorem cndsB_ok (vs : List PV) : cndsB vs = true → allP (stripL true vs).1 := by
  induction vs with
  | nil => exact fun _ => trivial
  | cons p ps ih =>
    intro h
    cases p with
    | cnd g p => simp only [cndsB, Bool.and_eq_true] at h; exact ⟨fun _ => h.1, ih h.2⟩
    | _ => simp only [cndsB] at h; exact ih h
theorem stripB_ok {i : I} {vs : List PV} (h : stripB i vs = true) : allP (stripI i true vs).1 := by
  have hs : cndsB vs = true → allP (stripS true vs).1 := fun h => by
    unfold stripS
    split
    · trivial
    · exact cndsB_ok vs h
  cases i with
  | pick a b c =>
    cases vs with
    | nil => trivial
    | cons p ps =>
      cases p with
      | cnd g p => exact ⟨fun _ => h, trivial⟩
      | _ => trivial
  | _ => exact hs h
def stepB (o : Ins) (s : PS) : Bool := match guardV s.fr o.g with
  | some true => match valL s.fr o.i.opr with
    | some vs0 => stripB o.i vs0 && (match getL s.st (o.i.acc (stripI o.i true vs0).2) with
      | some cs => effB o.i (stripI o.i true vs0).2 cs
      | none => true)
    | none => true
  | _ => true
abbrev anyS : FuncId → List PV → List SE → CallRes → Prop := fun _ _ _ _ => True
theorem allP_app {l m : List Prop} (h : allP l) (h' : allP m) : allP (l ++ m) := (allP_append _ _).2 ⟨h, h'⟩
theorem stepI_run {lg : Bool} {c : CallRes} {i : Nat} {o : Ins} {s s' : PS} (h : stepI anyS lg c i o s = some s') (hb : stepB o s = true) (hok : s.ok) : s'.ok := by
  obtain ⟨G, vs, cs, E, H⟩ := stepI_parts h
  obtain ⟨vs0, hv0, hvs, hokk⟩ := H.vals
  have hg := H.guard
  cases G with
  | false =>
    refine hokk.2 ⟨hok, fun _ h => (by cases h), fun hn => ?_⟩
    rw [hn] at hg; simp [guardV] at hg
  | true =>
    have e2 : (stripI o.i true vs0).2 = vs := by rw [hvs]
    unfold stepB at hb
    rw [hg] at hb
    simp only [hv0, e2, H.ent, Bool.and_eq_true] at hb
    have hall := allP_app (stripB_ok hb.1) (effB_ok H.eff hb.2)
    exact hokk.2 ⟨hok, fun _ _ => hall, fun _ => hall⟩
theorem stepX_run {lg : Bool} {c : CallRes} {i : Nat} {o : Ins} {s s' : PS} (h : stepX anyS lg c i o s = some s') (hb : stepB o s = true) (hok : s.ok) : s'.ok := by
  cases lg with
  | true => exact stepI_run (lg := true) (by simpa only [stepX] using h) hb hok
  | false =>
    obtain ⟨od, oid, og, oi⟩ := o
    obtain ⟨n, fr, st, ok, log⟩ := s
    have hsame : ∀ g, og = some g → guardV fr (some g) = some true → stepB ⟨od, oid, none, oi⟩ ⟨n, fr, st, ok, log⟩ = true := fun g hg hgv => by
      subst hg
      unfold stepB at hb ⊢
      simp only [hgv] at hb
      simpa [guardV] using hb
    simp only [stepX, stepG] at h
    split at h
    · rename_i g _ _ hh
      split at h
      · rename_i hgv
        exact stepI_run h (hsame _ rfl hgv) hok
      · split at h
        · injection h with h; subst h; exact hok
        · split at h
          · injection h with h; subst h; exact hok
          · cases h
      · cases h
    · split at h
      · exact stepI_run h hb hok
      split at h
      · split at h
        · injection h with h; subst h; exact hok
        · split at h
          · injection h with h; subst h; exact hok
          · cases h
      · cases h
    · split at h
      · rename_i s'' hs''
        injection h with h; subst h
        exact stepI_run hs'' hb hok
      · split at h
        · rename_i hgv
          exact stepI_run h (hsame _ rfl hgv) hok
        · split at h
          · injection h with h; subst h; exact hok
          · split at h
            · injection h with h; subst h; exact hok
            · cases h
        · cases h
    · exact stepI_run h hb hok
def runI (R : FuncId → List PV → List SE → Option CallRes) (lg : Bool) : Nat → List Ins → PS → Option PS
  | _, [], s => some s
  | i, o :: r, s => match stepB o s with
    | false => none
    | true => match o.i.isCall && (lg || !skipJ o s) with
      | true => match callAt o s with
        | some (G, id, args, bs) => match G with
          | true => match R id args bs with
            | some c => match stepX anyS lg c i o s with
              | some s' => runI R lg (i + 1) r s'
              | none => none
            | none => none
          | false => match stepX anyS lg default i o s with
            | some s' => runI R lg (i + 1) r s'
            | none => none
        | none => none
      | false => match stepX anyS lg default i o s with
        | some s' => runI R lg (i + 1) r s'
        | none => none
theorem runI_sound {P : Program} {R : FuncId → List PV → List SE → Option CallRes} (hR : ∀ f args bs c, R f args bs = some c → PureCall P f args bs c) {lg : Bool} :
    ∀ {ins : List Ins} {i : Nat} {s s' : PS}, runI R lg i ins s = some s' → s.ok → s'.ok ∧ ∀ K : PS → Prop, K s' → evK (PureCall P) lg i ins s K
  | [], i, s, s', h, hok => by
    simp only [runI, Option.some.injEq] at h; subst h
    exact ⟨hok, fun K hK => hK⟩
  | o :: r, i, s, s', h, hok => by
    simp only [runI] at h
    split at h
    · cases h
    · rename_i hb
      split at h
      · rename_i hc
        split at h
        · rename_i G id args bs hca
          split at h
          · split at h
            · rename_i c hRc
              split at h
              · rename_i s1 h1
                obtain ⟨g1, g2⟩ := runI_sound hR h (stepX_run h1 hb hok)
                refine ⟨g1, fun K hK => ?_⟩
                simp only [evK, hc, hca]
                exact ⟨c, fun _ => hR _ _ _ _ hRc, by rw [h1]; exact g2 K hK⟩
              · cases h
            · cases h
          · split at h
            · rename_i s1 h1
              obtain ⟨g1, g2⟩ := runI_sound hR h (stepX_run h1 hb hok)
              refine ⟨g1, fun K hK => ?_⟩
              simp only [evK, hc, hca]
              exact ⟨default, fun h => (by cases h), by rw [h1]; exact g2 K hK⟩
            · cases h
        · cases h
      · rename_i hc
        split at h
        · rename_i s1 h1
          obtain ⟨g1, g2⟩ := runI_sound hR h (stepX_run h1 hb hok)
          refine ⟨g1, fun K hK => ?_⟩
          simp only [evK, hc, h1]
          exact g2 K hK
        · cases h
end Pv
end Go.Proofs.YtdcgnfkkklbckaaGreatDoor
/- RUNS: code that is run on known values; loops are run round by round. -/
set_option linter.unusedSimpArgs false
set_option linter.unusedVariables false
namespace Go.Proofs.YtdcgnfkkklbckaaGreatDoor
namespace Pv
open Go.RowKit
def PS.tr : PS → PS
  | ⟨n, fr, st, _, log⟩ => ⟨n, fr, st, True, log⟩
/-! ### which slots are still needed (a guess that nothing leans on) -/
def mAdd (t m : Nat) : Nat := Nat.lor m (Nat.shiftLeft 1 t)
def mHas (t m : Nat) : Bool := Nat.beq (Nat.land 1 (Nat.shiftRight m t)) 1
def mDel (t m : Nat) : Nat := match mHas t m with
  | true => Nat.sub m (Nat.shiftLeft 1 t)
  | false => m
def mA (a : A) (m : Nat) : Nat := match a with
  | .t n => mAdd n m
  | .c _ => m
def mAs : List A → Nat → Nat
  | [], m => m
  | a :: r, m => mA a (mAs r m)
def mI (o : Ins) (m : Nat) : Nat :=
  let m1 := mAs o.i.opr (match o.d with
    | some d => mDel d m
    | none => m)
  match o.g with
  | some (t, _) => mAdd t m1
  | none => m1
def mIs : List Ins → Nat → Nat
  | [], m => m
  | o :: r, m => mI o (mIs r m)
def mOf : List (Nat × Nat) → Nat → Nat
  | [], _ => 0
  | (k, m) :: E, i => match Nat.beq k i with
    | true => m
    | false => mOf E i
def mC (rl : Nat) : List (Nat × Nat) → C → Nat → Nat
  | _, .skip, m => m
  | _, .reg ins, m => mIs ins m
  | _, .drw ins _, m => mIs ins m
  | E, .seq a b, m => mC rl E a (mC rl E b m)
  | E, .cond c x y, m => mA c (Nat.lor (mC rl E x m) (mC rl E y m))
  | E, .block id b, m => mC rl ((id, m) :: E) b m
  | E, .loop b, _ => mC rl E b 0
  | E, .exit id, _ => mOf E id
  | E, .scope b, m => mC rl E b m
  | _, .ret, _ => rl
  | E, .cut b, m => mC rl E b m
  | _, _, m => m
/-! ### a state without what is not needed -/
def gcF (fr : Nat → Option PV) (m : Nat) : Nat → List (Nat × PV)
  | 0 => []
  | t + 1 => match mHas t m with
    | true => match fr t with
      | some p => (t, p) :: gcF fr m t
      | none => gcF fr m t
    | false => gcF fr m t
def idsFL : List (Nat × PV) → List Nat
  | [] => []
  | (_, p) :: l => p.ids ++ idsFL l
def gcS (st : Nat → Option SE) : Nat → List Nat → List (Nat × SE) → Option (List (Nat × SE))
  | _, [], acc => some acc
  | 0, _ :: _, _ => none
  | k + 1, r :: rs, acc => match keysB acc r with
    | true => gcS st k rs acc
    | false => match st r with
      | some e => gcS st k (e.ids ++ rs) ((r, e) :: acc)
      | none => none
def upTo : Nat → List Nat
  | 0 => []
  | n + 1 => n :: upTo n
def gcP (np m : Nat) (s : PS) : Option PS := match s with
  | ⟨n, fr, st, _, _⟩ => match gcF fr m n with
    | fl => match gcS st 100000 (upTo np ++ idsFL fl) [] with
      | some sl => match idsF sl fl && idsS sl sl && parB sl np with
        | true => some (St n fl sl)
        | false => none
      | none => none
mutual
theorem PLe_refl {st : Nat → Option SE} {kp : Nat → Bool} : ∀ (p : PV), (∀ r ∈ p.ids, kp r = true) → PLe st kp p p
  | .os r, h => by simp only [PLe]; exact ⟨trivial, h r (by simp [PV.ids])⟩
  | .vw _ r _ _, h => by simp only [PLe]; exact ⟨trivial, trivial, trivial, trivial, h r (by simp [PV.ids])⟩
  | .rf _ r, h => by simp only [PLe]; exact ⟨trivial, trivial, h r (by simp [PV.ids])⟩
  | .pt r _ _, h => by simp only [PLe]; exact ⟨trivial, trivial, trivial, h r (by simp [PV.ids])⟩
  | .agg cs, h => by simp only [PLe]; exact PLe_reflL cs h
  | .tup cs, h => by simp only [PLe]; exact PLe_reflL cs h
  | .fn f a b, h => by simp only [PLe]; exact ⟨trivial, PLe_reflL a (fun r hr => h r (by simp [PV.ids, hr])), PLe_reflL b (fun r hr => h r (by simp [PV.ids, hr]))⟩
  | .cnd g p, h => by simp only [PLe]; exact ⟨trivial, PLe_refl p h⟩
  | .mpv .., _ => by simp only [PLe]; exact ⟨trivial, trivial, trivial, trivial, fun _ _ => ⟨rfl, rfl⟩⟩
  | .int .., _ => by simp only [PLe]; exact ⟨trivial, trivial⟩
  | .bool _, _ => by simp only [PLe]
  | .str _, _ => by simp only [PLe]
  | .sl .., _ => by simp only [PLe]; exact ⟨Nat.le_refl _, trivial, trivial, fun _ _ => rfl⟩
  | .nil _, _ => by simp only [PLe]
  | .rp .., _ => by simp only [PLe]; exact ⟨Nat.le_refl _, trivial⟩
  | .raw _, _ => by simp only [PLe]
  | .junk, _ => by simp only [PLe]
theorem PLe_reflL {st : Nat → Option SE} {kp : Nat → Bool} : ∀ (l : List PV), (∀ r ∈ PV.idsL l, kp r = true) → PLeL st kp l l
  | [], _ => by simp only [PLeL]
  | p :: ps, h => by simp only [PLeL]; exact ⟨PLe_refl p (fun r hr => h r (by simp [PV.idsL, hr])), PLe_reflL ps (fun r hr => h r (by simp [PV.idsL, hr]))⟩
end
theorem SLe_refl {st : Nat → Option SE} {kp : Nat → Bool} (e : SE) (h : ∀ r ∈ e.ids, kp r = true) : SLe st kp e e := by
  cases e with
  | box l => exact PLe_reflL l h
  | row τ e z n f => exact ⟨Nat.le_refl _, rfl, rfl, rfl, fun _ _ => rfl, rfl⟩
  | bld T e s => exact ⟨rfl, rfl, rfl⟩
theorem gcF_mem {fr : Nat → Option PV} {m : Nat} : ∀ {n : Nat} {x : Nat × PV}, x ∈ gcF fr m n → fr x.1 = some x.2
  | 0, x, h => by simp [gcF] at h
  | n + 1, x, h => by
    simp only [gcF] at h
    split at h
    · split at h
      · rename_i p hp
        rcases List.mem_cons.1 h with rfl | h
        · exact hp
        · exact gcF_mem h
      · exact gcF_mem h
    · exact gcF_mem h
theorem gcS_mem {st : Nat → Option SE} : ∀ {k : Nat} {todo : List Nat} {acc sl : List (Nat × SE)}, gcS st k todo acc = some sl → (∀ x ∈ acc, st x.1 = some x.2) → ∀ x ∈ sl, st x.1 = some x.2
  | k, [], acc, sl, h, ha => by
    have : acc = sl := by cases k <;> simpa [gcS] using h
    subst this; exact ha
  | 0, _ :: _, acc, sl, h, ha => by simp [gcS] at h
  | k + 1, r :: rs, acc, sl, h, ha => by
    simp only [gcS] at h
    split at h
    · exact gcS_mem h ha
    · split at h
      · rename_i e he
        refine gcS_mem h fun x hx => ?_
        rcases List.mem_cons.1 hx with rfl | hx
        · exact he
        · exact ha x hx
      · cases h
theorem keys_kp {sl : List (Nat × SE)} {r : Nat} (h : ∃ e, stL sl r = some e) : keysB sl r = true := keysB_some.2 h
theorem leF_of {fr : Nat → Option PV} {st : Nat → Option SE} {kp : Nat → Bool} : ∀ {l : List (Nat × PV)}, (∀ x ∈ l, fr x.1 = some x.2 ∧ ∀ r ∈ x.2.ids, kp r = true) → leF fr st kp l
  | [], _ => trivial
  | (t, p) :: l, h => by
    have h1 := h (t, p) (by simp)
    refine ⟨?_, leF_of fun x hx => h x (by simp [hx])⟩
    rw [h1.1]; exact PLe_refl p h1.2
theorem leS_of {st : Nat → Option SE} {kp : Nat → Bool} : ∀ {l : List (Nat × SE)}, (∀ x ∈ l, st x.1 = some x.2 ∧ ∀ r ∈ x.2.ids, kp r = true) → leS st kp l
  | [], _ => trivial
  | (t, p) :: l, h => by
    have h1 := h (t, p) (by simp)
    refine ⟨?_, leS_of fun x hx => h x (by simp [hx])⟩
    rw [h1.1]; exact SLe_refl p h1.2
theorem gcP_ok {np m : Nat} {s s' : PS} (h : gcP np m s = some s') : s' = St s'.n (gcF s.fr m s.n) (match gcS s.st 100000 (upTo np ++ idsFL (gcF s.fr m s.n)) [] with | some sl => sl | none => []) ∧
    Ent np s s'.n (gcF s.fr m s.n) (match gcS s.st 100000 (upTo np ++ idsFL (gcF s.fr m s.n)) [] with | some sl => sl | none => []) := by
  obtain ⟨n, fr, st, ok, log⟩ := s
  simp only [gcP] at h
  split at h
  · rename_i sl hsl
    split at h
    · rename_i hb
      injection h with h; subst h
      simp only [hsl]
      have hb' := hb
      simp only [Bool.and_eq_true] at hb'
      refine ⟨rfl, rfl, hb, leF_of fun x hx => ⟨gcF_mem hx, fun r hr => keys_kp (idsF_mem hb'.1.1 x hx r hr)⟩, leS_of fun x hx => ⟨gcS_mem hsl (fun _ h => by simp at h) x hx, fun r hr => keys_kp (idsS_mem hb'.1.2 x hx r hr)⟩⟩
    · cases h
  · cases h
def runC (R : FuncId → List PV → List SE → Option CallRes) (H : Code → PS → Option PS) (np rl : Nat) : Nat → List (Nat × Nat) → Nat → C → PS → Option (Lv × PS)
  | 0, _, _, _, _ => none
  | k + 1, E, m, c, s => match c with
    | .skip => some (.nrm, s)
    | .reg ins => match runI R false 0 ins s with
      | some s' => some (.nrm, s')
      | none => none
    | .drw ins ps => match s with
      | ⟨n, fr, st, ok, _⟩ => match runI R true 0 ins ⟨n, fr, st, ok, fun _ => none⟩ with
        | some ⟨n', fr', st', ok', log'⟩ => match apartOk log' ps with
          | true => some (.nrm, ⟨n', fr', st', ok', fun _ => none⟩)
          | false => none
        | none => none
    | .seq a b => match runC R H np rl k E (mC rl E b m) a s.tr with
      | some (.nrm, s1) => runC R H np rl k E m b s1.tr
      | some (.ex i, s1) => some (.ex i, s1)
      | some (.ret, s1) => some (.ret, s1)
      | none => none
    | .cond c x y => match s with
      | ⟨n, fr, st, _, log⟩ => match A.val fr c with
        | some (.bool true) => runC R H np rl k E m x ⟨n, fr, st, True, log⟩
        | some (.bool false) => runC R H np rl k E m y ⟨n, fr, st, True, log⟩
        | _ => none
    | .block id b => match runC R H np rl k ((id, m) :: E) m b s.tr with
      | some (.nrm, s1) => some (.nrm, s1)
      | some (.ex i, s1) => match Nat.beq i id with
        | true => some (.nrm, s1)
        | false => some (.ex i, s1)
      | some (.ret, s1) => some (.ret, s1)
      | none => none
    | .loop b => match gcP np (mC rl E b 0) s with
      | some s0 => match runC R H np rl k E (mC rl E b 0) b s0.tr with
        | some (.nrm, s1) => runC R H np rl k E m (.loop b) s1.tr
        | some (.ex i, s1) => some (.ex i, s1)
        | some (.ret, s1) => some (.ret, s1)
        | none => none
      | none => none
    | .exit id => some (.ex id, s)
    | .ret => some (.ret, s)
    | .raw c => match H c s.tr with
      | some s' => some (.nrm, s')
      | none => none
    | .scope b => match b.labOf with
      | none => match runC R H np rl k E m b s.tr with
        | some (.nrm, s1) => some (.nrm, s1)
        | some (.ex i, s1) => match Nat.ble 1000000 i with
          | true => none
          | false => some (.ex i, s1)
        | some (.ret, s1) => some (.ret, s1)
        | none => none
      | some _ => none
    | _ => none
section
variable {P : Program} {wr : Bool} {np : Nat}
theorem LSem.mono {c : C} {Q Q' : Lv → PS → Prop} {s : PS} (h : LSem P wr np c Q s) (hm : ∀ l t, Q l t → Q' l t) : LSem P wr np c Q' s := by
  intro hQ code hc X w0 may a w γ hX hR
  refine wp_mono (h (fun l t hq => hQ l t (hm l t hq)) code hc X w0 may a w γ hX hR) ?_
  rintro e a' w' ⟨lv, s', γ', he, hq, hR'⟩
  exact ⟨lv, s', γ', he, hm _ _ hq, hR'⟩
theorem LSem.tr {c : C} {Q : Lv → PS → Prop} {s : PS} (h : LSem P wr np c Q s.tr) : LSem P wr np c Q s := by
  intro hQ code hc X w0 may a w γ hX hR
  obtain ⟨n, fr, st, ok, log⟩ := s
  exact h hQ code hc X w0 may a w γ hX ⟨hR.1, hR.2, hR.3, hR.4, hR.5, hR.6, hR.7, hR.8, hR.9, hR.10, hR.11⟩
theorem LSem.loopRun {b : C} {Q : Lv → PS → Prop} {s : PS} (I : Nat → PS → Prop) (k0 : Nat) (h0 : I k0 s) (hr : ∀ k t, I k t → LSem P wr np b (fun lv s' => match lv with
    | .nrm => s'.ok ∧ ∃ k', I k' s' ∧ k' < k
    | .ex i => Q (.ex i) s'
    | .ret => Q .ret s') t) : LSem P wr np (.loop b) Q s := by
  intro hQ code hc X w0 may a w γ hX hR
  have : ∃ p, code = .loop p ∧ comp P wr p = some b.er := by
    cases code with
    | loop p =>
      simp only [comp, C.er, Option.map_eq_some_iff, C.loop.injEq] at hc
      obtain ⟨b', hb, rfl⟩ := hc
      exact ⟨p, rfl, hb⟩
    | region id ops dr => cases dr <;> simp only [comp, C.er] at hc <;> (repeat' (split at hc)) <;> simp_all
    | _ => simp only [comp, C.er] at hc <;> (repeat' (split at hc)) <;> simp_all
  obtain ⟨p, rfl, hp⟩ := this
  refine wp_loop_by (fun k a w => ∃ t, I k t ∧ ∃ γ, Rel X w0 may a w t γ) id k0 ⟨s, h0, γ, hR⟩ ?_
  rintro k a w ⟨t, hI, γ, hR⟩
  have h1 := hr k t hI (fun lv s' hs => by
    cases lv with
    | nrm => exact hs.1
    | ex i => exact hQ _ _ hs
    | ret => exact hQ _ _ hs) p hp X w0 may a w γ hX hR
  refine wp_mono h1 ?_
  rintro e a' w' ⟨lv, s', γ', he, hq', hR'⟩
  cases e
  · cases he
    obtain ⟨_, k', hk', hlt⟩ := hq'
    exact ⟨k', ⟨s', hk', γ', hR'⟩, hlt⟩
  · obtain ⟨hb, rfl⟩ := lvOf_exit he; exact ⟨_, _, _, he, hq', hR'⟩
  · cases he; exact ⟨_, _, _, rfl, hq', hR'⟩
  · cases he; exact ⟨_, _, _, rfl, hq', hR'⟩
  · cases he
  · cases he
def Runs (P : Program) (wr : Bool) (np : Nat) (c : C) (s : PS) (lv : Lv) (s' : PS) : Prop := s'.ok ∧ LSem P wr np c (fun l t => l = lv ∧ t = s') s
theorem Runs.to {c : C} {s s' : PS} {lv : Lv} {Q : Lv → PS → Prop} (h : Runs P wr np c s lv s') (hq : Q lv s') : LSem P wr np c Q s :=
  h.2.mono fun l t ⟨h1, h2⟩ => by rw [h1, h2]; exact hq
theorem runC_sound {rl : Nat} (hmix : P.follows .mixedOrders = true) {R : FuncId → List PV → List SE → Option CallRes} {H : Code → PS → Option PS} (hR : ∀ f args bs c, R f args bs = some c → PureCall P f args bs c)
    (hH : ∀ c s s', H c s = some s' → Runs P wr np (.raw c) s .nrm s') : ∀ (k : Nat) (E : List (Nat × Nat)) (m : Nat) (c : C) (s s' : PS) (lv : Lv), runC R H np rl k E m c s = some (lv, s') → s.ok → Runs P wr np c s lv s' := by
  intro k
  induction k using Nat.strongRecOn with
  | ind k ihs =>
  cases k with
  | zero => intro E m c s s' lv h; simp [runC] at h
  | succ k =>
    have ih := ihs k (Nat.lt_succ_self k)
    intro E m c s s' lv h hok
    obtain ⟨n, fr, st, ok, log⟩ := s
    cases c with
    | skip =>
      simp only [runC, Option.some.injEq, Prod.mk.injEq] at h
      obtain ⟨rfl, rfl⟩ := h
      exact ⟨hok, LSem.of_vc hmix ⟨rfl, rfl⟩⟩
    | reg ins =>
      simp only [runC] at h
      split at h
      · rename_i s1 h1
        simp only [Option.some.injEq, Prod.mk.injEq] at h
        obtain ⟨rfl, rfl⟩ := h
        obtain ⟨g1, g2⟩ := runI_sound hR h1 hok
        exact ⟨g1, LSem.of_vc hmix (g2 _ ⟨rfl, rfl⟩)⟩
      · cases h
    | drw ins ps =>
      simp only [runC] at h
      split at h
      · rename_i n' fr' st' ok' log' h1
        split at h
        · rename_i ha
          simp only [Option.some.injEq, Prod.mk.injEq] at h
          obtain ⟨rfl, rfl⟩ := h
          obtain ⟨g1, g2⟩ := runI_sound hR h1 hok
          exact ⟨g1, LSem.of_vc hmix (g2 _ ⟨ha, rfl, rfl⟩)⟩
        · cases h
      · cases h
    | seq a b =>
      simp only [runC, PS.tr] at h
      have key : ∀ (Q : Lv → PS → Prop), LSem P wr np a (fun e s' => match e with
          | .nrm => vc (PureCall P) (LSem P wr np) (.cut b) Q s'
          | .ex i => Q (.ex i) s'
          | .ret => Q .ret s') ⟨n, fr, st, True, log⟩ → LSem P wr np (.seq a b) Q ⟨n, fr, st, ok, log⟩ := fun Q hq =>
        LSem.of_vc (c := .seq (.cut a) (.cut b)) hmix ⟨hok, hq⟩
      split at h
      · rename_i s1 h1
        have r1 := ih _ _ a _ _ _ h1 trivial
        obtain ⟨n1, fr1, st1, ok1, log1⟩ := s1
        have r2 := ih _ _ b _ _ _ h trivial
        exact ⟨r2.1, key _ (r1.to ⟨r1.1, r2.to ⟨rfl, rfl⟩⟩)⟩
      · rename_i i s1 h1
        simp only [Option.some.injEq, Prod.mk.injEq] at h
        obtain ⟨rfl, rfl⟩ := h
        have r1 := ih _ _ a _ _ _ h1 trivial
        exact ⟨r1.1, key _ (r1.to ⟨rfl, rfl⟩)⟩
      · rename_i s1 h1
        simp only [Option.some.injEq, Prod.mk.injEq] at h
        obtain ⟨rfl, rfl⟩ := h
        have r1 := ih _ _ a _ _ _ h1 trivial
        exact ⟨r1.1, key _ (r1.to ⟨rfl, rfl⟩)⟩
      · cases h
    | cond c x y =>
      simp only [runC] at h
      split at h
      · rename_i hv
        have r1 := ih _ _ x _ _ _ h trivial
        refine ⟨r1.1, LSem.of_vc (c := .cond c (.cut x) (.cut y)) hmix ?_⟩
        simp only [vc, hv]
        exact ⟨hok, fun _ => ⟨trivial, r1.to ⟨rfl, rfl⟩⟩, fun h => (by cases h)⟩
      · rename_i hv
        have r1 := ih _ _ y _ _ _ h trivial
        refine ⟨r1.1, LSem.of_vc (c := .cond c (.cut x) (.cut y)) hmix ?_⟩
        simp only [vc, hv]
        exact ⟨hok, fun h => (by cases h), fun _ => ⟨trivial, r1.to ⟨rfl, rfl⟩⟩⟩
      · cases h
    | block id b =>
      simp only [runC, PS.tr] at h
      have key : ∀ (Q : Lv → PS → Prop), LSem P wr np b (fun e s' => match e with
          | .nrm => Q .nrm s'
          | .ex i => match Nat.beq i id with
            | true => Q .nrm s'
            | false => Q (.ex i) s'
          | .ret => Q .ret s') ⟨n, fr, st, True, log⟩ → LSem P wr np (.block id b) Q ⟨n, fr, st, ok, log⟩ := fun Q hq =>
        LSem.of_vc (c := .block id (.cut b)) hmix ⟨hok, hq⟩
      split at h
      · rename_i s1 h1
        simp only [Option.some.injEq, Prod.mk.injEq] at h
        obtain ⟨rfl, rfl⟩ := h
        have r1 := ih _ _ b _ _ _ h1 trivial
        exact ⟨r1.1, key _ (r1.to ⟨rfl, rfl⟩)⟩
      · rename_i i s1 h1
        have r1 := ih _ _ b _ _ _ h1 trivial
        split at h
        · rename_i hb
          simp only [Option.some.injEq, Prod.mk.injEq] at h
          obtain ⟨rfl, rfl⟩ := h
          exact ⟨r1.1, key _ (r1.to (by simp [hb]))⟩
        · rename_i hb
          simp only [Option.some.injEq, Prod.mk.injEq] at h
          obtain ⟨rfl, rfl⟩ := h
          exact ⟨r1.1, key _ (r1.to (by simp [hb]))⟩
      · rename_i s1 h1
        simp only [Option.some.injEq, Prod.mk.injEq] at h
        obtain ⟨rfl, rfl⟩ := h
        have r1 := ih _ _ b _ _ _ h1 trivial
        exact ⟨r1.1, key _ (r1.to ⟨rfl, rfl⟩)⟩
      · cases h
    | loop b =>
      have htr : ∀ (j : Nat) (t : PS), runC R H np rl j E m (.loop b) t.tr = runC R H np rl j E m (.loop b) t := fun j t => by cases j <;> rfl
      have hgc : ∀ (mm : Nat) (t t0 : PS), gcP np mm t = some t0 → t0.tr = t0 ∧ ∀ (c : C) (Q : Lv → PS → Prop), LSem P wr np c Q t0 → LSem P wr np c Q t := fun mm t t0 hg => by
        obtain ⟨g1, g2⟩ := gcP_ok hg
        refine ⟨by rw [g1]; rfl, fun c Q hq => LSem.weak g2 ?_⟩
        rw [← g1]; exact hq
      have hall : ∀ (j : Nat), j ≤ k + 1 → ∀ t, runC R H np rl j E m (.loop b) t = some (lv, s') → s'.ok := by
        intro j
        induction j with
        | zero => intro _ t ht; simp [runC] at ht
        | succ j ihj =>
          intro hj t ht
          simp only [runC] at ht
          split at ht
          · rename_i t0 hg
            split at ht
            · rename_i s1 h1
              exact ihj (by omega) _ ht
            · rename_i i s1 h1
              simp only [Option.some.injEq, Prod.mk.injEq] at ht
              obtain ⟨rfl, rfl⟩ := ht
              exact (ihs j (by omega) _ _ b _ _ _ h1 trivial).1
            · rename_i s1 h1
              simp only [Option.some.injEq, Prod.mk.injEq] at ht
              obtain ⟨rfl, rfl⟩ := ht
              exact (ihs j (by omega) _ _ b _ _ _ h1 trivial).1
            · cases ht
          · cases ht
      refine ⟨hall _ (Nat.le_refl _) _ h, LSem.loopRun (fun j t => j ≤ k + 1 ∧ runC R H np rl j E m (.loop b) t = some (lv, s')) (k + 1) ⟨Nat.le_refl _, h⟩ ?_⟩
      rintro j t ⟨hj, ht⟩
      cases j with
      | zero => simp [runC] at ht
      | succ j =>
        simp only [runC] at ht
        split at ht
        · rename_i t0 hg
          obtain ⟨g1, g2⟩ := hgc _ _ _ hg
          refine g2 _ _ ?_
          rw [g1] at ht
          split at ht
          · rename_i s1 h1
            have r1 := ihs j (by omega) _ _ b _ _ _ h1 (by rw [← g1]; trivial)
            exact (r1.to ⟨r1.1, j, ⟨by omega, by rw [← htr]; exact ht⟩, by omega⟩)
          · rename_i i s1 h1
            simp only [Option.some.injEq, Prod.mk.injEq] at ht
            obtain ⟨rfl, rfl⟩ := ht
            have r1 := ihs j (by omega) _ _ b _ _ _ h1 (by rw [← g1]; trivial)
            exact (r1.to ⟨rfl, rfl⟩)
          · rename_i s1 h1
            simp only [Option.some.injEq, Prod.mk.injEq] at ht
            obtain ⟨rfl, rfl⟩ := ht
            have r1 := ihs j (by omega) _ _ b _ _ _ h1 (by rw [← g1]; trivial)
            exact (r1.to ⟨rfl, rfl⟩)
          · cases ht
        · cases ht
    | exit id =>
      simp only [runC, Option.some.injEq, Prod.mk.injEq] at h
      obtain ⟨rfl, rfl⟩ := h
      exact ⟨hok, LSem.of_vc hmix ⟨rfl, rfl⟩⟩
    | ret =>
      simp only [runC, Option.some.injEq, Prod.mk.injEq] at h
      obtain ⟨rfl, rfl⟩ := h
      exact ⟨hok, LSem.of_vc hmix ⟨rfl, rfl⟩⟩
    | raw c =>
      simp only [runC, PS.tr] at h
      split at h
      · rename_i s1 h1
        simp only [Option.some.injEq, Prod.mk.injEq] at h
        obtain ⟨rfl, rfl⟩ := h
        have r1 := hH _ _ _ h1
        exact ⟨r1.1, LSem.of_vc (c := .raw c) hmix ⟨hok, r1.2⟩⟩
      · cases h
    | scope b =>
      simp only [runC, PS.tr] at h
      split at h
      · rename_i hl
        have key : ∀ (Q : Lv → PS → Prop), LSem P wr np b (outs Q) ⟨n, fr, st, True, log⟩ → LSem P wr np (.scope b) Q ⟨n, fr, st, ok, log⟩ := fun Q hq => by
          refine LSem.of_vc (c := .scope (.cut b)) hmix ?_
          simp only [vc, C.labOf, hl]
          exact ⟨hok, hq⟩
        split at h
        · rename_i s1 h1
          simp only [Option.some.injEq, Prod.mk.injEq] at h
          obtain ⟨rfl, rfl⟩ := h
          have r1 := ih _ _ b _ _ _ h1 trivial
          exact ⟨r1.1, key _ (r1.to ⟨rfl, rfl⟩)⟩
        · rename_i i s1 h1
          split at h
          · cases h
          · rename_i hb
            simp only [Option.some.injEq, Prod.mk.injEq] at h
            obtain ⟨rfl, rfl⟩ := h
            have r1 := ih _ _ b _ _ _ h1 trivial
            exact ⟨r1.1, key _ (r1.to (by simp [outs, hb]))⟩
        · rename_i s1 h1
          simp only [Option.some.injEq, Prod.mk.injEq] at h
          obtain ⟨rfl, rfl⟩ := h
          have r1 := ih _ _ b _ _ _ h1 trivial
          exact ⟨r1.1, key _ (r1.to ⟨rfl, rfl⟩)⟩
        · cases h
      · cases h
    | cut b => simp [runC] at h
    | bad => simp [runC] at h
    | lab l => simp [runC] at h
    | gto l => simp [runC] at h
end
end Pv
end Go.Proofs.YtdcgnfkkklbckaaGreatDoor
/- RUNS: a call that is run on known values has a contract. -/
set_option linter.unusedSimpArgs false
set_option linter.unusedVariables false
namespace Go.Proofs.YtdcgnfkkklbckaaGreatDoor
namespace Pv
open Go.RowKit
mutual
theorem ren_of {ρ : Nat → Nat} : ∀ (p : PV), (∀ r ∈ p.ids, ρ r = r) → p.ren ρ = p
  | .os r, h => by rw [PV.ren, h r (by simp [PV.ids])]
  | .vw _ r _ _, h => by rw [PV.ren, h r (by simp [PV.ids])]
  | .rf _ r, h => by rw [PV.ren, h r (by simp [PV.ids])]
  | .pt r _ _, h => by rw [PV.ren, h r (by simp [PV.ids])]
  | .agg cs, h => by rw [PV.ren, ren_ofL cs h]
  | .tup cs, h => by rw [PV.ren, ren_ofL cs h]
  | .fn f a b, h => by rw [PV.ren, ren_ofL a (fun r hr => h r (by simp [PV.ids, hr])), ren_ofL b (fun r hr => h r (by simp [PV.ids, hr]))]
  | .cnd g p, h => by rw [PV.ren, ren_of p h]
  | .mpv .., _ => rfl
  | .int .., _ => rfl
  | .bool _, _ => rfl
  | .str _, _ => rfl
  | .sl .., _ => rfl
  | .nil _, _ => rfl
  | .rp .., _ => rfl
  | .raw _, _ => rfl
  | .junk, _ => rfl
theorem ren_ofL {ρ : Nat → Nat} : ∀ (l : List PV), (∀ r ∈ PV.idsL l, ρ r = r) → PV.renL ρ l = l
  | [], _ => rfl
  | p :: ps, h => by rw [PV.renL, ren_of p (fun r hr => h r (by simp [PV.idsL, hr])), ren_ofL ps (fun r hr => h r (by simp [PV.idsL, hr]))]
end
mutual
def convV (st : Nat → Option SE) (np : Nat) : PV → Option PV
  | .os r => match Nat.blt r np with
    | true => none
    | false => match st r with
      | some (.row τ _ z n f) => some (.sl τ z n f)
      | _ => none
  | .agg cs => match convL st np cs with
    | some cs' => some (.agg cs')
    | none => none
  | .tup cs => match convL st np cs with
    | some cs' => some (.tup cs')
    | none => none
  | .fn f a b => match convL st np a, convL st np b with
    | some a', some b' => some (.fn f a' b')
    | _, _ => none
  | .pt r i j => match Nat.blt r np with
    | true => some (.pt r i j)
    | false => none
  | .rf m r => match Nat.blt r np with
    | true => some (.rf m r)
    | false => none
  | .vw .. => none
  | .cnd _ _ => none
  | .mpv ks vks ka va h f => some (.mpv ks vks ka va h f)
  | .int k n => some (.int k n)
  | .bool b => some (.bool b)
  | .str s => some (.str s)
  | .sl τ z n f => some (.sl τ z n f)
  | .nil z => some (.nil z)
  | .rp τ cs => some (.rp τ cs)
  | .raw v => some (.raw v)
  | .junk => some .junk
def convL (st : Nat → Option SE) (np : Nat) : List PV → Option (List PV)
  | [] => some []
  | p :: ps => match convV st np p, convL st np ps with
    | some q, some qs => some (q :: qs)
    | _, _ => none
end
theorem kp_lo {np r : Nat} (h : Nat.blt r np = true) : kpR np [] r = true := by unfold kpR; rw [h]
theorem kp_hi {np r : Nat} (h : Nat.blt r np = false) : kpR np [] r = false := by unfold kpR; rw [h]; rfl
theorem blt_lo {np r : Nat} (h : Nat.blt r np = true) : r < np := by rwa [Nat.blt_eq] at h
mutual
theorem convV_ok {st : Nat → Option SE} {np : Nat} : ∀ (p q : PV), convV st np p = some q → PLe st (kpR np []) p q ∧ ∀ r ∈ q.ids, r < np
  | .os r, q, h => by
    simp only [convV] at h
    split at h
    · cases h
    · rename_i hb
      split at h
      · rename_i τ e z n f hs
        injection h with h; subst h
        refine ⟨?_, fun r hr => by simp [PV.ids] at hr⟩
        simp only [PLe]
        refine ⟨kp_hi hb, ?_⟩
        rw [hs]
        exact ⟨Nat.le_refl _, rfl, rfl, fun _ _ => rfl⟩
      · cases h
  | .agg cs, q, h => by
    simp only [convV] at h
    split at h
    · rename_i cs' hc
      injection h with h; subst h
      have := convL_ok cs cs' hc
      exact ⟨by simp only [PLe]; exact this.1, this.2⟩
    · cases h
  | .tup cs, q, h => by
    simp only [convV] at h
    split at h
    · rename_i cs' hc
      injection h with h; subst h
      have := convL_ok cs cs' hc
      exact ⟨by simp only [PLe]; exact this.1, this.2⟩
    · cases h
  | .fn f a b, q, h => by
    simp only [convV] at h
    split at h
    · rename_i a' b' ha hb
      injection h with h; subst h
      have h1 := convL_ok a a' ha
      have h2 := convL_ok b b' hb
      refine ⟨by simp only [PLe]; exact ⟨trivial, h1.1, h2.1⟩, fun r hr => ?_⟩
      simp only [PV.ids, List.mem_append] at hr
      exact hr.elim (h1.2 r) (h2.2 r)
    · cases h
  | .pt r i j, q, h => by
    simp only [convV] at h
    split at h
    · rename_i hb
      injection h with h; subst h
      exact ⟨by simp only [PLe]; exact ⟨trivial, trivial, trivial, kp_lo hb⟩, fun r hr => by simp only [PV.ids, List.mem_singleton] at hr; subst hr; exact blt_lo hb⟩
    · cases h
  | .rf m r, q, h => by
    simp only [convV] at h
    split at h
    · rename_i hb
      injection h with h; subst h
      exact ⟨by simp only [PLe]; exact ⟨trivial, trivial, kp_lo hb⟩, fun r hr => by simp only [PV.ids, List.mem_singleton] at hr; subst hr; exact blt_lo hb⟩
    · cases h
  | .vw .., q, h => by simp [convV] at h
  | .cnd _ _, q, h => by simp [convV] at h
  | .mpv .., q, h => by
    simp only [convV, Option.some.injEq] at h; subst h
    exact ⟨by simp only [PLe]; exact ⟨trivial, trivial, trivial, trivial, fun _ _ => ⟨rfl, rfl⟩⟩, fun r hr => by simp [PV.ids] at hr⟩
  | .int .., q, h => by
    simp only [convV, Option.some.injEq] at h; subst h
    exact ⟨by simp only [PLe]; exact ⟨trivial, trivial⟩, fun r hr => by simp [PV.ids] at hr⟩
  | .bool _, q, h => by
    simp only [convV, Option.some.injEq] at h; subst h
    exact ⟨by simp only [PLe], fun r hr => by simp [PV.ids] at hr⟩
  | .str _, q, h => by
    simp only [convV, Option.some.injEq] at h; subst h
    exact ⟨by simp only [PLe], fun r hr => by simp [PV.ids] at hr⟩
  | .sl .., q, h => by
    simp only [convV, Option.some.injEq] at h; subst h
    exact ⟨by simp only [PLe]; exact ⟨Nat.le_refl _, trivial, trivial, fun _ _ => rfl⟩, fun r hr => by simp [PV.ids] at hr⟩
  | .nil _, q, h => by
    simp only [convV, Option.some.injEq] at h; subst h
    exact ⟨by simp only [PLe], fun r hr => by simp [PV.ids] at hr⟩
  | .rp .., q, h => by
    simp only [convV, Option.some.injEq] at h; subst h
    exact ⟨by simp only [PLe]; exact ⟨Nat.le_refl _, trivial⟩, fun r hr => by simp [PV.ids] at hr⟩
  | .raw _, q, h => by
    simp only [convV, Option.some.injEq] at h; subst h
    exact ⟨by simp only [PLe], fun r hr => by simp [PV.ids] at hr⟩
  | .junk, q, h => by
    simp only [convV, Option.some.injEq] at h; subst h
    exact ⟨by simp only [PLe], fun r hr => by simp [PV.ids] at hr⟩
theorem convL_ok {st : Nat → Option SE} {np : Nat} : ∀ (l m : List PV), convL st np l = some m → PLeL st (kpR np []) l m ∧ ∀ r ∈ PV.idsL m, r < np
  | [], m, h => by
    simp only [convL, Option.some.injEq] at h; subst h
    exact ⟨by simp only [PLeL], fun r hr => by simp [PV.idsL] at hr⟩
  | p :: ps, m, h => by
    simp only [convL] at h
    split at h
    · rename_i q qs hq hqs
      injection h with h; subst h
      have h1 := convV_ok p q hq
      have h2 := convL_ok ps qs hqs
      refine ⟨by simp only [PLeL]; exact ⟨h1.1, h2.1⟩, fun r hr => ?_⟩
      simp only [PV.idsL, List.mem_append] at hr
      exact hr.elim (h1.2 r) (h2.2 r)
    · cases h
end
def convS (st : Nat → Option SE) (np : Nat) : SE → Option SE
  | .box l => match convL st np l with
    | some l' => some (.box l')
    | none => none
  | .row .. => none
  | .bld T e s => some (.bld T e s)
theorem convS_ok {st : Nat → Option SE} {np : Nat} {e e' : SE} (h : convS st np e = some e') : SLe st (kpR np []) e e' ∧ ∀ r ∈ e'.ids, r < np := by
  cases e with
  | box l =>
    simp only [convS] at h
    split at h
    · rename_i l' hl
      injection h with h; subst h
      exact convL_ok l l' hl
    · cases h
  | row _ _ _ _ _ => simp [convS] at h
  | bld T e s =>
    simp only [convS, Option.some.injEq] at h; subst h
    exact ⟨⟨rfl, rfl, rfl⟩, fun r hr => by simp [SE.ids] at hr⟩
def convB (st : Nat → Option SE) (np : Nat) : Nat → Nat → Option (List SE)
  | 0, _ => some []
  | j + 1, k => match st k with
    | some e => match convS st np e, convB st np j (k + 1) with
      | some e', some l => some (e' :: l)
      | _, _ => none
    | none => none
theorem reN_lo {np r : Nat} (hn : np ≤ newBase) (h : r < np) : reN [] r = r := by
  unfold reN
  have : Nat.ble newBase r = false := by rw [Bool.eq_false_iff]; intro hh; have := Nat.le_of_ble_eq_true hh; omega
  rw [this]
theorem sren_of {ρ : Nat → Nat} {e : SE} (h : ∀ r ∈ e.ids, ρ r = r) : e.ren ρ = e := by
  cases e with
  | box l => rw [SE.ren, ren_ofL l h]
  | row _ _ _ _ _ => rfl
  | bld _ _ _ => rfl
theorem convB_ok {st : Nat → Option SE} {np : Nat} (hn : np ≤ newBase) : ∀ (j k : Nat) (l : List SE), convB st np j k = some l → leBox st (kpR np []) [] k l ∧ l.length = j ∧ ∀ e ∈ l, ∀ r ∈ e.ids, r < np
  | 0, k, l, h => by
    simp only [convB, Option.some.injEq] at h; subst h
    exact ⟨trivial, rfl, fun e he => by simp at he⟩
  | j + 1, k, l, h => by
    simp only [convB] at h
    split at h
    · rename_i e he
      split at h
      · rename_i e' l' h1 h2
        injection h with h; subst h
        have g1 := convS_ok h1
        have g2 := convB_ok hn j (k + 1) l' h2
        refine ⟨⟨?_, g2.1⟩, by simp [g2.2.1], fun x hx => ?_⟩
        · rw [he, sren_of (fun r hr => reN_lo hn (g1.2 r hr))]; exact g1.1
        · rcases List.mem_cons.1 hx with rfl | hx
          · exact g1.2
          · exact g2.2.2 x hx
      · cases h
    · cases h
theorem inRes_lo {np : Nat} : ∀ {l : List Nat}, (∀ r ∈ l, r < np) → inRes np 0 l = true
  | [], _ => rfl
  | r :: l, h => by
    have h1 : Nat.blt r np = true := by rw [Nat.blt_eq]; exact h r (by simp)
    simp only [inRes, h1, Bool.true_or]
    exact inRes_lo fun x hx => h x (by simp [hx])
theorem inResS_lo {np : Nat} : ∀ {l : List SE}, (∀ e ∈ l, ∀ r ∈ e.ids, r < np) → inResS np 0 l = true
  | [], _ => rfl
  | e :: l, h => by
    simp only [inResS, inRes_lo (h e (by simp))]
    exact inResS_lo fun x hx => h x (by simp [hx])
def C.uncut : C → Bool
  | .seq a b => a.uncut && b.uncut
  | .cond _ x y => x.uncut && y.uncut
  | .block _ b => b.uncut
  | .loop b => b.uncut
  | .scope b => b.uncut
  | .cut _ => false
  | _ => true
theorem C.uncut_er : ∀ (c : C), c.uncut = true → c.er = c
  | .seq a b, h => by
    simp only [C.uncut, Bool.and_eq_true] at h
    rw [C.er, C.uncut_er a h.1, C.uncut_er b h.2]
  | .cond _ x y, h => by
    simp only [C.uncut, Bool.and_eq_true] at h
    rw [C.er, C.uncut_er x h.1, C.uncut_er y h.2]
  | .block _ b, h => by rw [C.er, C.uncut_er b h]
  | .loop b, h => by rw [C.er, C.uncut_er b h]
  | .scope b, h => by rw [C.er, C.uncut_er b h]
  | .skip, _ => rfl
  | .reg _, _ => rfl
  | .drw _ _, _ => rfl
  | .exit _, _ => rfl
  | .ret, _ => rfl
  | .raw _, _ => rfl
  | .bad, _ => rfl
  | .lab _, _ => rfl
  | .gto _, _ => rfl
  | .cut _, h => by simp [C.uncut] at h
abbrev Orc := FuncId → List PV → List SE → Option CallRes
def OrcOK (P : Program) (R : Orc) : Prop := ∀ f args bs c, R f args bs = some c → PureCall P f args bs c
def runEnd (rs : List RV) (np : Nat) (s : PS) : Option CallRes := match s with
  | ⟨_, fr, st, _, _⟩ => match rvL fr st rs with
    | some ps => match convV st np (tupOf ps), convB st np np 0 with
      | some v, some l => some ⟨v, l, []⟩
      | _, _ => none
    | none => none
def runBody (P : Program) (R : Orc) (H : Code → PS → Option PS) (k : Nat) (fn : Func) (args : List PV) (bs : List SE) : Option CallRes :=
  match fn.body, mapO (compR P) fn.results.toList with
  | some code, some rs => match comp P false code with
    | some cc => match cc.uncut && !(bs.any SE.isRow) && !(fn.name == "runtime.NumGoroutine") && Nat.ble (nbx bs) newBase with
      | true => match runC R H (nbx bs) (mAs (rs.map fun r => A.t r.1) 0) k [] (mAs (rs.map fun r => A.t r.1) 0) cc (St (args.length + (fn.ntmps - args.length)) (argF 0 args) (boxF 0 bs)) with
        | some (.nrm, s) => runEnd rs (nbx bs) s
        | some (.ret, s) => runEnd rs (nbx bs) s
        | _ => none
      | false => none
    | none => none
  | _, _ => none
theorem runEnd_ok {rs : List RV} {np : Nat} {s : PS} {c : CallRes} (hn : np ≤ newBase) (h : runEnd rs np s = some c) : ∃ ids, ResOK rs np c ids s := by
  obtain ⟨n, fr, st, ok, log⟩ := s
  simp only [runEnd] at h
  split at h
  · rename_i ps hps
    split at h
    · rename_i v l hv hl
      injection h with h; subst h
      refine ⟨[], ?_⟩
      simp only [ResOK, hps]
      have g1 := convV_ok _ _ hv
      have g2 := convB_ok hn _ _ _ hl
      refine ⟨?_, ?_, g2.1, trivial⟩
      · simp only [Bool.and_eq_true]
        refine ⟨⟨⟨⟨⟨⟨rfl, rfl⟩, ?_⟩, Nat.ble_eq_true_of_le hn⟩, inRes_lo g1.2⟩, inResS_lo g2.2.2⟩, rfl⟩
        rw [g2.2.1]; exact Nat.beq_refl _
      · rw [ren_of _ (fun r hr => reN_lo hn (g1.2 r hr))]; exact g1.1
    · cases h
  · cases h
theorem runBody_ok {P : Program} (hmix : P.follows .mixedOrders = true) {R : Orc} {H : Code → PS → Option PS} {k : Nat} {f : FuncId} {fn : Func} {args : List PV} {bs : List SE} {c : CallRes} (hf : P.funcs[f]? = some fn)
    (hR : OrcOK P R) (hH : ∀ np c s s', H c s = some s' → Runs P false np (.raw c) s .nrm s') (h : runBody P R H k fn args bs = some c) : PureBody P f args bs c := by
  unfold runBody at h
  split at h
  · rename_i code rs hb hrs
    split at h
    · rename_i cc hcc
      split at h
      · rename_i hg
        simp only [Bool.and_eq_true, Bool.not_eq_true'] at hg
        obtain ⟨⟨⟨h1, h2⟩, h3⟩, h4⟩ := hg
        have hn := Nat.le_of_ble_eq_true h4
        refine pure_body (wr := false) (cc := .cut cc) (rs := rs) (n := args.length + (fn.ntmps - args.length)) hmix hf ?_ (by unfold okBs; rw [h2]; rfl) ?_
        · unfold fits
          rw [hb, hrs]
          simp only [C.er, C.uncut_er cc h1]
          rw [if_pos ⟨trivial, trivial, h3⟩, hcc]
        · refine ⟨trivial, ?_⟩
          split at h
          · rename_i s hs
            exact (runC_sound hmix hR (hH _) k _ _ cc _ _ _ hs trivial).to ⟨(runC_sound hmix hR (hH (nbx bs)) k _ _ cc _ _ _ hs trivial).1, runEnd_ok hn h⟩
          · rename_i s hs
            exact (runC_sound hmix hR (hH _) k _ _ cc _ _ _ hs trivial).to ⟨(runC_sound hmix hR (hH (nbx bs)) k _ _ cc _ _ _ hs trivial).1, runEnd_ok hn h⟩
          · cases h
      · cases h
    · cases h
  · cases h
end Pv
end Go.Proofs.YtdcgnfkkklbckaaGreatDoor
/- RUNS: functions that begin with deferred calls. -/
set_option linter.unusedSimpArgs false
set_option linter.unusedVariables false
namespace Go.Proofs.YtdcgnfkkklbckaaGreatDoor
namespace Pv
open Go.RowKit
section
variable {P : Program}
def CallsN (P : Program) (f : FuncId) (args : Array Value) (w : World) (R : Ending → World → Prop) : Prop := CallsD P f args .returning w fun e u' w' => u' = .returning ∧ R e w'
theorem callsN_mono (P : Program) : MonoC (CallsN P) := fun _ _ _ _ _ h hr => CallsD.mono h fun e u' w' ⟨h1, h2⟩ => ⟨h1, hr e w' h2⟩
theorem PureBody.callN {f : FuncId} {args : List PV} {bs : List SE} {c : CallRes} (h : PureBody P f args bs c) : PureCallC (CallsN P) P f args bs c :=
  ⟨h.1, fun w γ aas ls vals h1 h2 h3 => by
    obtain ⟨fn, cc, hf, hb, hw⟩ := h.2 w γ aas ls vals h1 h2 h3
    exact callsD_of_wp hf hb hw⟩
/-! ### the deferred calls of a context do not matter to what it says -/
theorem Rep.df {lo np : Nat} {aas0 ls : Nat → Prop} {g0 : Nat → Option GE} {d d' : List Deferred} {γ : Gh} {w : World} {p : PV} {v : Value} (h : Rep ⟨lo, aas0, ls, np, g0, d⟩ γ w p v) : Rep ⟨lo, aas0, ls, np, g0, d'⟩ γ w p v := by
  induction h with
  | int k n => exact .int k n
  | bool b => exact .bool b
  | str s => exact .str s
  | agg cs vs hl hc h ih => exact .agg cs vs hl hc ih
  | tup cs vs hl h ih => exact .tup cs vs hl ih
  | sl τ z n f ad cap vs hcap hz hf hb h ih => exact .sl τ z n f ad cap vs hcap hz hf hb ih
  | nil z => exact .nil z
  | os r ge hg h1 h2 => exact .os r ge hg h1 h2
  | vw h r lo n ge ad m cap hg hh hle h0 h2 => exact .vw h r lo n ge ad m cap hg hh hle h0 h2
  | pt r i j ge b hg hb => exact .pt r i j ge b hg hb
  | rf r ge b hg hb => exact .rf r ge b hg hb
  | rfs z n r ge b hg hb => exact .rfs z n r ge b hg hb
  | rp τ cs a vs hf hb hc h ih => exact .rp τ cs a vs hf hb hc ih
  | fn f first caps vs us hl hl' h h' ih ih' => exact .fn f first caps vs us hl hl' ih ih'
  | raw v h1 => exact .raw v h1
  | cnd g p v h hu ih => exact .cnd g p v ih hu
  | junk v => exact .junk v
theorem RepL.df {lo np : Nat} {aas0 ls : Nat → Prop} {g0 : Nat → Option GE} {d d' : List Deferred} {γ : Gh} {w : World} {ps : List PV} {vs : List Value} (h : RepL ⟨lo, aas0, ls, np, g0, d⟩ γ w ps vs) : RepL ⟨lo, aas0, ls, np, g0, d'⟩ γ w ps vs :=
  ⟨h.1, fun k c u h1 h2 => (h.2 k c u h1 h2).df⟩
theorem RepSt.df {lo np : Nat} {aas0 ls : Nat → Prop} {g0 : Nat → Option GE} {d d' : List Deferred} {γ : Gh} {w : World} {st : Nat → Option SE} (h : RepSt ⟨lo, aas0, ls, np, g0, d⟩ γ w st) : RepSt ⟨lo, aas0, ls, np, g0, d'⟩ γ w st := by
  refine ⟨h.dom, fun r ge e h1 h2 => ?_, h.inj, h.asOff, h.lt, h.glob⟩
  have h3 := h.at_ r ge e h1 h2
  cases e with
  | box l =>
    obtain ⟨b, k1, k2⟩ := h3
    refine ⟨b, k1, k2.imp ?_ id⟩
    rintro ⟨T, vs, q1, q2, q3⟩
    exact ⟨T, vs, q1, q2, q3.df⟩
  | row τ e z n f =>
    obtain ⟨vs, k1, k2, k3, k4, k5, k6, k7, k8⟩ := h3
    exact ⟨vs, k1, k2, k3, k4, k5, k6, k7, fun i j c u a1 a2 a3 => (k8 i j c u a1 a2 a3).df⟩
  | bld T e s => exact h3
/-! ### the calls that were put off -/
def defSt (RB : Orc) (F : FuncId) (st : Nat → Option SE) : Option (Nat → Option SE) := match st 0 with
  | some (.box l) => match lendCells l with
    | some l0 => match RB F [.pt 0 0 0] [.box l0] with
      | some ⟨_, [.box l1], []⟩ => match PV.idsL l1, natIn F givers, natIn F readers with
        | [], false, false => some (upd st 0 (.box l1))
        | _, _, _ => none
      | _ => none
    | none => none
  | _ => none
def defSts (RB : Orc) : List FuncId → (Nat → Option SE) → Option (Nat → Option SE)
  | [], st => some st
  | F :: Fs, st => match defSt RB F st with
    | some st' => defSts RB Fs st'
    | none => none
variable {X : Cx} {w0 : World} {may : Nat → Prop}
theorem voidF_nil' {p : PV} : p.void [] = p := by
  have := voidF_nil (fr := fun _ => some p)
  have h2 := congrFun this 0
  simpa [voidF] using h2
theorem leaves_run {fn : Func} {tmps : Array Value} {v : Value} {R : Ending → World → Prop} {RB : Orc} (hRB : ∀ f args bs c, RB f args bs = some c → PureBody P f args bs c) :
    ∀ (Fs : List FuncId) (a : Act) (w : World) (s : PS) (γ : Gh) (st' : Nat → Option SE), Rel X w0 may a w s γ → Rep X γ w (.pt 0 0 0) v → defSts RB Fs s.st = some st' →
    (∀ w' γ', Rel X w0 may a w' ⟨s.n, s.fr, st', True, fun _ => none⟩ γ' → ∃ u, (results fn tmps).run P w' = .ok u w' ∧ R (.returned u) w') →
    Leaves P fn tmps R (Fs.map fun F => ⟨.fn (.func F) #[], #[v]⟩) .returning w
  | [], a, w, s, γ, st', hR, hv, h, hK => by
    simp only [defSts, Option.some.injEq] at h; subst h
    exact hK w γ ⟨hR.1, hR.2, hR.3, hR.4, hR.5, hR.6, hR.7, hR.8, hR.9, hR.10, hR.11⟩
  | F :: Fs, a, w, s, γ, st', hR, hv, h, hK => by
    simp only [defSts] at h
    split at h
    · rename_i st1 h1
      unfold defSt at h1
      split at h1
      · rename_i l hl
        split at h1
        · rename_i l0 hl0
          split at h1
          · rename_i cv l1 hc
            split at h1
            · rename_i hi hg hrd
              injection h1 with h1; subst h1
              have hpb := (hRB _ _ _ _ hc).callN
              have hE : callV (PureCallC (CallsN P) P) 16 ⟨cv, [.box l1], []⟩ (.fn (.func F) [] []) [.pt 0 0 0] [0] [.box l] = some ⟨PV.ren (backName [(0, .box l0)] 16) cv, [PureCallC (CallsN P) P F [.pt 0 0 0] [.box l0] ⟨cv, [.box l1], []⟩], [(0, .box l1)], [], [], []⟩ := by
                have e1 : PV.renL (backName [(0, .box l0)] 16) l1 = l1 := ren_ofL _ (fun r hr => by rw [hi] at hr; simp at hr)
                unfold callV callA
                simp [hg, hrd, lendL, lend, boxNo, boxesOf, hl0, sameKinds, SE.kind, SE.isRow, SE.ren, e1, newBase, fixAny]
              have hnew : newSt 16 [] [] [(0, .box l1)] [] s.st = some (upd s.st 0 (.box l1)) := by
                rw [newSt_eq]; simp [voidS_nil, rmS_nil, wrS, nwS]
              obtain ⟨id, first, caps, hfe, _, hC⟩ := call_soundC (C := CallsN P) (callsN_mono P) (fv := .func (.func F) #[] #[]) (avs := [v]) (st' := upd s.st 0 (.box l1)) hR.st hR.hX hR.heapLe hR.rowLo (.fn _ [] [] [] [] rfl rfl (fun _ _ _ h => by simp at h) (fun _ _ _ h => by simp at h)) (RepL.cons_ hv RepL.nil_) (by simp) (by simp [getL, hl]) hE ⟨hpb, trivial⟩ hnew
              simp only [Value.func.injEq, Fn.func.injEq] at hfe
              obtain ⟨rfl, rfl, rfl⟩ := hfe
              obtain ⟨⟨fn', hfn', hbody, hname⟩, _⟩ := hpb
              have hb : fn'.body ≠ none := by intro h; rw [h] at hbody; cases hbody
              have hnm : fn'.name ≠ "runtime.NumGoroutine" := by simpa using hname
              rw [List.map_cons]
              refine leaves_cons (f := F) (args := #[v]) (by simp) (by simp [invoke, callFunc, hfn', hb, hnm]) ?_
              have hargs : ((#[] ++ [v].toArray) ++ #[] : Array Value) = #[v] := by simp
              rw [hargs] at hC
              refine CallsD.mono hC ?_
              rintro e u' w' ⟨rfl, v1, γ', rfl, hE'⟩
              have hR' : Rel X w0 may a w' ⟨s.n, s.fr, upd s.st 0 (.box l1), True, fun _ => none⟩ γ' :=
                hR.after (s' := ⟨s.n, s.fr, upd s.st 0 (.box l1), True, fun _ => none⟩) (dst := none) hE' rfl fun t p hp => .inr ⟨by simp, p, hp, voidF_nil'.symm⟩
              have hv' : Rep X γ' w' (.pt 0 0 0) v := by
                have := hE'.old _ _ hv
                rwa [voidF_nil'] at this
              exact leaves_run hRB Fs a w' ⟨s.n, s.fr, upd s.st 0 (.box l1), True, fun _ => none⟩ γ' st' hR' hv' h fun w2 γ2 h2 => hK w2 γ2 h2
            · cases h1
          · cases h1
        · cases h1
      · cases h1
    · cases h
/-! ### putting calls off -/
def dfOf : Code → Option (Nat × FuncId)
  | .region _ ops false => match ops.toList with
    | [o1, o2] => match o1.dst, o1.op, o1.guard, o2.dst, o2.op, o2.guard with
      | some t, .move (.tmp 0), none, none, .defer cl, none => match cl.callee, cl.args.toList with
        | .value (.func F), [.tmp t'] => if t' = t ∧ t ≠ 0 then some (t, F) else none
        | _, _ => none
      | _, _, _, _, _, _ => none
    | _ => none
  | _ => none
def dfs : Code → List (Nat × FuncId) × Code
  | .seq a b => match dfOf a with
    | some x => match dfs b with
      | (l, r) => (x :: l, r)
    | none => ([], .seq a b)
  | c => ([], c)
theorem df_wp {c : Code} {t : Nat} {F : FuncId} (h : dfOf c = some (t, F)) {Q : Exit → Act → World → Prop} {a : Act} {w : World} {v : Value} (h0 : a.tmps.getD 0 undef = v) (ht : t < a.tmps.size)
    (hQ : Q .normal { tmps := a.tmps.setIfInBounds t v, defers := ⟨.fn (.func F) #[], #[v]⟩ :: a.defers } w) : c.wp P Q a w := by
  unfold dfOf at h
  split at h
  · rename_i id ops
    split at h
    · rename_i o1 o2 ho
      split at h
      · rename_i t1 cl d1 p1 g1 d2 p2 g2
        split at h
        · rename_i F1 t2 hcl hargs
          split at h
          · rename_i hc
            simp only [Option.some.injEq, Prod.mk.injEq] at h
            obtain ⟨rfl, rfl⟩ := h
            obtain ⟨rfl, hne⟩ := hc
            have hops : ops = #[o1, o2] := by apply Array.ext'; simpa using ho
            subst hops
            have hargs' : cl.args = #[.tmp t2] := by apply Array.ext'; simpa using hargs
            apply wp_region
            have h0' : a.eval (.tmp 0) = v := h0
            have e2 : (a.tmps.setIfInBounds t2 v).getD t2 undef = v := by simp [Array.getD_eq_getD_getElem?, ht]
            simp only [List.size_toArray, List.length_cons, List.length_nil, List.range_succ, List.range_zero, List.nil_append, List.cons_append, wpOps, List.getElem?_toArray, List.getElem?_cons_zero, List.getElem?_cons_succ, Region.wanted, g1, g2, if_true]
            left
            unfold Oper.wp
            have hr1 : (execOp a.eval o1).run P w = .ok (.value v) w := by
              unfold execOp; rw [p1]; simp [h0']
            rw [hr1, Oper.upon_value, d1]
            left
            have hr2 : (execOp (a.put (some t2) v).eval o2).run P w = .ok (.defer ⟨.fn (.func F1) #[], #[v]⟩) w := by
              unfold execOp; rw [p2]
              have e3 : (a.put (some t2) v).eval (.tmp t2) = v := e2
              have e4 : (a.put (some t2) v).eval (.func F1) = .func (.func F1) #[] #[] := rfl
              simp [resolve, hcl, hargs', Deferred.ofValue, e3, e4]
            rw [hr2, Oper.upon_defer, d2]
            exact hQ
          · cases h
        · cases h
      · cases h
    · cases h
  · cases h
theorem dfs_wp {v : Value} : ∀ (c : Code) (l : List (Nat × FuncId)) (r : Code) {Q : Exit → Act → World → Prop} (a : Act) (w : World), dfs c = (l, r) → a.tmps.getD 0 undef = v → (∀ x ∈ l, x.1 < a.tmps.size ∧ x.1 ≠ 0) →
    (∀ a' : Act, a'.tmps.size = a.tmps.size → a'.tmps.getD 0 undef = v → a'.defers = (l.reverse.map fun x => ⟨.fn (.func x.2) #[], #[v]⟩) ++ a.defers → r.wp P Q a' w) → c.wp P Q a w := by
  intro c
  induction c with
  | seq x y ihx ihy =>
    intro l r Q a w h h0 hl hQ
    simp only [dfs] at h
    split at h
    · rename_i p hp
      cases hy : dfs y with
      | mk l2 r2 =>
        rw [hy] at h
        simp only [Prod.mk.injEq] at h
        obtain ⟨rfl, rfl⟩ := h
        obtain ⟨t, F⟩ := p
        have ht := hl (t, F) (by simp)
        refine wp_seq ?_
        refine df_wp hp h0 ht.1 ?_
        refine ihy l2 r2 _ w hy ?_ (fun x hx => ?_) fun a' g1 g2 g3 => hQ a' ?_ g2 ?_
        · have hne : t ≠ 0 := ht.2
          simp [Array.getD_eq_getD_getElem?, Array.getElem?_setIfInBounds_ne hne] at h0 ⊢
          exact h0
        · have := hl x (by simp [hx]); simpa using this
        · simpa using g1
        · rw [g3]; simp
    · simp only [Prod.mk.injEq] at h
      obtain ⟨rfl, rfl⟩ := h
      exact hQ a rfl h0 (by simp)
  | _ =>
    intro l r Q a w h h0 hl hQ
    simp only [dfs, Prod.mk.injEq] at h
    obtain ⟨rfl, rfl⟩ := h
    exact hQ a rfl h0 (by simp)
def okDf (n : Nat) : List (Nat × FuncId) → Bool
  | [] => true
  | x :: l => match Nat.blt x.1 n, Nat.beq x.1 0 with
    | true, false => okDf n l
    | _, _ => false
theorem okDf_ok {n : Nat} : ∀ {l : List (Nat × FuncId)}, okDf n l = true → ∀ x ∈ l, x.1 < n ∧ x.1 ≠ 0
  | [], _, x, hx => by simp at hx
  | y :: l, h, x, hx => by
    simp only [okDf] at h
    split at h
    · rename_i h1 h2
      rcases List.mem_cons.1 hx with rfl | hx
      · refine ⟨by rwa [Nat.blt_eq] at h1, fun h0 => ?_⟩
        rw [h0] at h2; cases h2
      · exact okDf_ok h x hx
    · cases h
def runDef (P : Program) (R RB : Orc) (H : Code → PS → Option PS) (k : Nat) (fn : Func) (args : List PV) (bs : List SE) : Option CallRes :=
  match fn.body, fn.results.toList, args, bs with
  | some code, [], [.pt 0 0 0], [.box l] => match dfs code with
    | (ds, rest) => match comp P false rest with
      | some cc => match cc.uncut && !(fn.name == "runtime.NumGoroutine") && okDf (1 + (fn.ntmps - 1)) ds with
        | true => match runC R H 1 0 k [] 0 cc (St (1 + (fn.ntmps - 1)) (argF 0 [.pt 0 0 0]) (boxF 0 [.box l])) with
          | some (.nrm, s) => match s.st 0, defSts RB (ds.reverse.map (·.2)) s.st with
            | some (.box _), some st' => runEnd [] 1 ⟨s.n, s.fr, st', True, fun _ => none⟩
            | _, _ => none
          | _ => none
        | false => none
      | none => none
  | _, _, _, _ => none
theorem runDef_ok (hmix : P.follows .mixedOrders = true) {R RB : Orc} {H : Code → PS → Option PS} {k : Nat} {f : FuncId} {fn : Func} {args : List PV} {bs : List SE} {c : CallRes} (hf : P.funcs[f]? = some fn)
    (hR : OrcOK P R) (hRB : ∀ f args bs c, RB f args bs = some c → PureBody P f args bs c) (hH : ∀ np c s s', H c s = some s' → Runs P false np (.raw c) s .nrm s') (h : runDef P R RB H k fn args bs = some c) : PureCall P f args bs c := by
  unfold runDef at h
  split at h
  · rename_i code l hb hres
    cases hds : dfs code with
    | mk ds rest =>
      rw [hds] at h
      simp only at h
      split at h
      · rename_i cc hcc
        split at h
        · rename_i hg
          simp only [Bool.and_eq_true, Bool.not_eq_true'] at hg
          obtain ⟨⟨h1, h3⟩, h4⟩ := hg
          split at h
          · rename_i s hs
            split at h
            · rename_i lb st' hs0 hst'
              have hrun := runC_sound (np := 1) hmix hR (hH 1) k _ _ cc _ _ _ hs trivial
              have hres' : mapO (compR P) fn.results.toList = some [] := by rw [hres]; rfl
              refine ⟨⟨fn, hf, by rw [hb]; rfl, h3⟩, fun w γ aas ls vals hst hX hargs => ?_⟩
              obtain ⟨v, vs, rfl, hv, hvs⟩ := hargs.cons_inv
              cases hvs.nil_inv
              refine calls_of_wp_defers hf hb ?_
              have hR0 := rel_start (n := 1 + (fn.ntmps - 1)) (bs := [.box l]) (nt := fn.ntmps) hst hX hargs rfl rfl
              have hv0 : (([v].toArray ++ Array.replicate (fn.ntmps - [v].toArray.size) undef) : Array Value).getD 0 undef = v := by simp [Array.getD_eq_getD_getElem?, Array.getElem?_append]
              have hsz : (([v].toArray ++ Array.replicate (fn.ntmps - [v].toArray.size) undef) : Array Value).size = 1 + (fn.ntmps - 1) := by simp
              refine dfs_wp code ds rest _ w hds hv0 (fun x hx => by rw [hsz]; exact okDf_ok h4 x hx) fun a' g1 g2 g3 => ?_
              simp only [List.append_nil] at g3
              have hRa : Rel ⟨w.heap.size, aas, ls, 1, γ, a'.defers⟩ w γ.own a' w (St (1 + (fn.ntmps - 1)) (argF 0 [.pt 0 0 0]) (boxF 0 [.box l])) γ := by
                refine ⟨by rw [g1, hsz]; rfl, rfl, fun t p hp => ?_, RepSt.df hR0.st, hR0.keeps, hR0.lo, hR0.own, hR0.asLt, hR0.par, hR0.mayP, hR0.fx⟩
                obtain ⟨q1, q2⟩ := hR0.fr t p hp
                refine ⟨q1, ?_⟩
                obtain ⟨_, hh⟩ := argF_get _ _ _ _ hp
                have ht : t = 0 := by
                  rcases Nat.eq_zero_or_pos t with h | h
                  · exact h
                  · rw [List.getElem?_eq_none (by simp; omega)] at hh; cases hh
                subst ht
                simp only [hv0] at q2
                rw [g2]; exact q2.df
              have hQ : ∀ lv t, (lv = Lv.nrm ∧ t = s) → t.ok := fun lv t ⟨_, e⟩ => by rw [e]; exact hrun.1
              refine wp_mono (hrun.2 hQ rest (by rw [C.uncut_er cc h1]; exact hcc) _ w γ.own a' w γ rfl hRa) ?_
              rintro e a2 w2 ⟨lv, s2, γ2, he, ⟨rfl, rfl⟩, hR2⟩
              cases e with
              | normal =>
                show Leaves P fn a2.tmps _ a2.defers .returning w2
                rw [hR2.defers, g3]
                have hv2 : Rep ⟨w.heap.size, aas, ls, 1, γ, a'.defers⟩ γ2 w2 (.pt 0 0 0) v := by
                  obtain ⟨ge, b, hge, hgb, hve⟩ := pt_inv hv
                  rw [hve]
                  have hp := hR2.par 0 (show 0 < 1 by omega)
                  rw [hs0] at hp
                  have this : γ2 0 = γ 0 := hp
                  exact .pt 0 0 0 ge b (by rw [this]; exact hge) hgb
                have hl := leaves_run (fn := fn) (tmps := a2.tmps) (R := fun e w' => ∃ v γ', e = .returned v ∧ Rep ⟨w.heap.size, aas, ls, nbx [SE.box l], γ, []⟩ γ' w' c.val v ∧ RepSt ⟨w.heap.size, aas, ls, nbx [SE.box l], γ, []⟩ γ' w' (resSt c) ∧
                  Keeps γ.own w w' ∧ (∀ r, r < parN [SE.box l] c → ParR (γ' r) (γ r) (resSt c r)) ∧ (∀ r ge b, γ' r = some ge → ge.has b → w.heap.size ≤ b ∨ (nbx [SE.box l] = 0 ∧ γ.own b) ∨ ∃ ge0, γ r = some ge0 ∧ ge0.has b)) hRB (ds.reverse.map (·.2)) a2 w2 s2 γ2 st' hR2 hv2 hst' (fun w3 γ3 hR3 => by
                    obtain ⟨u, k1, v', γ', k2, k3, k4, k5⟩ := res_key (bs := [SE.box l]) hres' hR3 (runEnd_ok (show 1 ≤ newBase by unfold newBase; omega) h)
                    exact ⟨u, k1, v', γ', k2, k3.df, RepSt.df k4, k5⟩)
                have hm : (ds.reverse.map fun x => (⟨.fn (.func x.2) #[], #[v]⟩ : Deferred)) = (ds.reverse.map (·.2)).map fun F => ⟨.fn (.func F) #[], #[v]⟩ := by rw [List.map_map]; rfl
                rw [hm]
                exact hl
              | exit id => obtain ⟨hb, hh⟩ := lvOf_exit he; cases hh
              | goto l => cases he
              | ret => cases he
              | panic ch => cases he
              | outgrown => cases he
            · cases h
          · cases h
        · cases h
      · cases h
  · cases h
def runB (P : Program) (R : Orc) (H : Code → PS → Option PS) (k : Nat) : Orc := fun f args bs => match P.funcs[f]? with
  | some fn => runBody P R H k fn args bs
  | none => none
def hasDf (fn : Func) : Bool := match fn.body with
  | some c => match (dfs c).1 with
    | [] => false
    | _ => true
  | none => false
def runF (P : Program) (O : Orc → Orc) (H : Code → PS → Option PS) (k : Nat) : Nat → Orc
  | 0, _, _, _ => none
  | d + 1, f, args, bs => match O (runF P O H k d) f args bs with
    | some c => some c
    | none => match P.funcs[f]? with
      | some fn => match hasDf fn with
        | true => runDef P (runF P O H k d) (runB P (runF P O H k d) H k) H k fn args bs
        | false => runBody P (runF P O H k d) H k fn args bs
      | none => none
theorem runB_ok (hmix : P.follows .mixedOrders = true) {R : Orc} {H : Code → PS → Option PS} {k : Nat} (hR : OrcOK P R) (hH : ∀ np c s s', H c s = some s' → Runs P false np (.raw c) s .nrm s') :
    ∀ f args bs c, runB P R H k f args bs = some c → PureBody P f args bs c := fun f args bs c h => by
  unfold runB at h
  split at h
  · rename_i fn hfn
    exact runBody_ok hmix hfn hR hH h
  · cases h
theorem runF_ok (hmix : P.follows .mixedOrders = true) {O : Orc → Orc} {H : Code → PS → Option PS} {k : Nat} (hO : ∀ R, OrcOK P R → OrcOK P (O R))
    (hH : ∀ np c s s', H c s = some s' → Runs P false np (.raw c) s .nrm s') : ∀ d, OrcOK P (runF P O H k d)
  | 0 => fun f args bs c h => by simp [runF] at h
  | d + 1 => fun f args bs c h => by
    have ih := runF_ok (k := k) hmix hO hH d
    simp only [runF] at h
    split at h
    · rename_i c' hc
      injection h with h; subst h
      exact hO _ ih _ _ _ _ hc
    · split at h
      · rename_i fn hfn
        split at h
        · exact runDef_ok hmix hfn ih (runB_ok hmix ih hH) hH h
        · exact (runBody_ok hmix hfn ih hH h).call
      · cases h
end
end Pv
end Go.Proofs.YtdcgnfkkklbckaaGreatDoor
/- TOP: awake, run on known values. -/
set_option linter.unusedSimpArgs false
set_option linter.unusedVariables false
namespace Go.Proofs.YtdcgnfkkklbckaaGreatDoor
namespace Pv
def awT : List UInt8 := [114, 97, 110, 107, 32, 49, 32, 109, 111, 115, 116, 32, 51, 48, 10, 114, 97, 110, 107, 32, 50, 32, 108, 101, 97, 115, 116, 32, 53, 48, 10]
def awL : List Cd := [⟨1, 2, 30, 0, 364, 0, 16777216⟩, ⟨2, 1, 50, 0, 364, 0, 16777216⟩]
theorem awake_text : parseG awT = (awL, 0, 0) := by decide +kernel
theorem aw_choose : relF (choL awL 0 150 0 0 1073741824) 90 = 30 ∧ (choL awL 0 150 0 0 1073741824).lo = 0 ∧ (choL awL 0 150 0 0 1073741824).hi = 30 ∧ (choL awL 0 150 0 0 1073741824).ys = [(1, 0)] := by decide +kernel
def numsI : List PV → Option (List Int)
  | [] => some []
  | .int .i64 n :: l => match numsI l with
    | some r => some (n :: r)
    | none => none
  | _ => none
theorem numsI_ok : ∀ {l : List PV} {r : List Int}, numsI l = some r → l = r.map fun n => .int .i64 n
  | [], r, h => by simp [numsI] at h; subst h; rfl
  | p :: l, r, h => by
    unfold numsI at h
    split at h
    · rename_i e; cases e
    · rename_i n l' e
      injection e with e1 e2
      subst e1; subst e2
      split at h
      · rename_i r' hr
        injection h with h; subst h
        rw [numsI_ok hr]; rfl
      · cases h
    · cases h
def awO : Orc → Orc := fun _ f args bs => match f, args, bs with
  | 19, [.str s], [] => if s = awT then some ⟨.tup [.sl 0 7 2 (fl eCd awL), .int .i64 0, .int .i64 0], [], []⟩ else none
  | 22, [.sl 1 7 2 g, .int .i64 d, .int .i64 v, .int .i64 b, .agg [.int .i64 lo, .int .i64 hi], .int .i64 w], [] =>
    if (numsI (g 0) = some [1, 2, 30, 0, 364, 0, 16777216] ∧ numsI (g 1) = some [2, 1, 50, 0, 364, 0, 16777216]) ∧ (d = 0 ∧ v = 150 ∧ b = 0 ∧ lo = 0 ∧ hi = 1073741824 ∧ w = 90) then
      some ⟨.tup [.agg [.int .i64 30, .int .i64 0, .int .i64 30, .sl 0 2 1 (fl eYd [(1, 0)])], .int .i64 0], [], []⟩ else none
  | _, _, _ => none
theorem awO_ok (R : Orc) : OrcOK Tryz.prog (awO R) := fun f args bs c h => by
  unfold awO at h
  split at h
  · split at h
    · rename_i hs
      injection h with h; subst h; subst hs
      have := call19 awT (by decide)
      rw [awake_text] at this
      exact this
    · cases h
  · split at h
    · rename_i g d v b lo hi w hs
      injection h with h; subst h
      obtain ⟨⟨h0, h1⟩, rfl, rfl, rfl, rfl, rfl, rfl⟩ := hs
      obtain ⟨c1, c2, c3, c4⟩ := aw_choose
      have := call22 awL 0 150 0 0 1073741824 90 (by decide) (by decide +kernel) (by decide) (by decide) (by decide) (by decide) (by decide) (by decide) (by decide)
      rw [c1, c2, c3, c4] at this
      refine PureCall.arg_le this rfl ?_
      have hr : RowEq 2 g (fl eCd awL) := fun i hi => by
        match i, hi with
        | 0, _ => rw [numsI_ok h0]; rfl
        | 1, _ => rw [numsI_ok h1]; rfl
      exact ent
    · cases h
  · cases h
def awH : Code → PS → Option PS := fun _ _ => none
end Pv
end Go.Proofs.YtdcgnfkkklbckaaGreatDoor
/- TOP: awake, run on known values. -/
set_option linter.unusedSimpArgs false
set_option linter.unusedVariables false
namespace Go.Proofs.YtdcgnfkkklbckaaGreatDoor
namespace Pv
theorem call16 : PureCall Tryz.prog 16 [] [] ⟨.bool true, [], []⟩ := by
  have h : runF Tryz.prog awO awH 1000 20 16 [] [] = some ⟨.bool true, [], []⟩ := by kernel_rfl
  exact runF_ok mix (fun R _ => awO_ok R) (fun _ _ _ _ h => by cases h) 20 16 [] [] _ h
end Pv
end Go.Proofs.YtdcgnfkkklbckaaGreatDoor
/- (*strings.Builder).String OF A BUILDER THAT HOLDS NOTHING: the empty text. -/
set_option linter.unusedSimpArgs false
set_option linter.unusedVariables false
namespace Go.Proofs.YtdcgnfkkklbckaaGreatDoor
namespace Pv
open Go.RowKit Go.Shelf
variable {P : Program} {ρ : Ren}
theorem Held.drew {T e : TypeId} {b : Nat} {p v : Value} {s : List UInt8} {w : World} (h : Held T e b p v s w) : Held T e b p v s w.drew := ⟨h.cells, h.own, h.ne⟩
theorem Held.alloc0 {T e : TypeId} {b : Nat} {p v : Value} {s : List UInt8} {w : World} (h : Held T e b p v s w) (o : Obj) : Held T e b p v s (w.alloc o) := by
  refine ⟨(Lib.alloc_old w o b h.lt).trans h.cells, ?_, h.ne⟩
  obtain ⟨hl, ho⟩ := h.own
  refine ⟨hl, ?_⟩
  rcases ho with ho | ⟨g, cap, cur, fz, hv, h0, hg, rest⟩
  · exact .inl ho
  · exact .inr ⟨g, cap, cur, fz, hv, h0, (Lib.alloc_old w o g (Array.getElem?_eq_some_iff.1 hg).1).trans hg, rest⟩
set_option maxHeartbeats 2000000 in
set_option maxRecDepth 100000 in
theorem held_nil (L : Lays.n169 P ρ) (X : Builder.Extra P ρ) {b : Nat} {p : Value} {w : World} (h : Held (ρ.t 72) (ρ.t 5) b p (.slice none 0 0) [] w) :
    Calls P (ρ.f 169) #[.pointer (some ⟨b, 0, none⟩)] w fun e w' => e = .returned (.string ⟨[].toArray⟩) ∧ Held (ρ.t 72) (ρ.t 5) b p (.slice none 0 0) [] w' ∧ Keeps (fun k => k = b ∨ (Value.slice none 0 0).ownBlock = some k) w w' := by
  have hUS := Any.unsafeString_none L X
  have c1 : w.drew.cell? ⟨b, 1, none⟩ = some (.slice none 0 0) := by
    have : w.drew.heap[b]? = some (.cells #[p, .slice none 0 0] (ρ.t 72) (0, 0)) := h.cells
    rw [Lib.cell_of_heap this]; rfl
  have hSD : (Builtin.unsafeSliceData_ #[(ρ.t 37)] (ρ.t 127) #[.slice none 0 0]).run P w.drew = .ok (.pointer none) w.drew := rfl
  have mixed := L.mixed
  have t72 := L.t72; have a72 := L.a72; have z72 := L.z72; have v72 := L.v72; have u72 := run_underlying L.t72
  have t70 := L.t70; have a70 := L.a70; have z70 := L.z70; have v70 := L.v70; have u70 := run_underlying L.t70
  have t37 := L.t37; have a37 := L.a37; have z37 := L.z37; have v37 := L.v37; have u37 := run_underlying L.t37
  have t127 := L.t127; have a127 := L.a127; have z127 := L.z127; have v127 := L.v127; have u127 := run_underlying L.t127
  have t3 := L.t3; have a3 := L.a3; have z3 := L.z3; have v3 := L.v3; have u3 := run_underlying L.t3
  have t9 := L.t9; have a9 := L.a9; have z9 := L.z9; have v9 := L.v9; have u9 := run_underlying L.t9
  have t5 := X.t5; have a5 := X.a5; have z5 := X.z5; have v5 := X.v5; have u5 := run_underlying X.t5
  go_enter L.f169, Body.n169_ntmps ρ
  go_wp2
  go_region_o
  all_goals (go_wp2; go_ret; exact ⟨rfl, h.drew, Keeps.drew _ w⟩)
set_option maxHeartbeats 2000000 in
set_option maxRecDepth 100000 in
theorem held_noroom (L : Lays.n169 P ρ) (X : Builder.Extra P ρ) {b g : Nat} {p : Value} {cur : Array Value} {fz : Nat × Nat} {w : World} (h : Held (ρ.t 72) (ρ.t 5) b p (.slice (some ⟨g, 0, none⟩) 0 0) [] w) (hg : w.heap[g]? = some (.cells cur (ρ.t 5) fz)) :
    Calls P (ρ.f 169) #[.pointer (some ⟨b, 0, none⟩)] w fun e w' => e = .returned (.string ⟨[].toArray⟩) ∧ Held (ρ.t 72) (ρ.t 5) b p (.slice (some ⟨g, 0, none⟩) 0 0) [] w' ∧ Keeps (fun k => k = b ∨ (Value.slice (some ⟨g, 0, none⟩) 0 0).ownBlock = some k) w w' := by
  have hUS := Any.unsafeString_none L X
  have hlt := h.lt
  have c1 : w.drew.cell? ⟨b, 1, none⟩ = some (.slice (some ⟨g, 0, none⟩) 0 0) := by
    have : w.drew.heap[b]? = some (.cells #[p, .slice (some ⟨g, 0, none⟩) 0 0] (ρ.t 72) (0, 0)) := h.cells
    rw [Lib.cell_of_heap this]; rfl
  have hSD : (Builtin.unsafeSliceData_ #[(ρ.t 37)] (ρ.t 127) #[.slice (some ⟨g, 0, none⟩) 0 0]).run P w.drew = .ok (.pointer (some ⟨w.drew.heap.size, 0, none⟩)) (w.drew.alloc (.view ⟨g, 0, none⟩ (ρ.t 5))) :=
    Lib.run_unsafeSliceData_zero w.drew _ _ (ρ.t 5) L.t127 ⟨g, 0, none⟩ 0 ((ρ.t 5), cur.size) (by have hg' : w.drew.heap[g]? = some (.cells cur (ρ.t 5) fz) := hg; simp [World.shape?, hg'])
  have c2 : (w.drew.alloc (.view ⟨g, 0, none⟩ (ρ.t 5))).cell? ⟨b, 1, none⟩ = some (.slice (some ⟨g, 0, none⟩) 0 0) := by
    have : (w.drew.alloc (.view ⟨g, 0, none⟩ (ρ.t 5))).heap[b]? = _ := (Lib.alloc_old w.drew _ b hlt).trans h.cells
    rw [Lib.cell_of_heap this]; rfl
  have c3 : (w.alloc (.view ⟨g, 0, none⟩ (ρ.t 5))).drew.cell? ⟨b, 1, none⟩ = some (.slice (some ⟨g, 0, none⟩) 0 0) := c2
  have c0 : w.cell? ⟨b, 1, none⟩ = some (.slice (some ⟨g, 0, none⟩) 0 0) := c1
  have mixed := L.mixed
  have t72 := L.t72; have a72 := L.a72; have z72 := L.z72; have v72 := L.v72; have u72 := run_underlying L.t72
  have t70 := L.t70; have a70 := L.a70; have z70 := L.z70; have v70 := L.v70; have u70 := run_underlying L.t70
  have t37 := L.t37; have a37 := L.a37; have z37 := L.z37; have v37 := L.v37; have u37 := run_underlying L.t37
  have t127 := L.t127; have a127 := L.a127; have z127 := L.z127; have v127 := L.v127; have u127 := run_underlying L.t127
  have t3 := L.t3; have a3 := L.a3; have z3 := L.z3; have v3 := L.v3; have u3 := run_underlying L.t3
  have t9 := L.t9; have a9 := L.a9; have z9 := L.z9; have v9 := L.v9; have u9 := run_underlying L.t9
  have t5 := X.t5; have a5 := X.a5; have z5 := X.z5; have v5 := X.v5; have u5 := run_underlying X.t5
  go_enter L.f169, Body.n169_ntmps ρ
  go_wp2
  go_region_o
  all_goals (go_wp2; go_ret; exact ⟨rfl, h.drew.alloc0 _, (Keeps.drew _ w).trans (Keeps.alloc _ w.drew _)⟩)
set_option maxHeartbeats 2000000 in
set_option maxRecDepth 100000 in
theorem held_room (L : Lays.n169 P ρ) (X : Builder.Extra P ρ) {b g cap : Nat} {p : Value} {w : World} (hc0 : cap ≠ 0) (h : Held (ρ.t 72) (ρ.t 5) b p (.slice (some ⟨g, 0, none⟩) 0 cap) [] w) :
    Calls P (ρ.f 169) #[.pointer (some ⟨b, 0, none⟩)] w fun e w' => e = .returned (.string ⟨[].toArray⟩) ∧ Held (ρ.t 72) (ρ.t 5) b p (.slice (some ⟨g, 0, none⟩) 0 cap) [] w' ∧ Keeps (fun k => k = b ∨ (Value.slice (some ⟨g, 0, none⟩) 0 cap).ownBlock = some k) w w' := by
  have hUS := Any.unsafeString_none L X
  have c1 : w.drew.cell? ⟨b, 1, none⟩ = some (.slice (some ⟨g, 0, none⟩) 0 cap) := by
    have : w.drew.heap[b]? = some (.cells #[p, .slice (some ⟨g, 0, none⟩) 0 cap] (ρ.t 72) (0, 0)) := h.cells
    rw [Lib.cell_of_heap this]; rfl
  have hSD : (Builtin.unsafeSliceData_ #[(ρ.t 37)] (ρ.t 127) #[.slice (some ⟨g, 0, none⟩) 0 cap]).run P w.drew = .ok (.pointer (some ⟨g, 0, none⟩)) w.drew :=
    Lib.run_unsafeSliceData_row _ _ _ _ _ _ hc0
  clear hc0
  have mixed := L.mixed
  have t72 := L.t72; have a72 := L.a72; have z72 := L.z72; have v72 := L.v72; have u72 := run_underlying L.t72
  have t70 := L.t70; have a70 := L.a70; have z70 := L.z70; have v70 := L.v70; have u70 := run_underlying L.t70
  have t37 := L.t37; have a37 := L.a37; have z37 := L.z37; have v37 := L.v37; have u37 := run_underlying L.t37
  have t127 := L.t127; have a127 := L.a127; have z127 := L.z127; have v127 := L.v127; have u127 := run_underlying L.t127
  have t3 := L.t3; have a3 := L.a3; have z3 := L.z3; have v3 := L.v3; have u3 := run_underlying L.t3
  have t9 := L.t9; have a9 := L.a9; have z9 := L.z9; have v9 := L.v9; have u9 := run_underlying L.t9
  have t5 := X.t5; have a5 := X.a5; have z5 := X.z5; have v5 := X.v5; have u5 := run_underlying X.t5
  go_enter L.f169, Body.n169_ntmps ρ
  go_wp2
  go_region_o
  all_goals (go_wp2; go_ret; exact ⟨rfl, h.drew, Keeps.drew _ w⟩)
theorem held_empty (L : Lays.n169 P ρ) (X : Builder.Extra P ρ) {b : Nat} {p v : Value} {w : World} (h : Held (ρ.t 72) (ρ.t 5) b p v [] w) :
    Calls P (ρ.f 169) #[.pointer (some ⟨b, 0, none⟩)] w fun e w' => e = .returned (.string ⟨[].toArray⟩) ∧ Held (ρ.t 72) (ρ.t 5) b p v [] w' ∧ Keeps (fun k => k = b ∨ v.ownBlock = some k) w w' := by
  rcases h.own.2 with ⟨rfl, _⟩ | ⟨g, cap, cur, fz, rfl, _, hg, _⟩
  · exact held_nil L X h
  · by_cases hc0 : cap = 0
    · subst hc0; exact held_noroom L X h hg
    · exact held_room L X hc0 h
end Pv
namespace Pv
theorem call67z (s : List UInt8) : PureCall Tryz.prog 67 [.pt 0 0 0] [.bld 169 5 s] ⟨.str s, [.bld 169 5 s], []⟩ := by
  cases s with
  | nil => exact pure_bld ⟨_, Tryz.func67, rfl, rfl⟩ args_nil (fun _ _ _ => .str []) fun w b p v hp hH =>
    (held_empty Sh.lays169 Sh.bX_169 hH).mono fun ev w' ⟨he, h1, h2⟩ => ⟨he, p, v, hp, h1, h2, fun g hg => .inl hg⟩
  | cons x r => exact call67 (x :: r) (by simp)
end Pv
end Go.Proofs.YtdcgnfkkklbckaaGreatDoor
/- LAW 13, THE WALKS: conditions as text. -/
set_option linter.unusedSimpArgs false
set_option linter.unusedVariables false
namespace Go.Proofs.YtdcgnfkkklbckaaGreatDoor
namespace Pv
def c63L1 : C := (.seq (.reg [⟨(some 12), 192, none, .bi false .lss (.t 11) (.t 10)⟩])
  (.seq (.cond (.t 12) .skip (.exit 0))
  (.seq (.block 1 (.seq (.reg [⟨(some 13), 208, none, .ia 1 (.t 9) (.t 11)⟩,
    ⟨(some 14), 224, none, .ld 1 false (.t 13)⟩,
    ⟨(some 6), 96, none, .mv (.t 14)⟩])
  (.reg [⟨(some 15), 240, none, .mv (.t 6)⟩,
    ⟨(some 16), 256, none, .call (.c (.fn (.func 65) [] [])) [(.t 15)]⟩,
    ⟨(some 17), 272, none, .bi false .add (.c (.str [32])) (.t 16)⟩,
    ⟨(some 18), 288, none, .call (.c (.fn (.func 64) [] [])) [(.t 2), (.t 17)]⟩])))
  (.reg [⟨(some 19), 304, none, .bi false .add (.t 11) (.c (.int .i64 1))⟩,
    ⟨(some 11), 176, none, .mv (.t 19)⟩]))))
def c63 : C := (.seq (.reg [⟨(some 7), 112, none, .mv (.t 0)⟩,
    ⟨(some 8), 128, none, .call (.c (.fn (.func 64) [] [])) [(.t 2), (.t 7)]⟩])
  (.seq (.reg [⟨(some 9), 144, none, .mv (.t 1)⟩,
    ⟨(some 10), 160, none, .len (.t 9)⟩,
    ⟨(some 11), 176, none, .mv (.c (.int .i64 0))⟩])
  (.block 0 (.loop c63L1))))
theorem fits63 : fits Tryz.prog false Tryz.f63 3 20 [] = some c63.er := by kernel_rfl
def c18L1 : C := (.seq (.reg [⟨(some 18), 288, none, .bi false .lss (.t 17) (.t 16)⟩])
  (.seq (.cond (.t 18) .skip (.exit 0))
  (.seq (.block 1 (.seq (.reg [⟨(some 19), 304, none, .ia 7 (.t 15) (.t 17)⟩,
    ⟨(some 20), 320, none, .ld 7 true (.t 19)⟩,
    ⟨(some 8), 128, none, .al [(.int .i64 0), (.int .i64 0), (.int .i64 0), (.int .i64 0), (.int .i64 0), (.int .i64 0), (.int .i64 0)]⟩,
    ⟨none, 0, none, .st 7 (.t 8) (.t 20)⟩])
  (.seq (.reg [⟨(some 21), 336, none, .mv (.t 6)⟩,
    ⟨(some 22), 352, none, .fa 0 (.t 8)⟩,
    ⟨(some 23), 368, none, .ld 1 false (.t 22)⟩,
    ⟨(some 24), 384, none, .bs 3 1 [(.t 23)]⟩,
    ⟨(some 25), 400, none, .call (.t 21) [(.c (.str [114, 97, 110, 107])), (.t 24)]⟩])
  (.cut (.seq (.drw [⟨(some 26), 416, none, .mv (.t 6)⟩,
    ⟨(some 27), 432, none, .fa 1 (.t 8)⟩,
    ⟨(some 28), 448, none, .ld 1 false (.t 27)⟩,
    ⟨(some 29), 464, none, .iaa 5 1 (.c (.rp 1 [(.str []), (.str [108, 101, 97, 115, 116]), (.str [109, 111, 115, 116]), (.str [117, 112]), (.str [100, 111, 119, 110])])) (.t 28)⟩,
    ⟨(some 30), 480, none, .ld 1 false (.t 29)⟩,
    ⟨(some 31), 496, none, .bi false .add (.c (.str [32])) (.t 30)⟩,
    ⟨(some 32), 512, none, .fa 2 (.t 8)⟩,
    ⟨(some 33), 528, none, .ld 1 false (.t 32)⟩,
    ⟨(some 34), 544, none, .bs 3 1 [(.t 33)]⟩,
    ⟨(some 35), 560, none, .call (.t 26) [(.t 31), (.t 34)]⟩]
    [(0, 1, 26), (0, 2, 26), (0, 3, 26), (0, 4, 26), (0, 5, 26), (0, 6, 26), (0, 7, 26), (0, 8, 26), (1, 6, 27), (1, 7, 27), (1, 8, 27), (2, 6, 28), (2, 7, 28), (2, 8, 28), (3, 6, 29), (3, 7, 29), (3, 8, 29), (4, 6, 30), (4, 7, 30), (4, 8, 30), (5, 6, 31), (5, 7, 31), (5, 8, 31)])
  (.cut (.seq (.seq (.reg [⟨(some 36), 576, none, .fa 3 (.t 8)⟩,
    ⟨(some 37), 592, none, .ld 2 true (.t 36)⟩,
    ⟨(some 38), 608, none, .bd [(.int .i64 0), (.int .i64 0)] [(1, 1, (.c (.int .i64 364)))]⟩,
    ⟨(some 39), 624, none, .eqa true [0, 0] (.t 37) (.t 38)⟩])
  (.cond (.t 39) (.reg [⟨(some 40), 640, none, .mv (.t 6)⟩,
    ⟨(some 41), 656, none, .fa 3 (.t 8)⟩,
    ⟨(some 42), 672, none, .fa 0 (.t 41)⟩,
    ⟨(some 43), 688, none, .ld 1 false (.t 42)⟩,
    ⟨(some 44), 704, none, .fa 3 (.t 8)⟩,
    ⟨(some 45), 720, none, .fa 1 (.t 44)⟩,
    ⟨(some 46), 736, none, .ld 1 false (.t 45)⟩,
    ⟨(some 47), 752, none, .bs 3 1 [(.t 43), (.t 46)]⟩,
    ⟨(some 48), 768, none, .call (.t 40) [(.c (.str [32, 100, 97, 121, 115])), (.t 47)]⟩]) .skip))
  (.cut (.seq (.seq (.reg [⟨(some 49), 784, none, .fa 5 (.t 8)⟩,
    ⟨(some 50), 800, none, .ld 1 false (.t 49)⟩,
    ⟨(some 51), 816, none, .bi false .neq (.t 50) (.c (.int .i64 0))⟩])
  (.cond (.t 51) (.reg [⟨(some 52), 832, none, .mv (.t 6)⟩,
    ⟨(some 53), 848, none, .fa 5 (.t 8)⟩,
    ⟨(some 54), 864, none, .ld 1 false (.t 53)⟩,
    ⟨(some 55), 880, none, .bs 3 1 [(.t 54)]⟩,
    ⟨(some 56), 896, none, .call (.t 52) [(.c (.str [32, 97, 98, 111, 118, 101])), (.t 55)]⟩]) .skip))
  (.cut (.seq (.seq (.reg [⟨(some 57), 912, none, .fa 6 (.t 8)⟩,
    ⟨(some 58), 928, none, .ld 1 false (.t 57)⟩,
    ⟨(some 59), 944, none, .bi false .neq (.t 58) (.c (.int .i64 16777216))⟩])
  (.cond (.t 59) (.reg [⟨(some 60), 960, none, .mv (.t 6)⟩,
    ⟨(some 61), 976, none, .fa 6 (.t 8)⟩,
    ⟨(some 62), 992, none, .ld 1 false (.t 61)⟩,
    ⟨(some 63), 1008, none, .bs 3 1 [(.t 62)]⟩,
    ⟨(some 64), 1024, none, .call (.t 60) [(.c (.str [32, 98, 101, 108, 111, 119])), (.t 63)]⟩]) .skip))
  (.reg [⟨(some 65), 1040, none, .call (.c (.fn (.func 66) [] [])) [(.t 5), (.c (.int .u8 10))]⟩]))))))))))))
  (.reg [⟨(some 66), 1056, none, .bi false .add (.t 17) (.c (.int .i64 1))⟩,
    ⟨(some 17), 272, none, .mv (.t 66)⟩]))))
def c18 : C := (.seq (.reg [⟨(some 2), 32, none, .mv (.c (.str []))⟩,
    ⟨(some 3), 48, none, .mv (.c (.int .i64 0))⟩])
  (.seq (.seq (.reg [⟨(some 9), 144, none, .mv (.t 0)⟩,
    ⟨(some 10), 160, none, .call (.c (.fn (.func 62) [] [])) [(.t 9)]⟩,
    ⟨(some 4), 64, none, .mv (.t 10)⟩])
  (.seq (.reg [⟨(some 11), 176, none, .mv (.t 4)⟩,
    ⟨(some 12), 192, none, .bi false .neq (.t 11) (.c (.int .i64 0))⟩])
  (.cond (.t 12) (.seq (.reg [⟨(some 13), 208, none, .mv (.t 4)⟩,
    ⟨(some 2), 32, none, .mv (.c (.str []))⟩,
    ⟨(some 3), 48, none, .mv (.t 13)⟩])
  .ret) .skip)))
  (.seq (.reg [⟨(some 5), 80, none, .alb 169 5⟩])
  (.seq (.reg [⟨(some 14), 224, none, .mf (.func 63) [] [(.t 5)]⟩,
    ⟨(some 6), 96, none, .mv (.t 14)⟩])
  (.seq (.seq (.reg [⟨(some 15), 240, none, .mv (.t 0)⟩,
    ⟨(some 16), 256, none, .len (.t 15)⟩,
    ⟨(some 17), 272, none, .mv (.c (.int .i64 0))⟩])
  (.block 0 (.loop c18L1)))
  (.seq (.reg [⟨(some 67), 1072, none, .call (.c (.fn (.func 67) [] [])) [(.t 5)]⟩,
    ⟨(some 2), 32, none, .mv (.t 67)⟩,
    ⟨(some 3), 48, none, .mv (.c (.int .i64 0))⟩])
  .ret))))))
theorem fits18 : fits Tryz.prog false Tryz.f18 1 68 [(2, none), (3, none)] = some c18.er := by kernel_rfl
def putT (w : List UInt8) (l : List Int) : List UInt8 := w ++ l.flatMap fun n => 32 :: Lib.itoa n
theorem putT_take {w : List UInt8} {l : List Int} {i : Nat} (h : i < l.length) : putT w (l.take (i + 1)) = putT w (l.take i) ++ (32 :: Lib.itoa (l.getD i default)) := by
  have : l.take (i + 1) = l.take i ++ [l.getD i default] := by rw [List.take_add_one, getD_some h]; rfl
  rw [this]; simp [putT]
def r64 (n : Int) : Prop := -9223372036854775808 ≤ n ∧ n ≤ 9223372036854775807
theorem putT_len (w : List UInt8) : ∀ (l : List Int), (∀ n ∈ l, r64 n) → (putT w l).length ≤ w.length + 22 * l.length
  | [], _ => by simp [putT]
  | n :: l, h => by
    have ih := putT_len w l fun m hm => h m (List.mem_cons_of_mem _ hm)
    have h1 := h n (List.mem_cons_self ..)
    have h2 := Lib.itoa_length_le n h1.1 h1.2
    simp only [putT, List.flatMap_cons, List.length_append, List.length_cons] at ih ⊢
    omega
set_option maxRecDepth 100000 in
theorem call63 (w : List UInt8) (l : List Int) (s : List UInt8) (hs : s.length ≤ 1000000000) (hw : w.length ≤ 100) (hl : l.length ≤ 4) (hr : ∀ n ∈ l, r64 n) :
    PureCall Tryz.prog 63 [.str w, .sl 2 1 l.length (fl eInt l), .pt 0 0 0] [.bld 169 5 s] ⟨.tup [], [.bld 169 5 (s ++ putT w l)], []⟩ := by
  refine pure_call mix Tryz.func63 fits63 rfl ?_
  conv => whnf
  refine ⟨_, fun _ => call64 s w (by omega), ?_⟩
  conv => whnf
  refine ⟨?_, ?_⟩
  · exact g0
  refine LSem.loop (n := 20) mix (α := Nat) (fun i => i ≤ l.length)
    (fun i => [(2, .pt 0 0 0), (9, .sl 2 1 l.length (fl eInt l)), (10, .int .i64 l.length), (11, .int .i64 i)])
    (fun i => [(0, .bld 169 5 (s ++ putT w (l.take i)))]) (fun i => l.length - i) 0 ?_ ?_ ?_
  · exact Nat.zero_le _
  · have q : s ++ w = s ++ putT w (l.take 0) := by simp [putT]
    refine ⟨rfl, rfl, ?_, ?_⟩ <;> exact ent
  · intro i hi
    have hj : ((i : Int)).toNat = i := by omega
    conv => whnf
    refine ⟨trivial, fun hc => ?_, fun hc => ?_⟩
    · replace hc := of_decide_eq_true hc
      have hlt : i < l.length := by
        have h : (i : Int) < l.length := hc
        omega
      have hn := hr _ (getD_mem hlt)
      have hT := putT_len w (l.take i) fun n hm => hr n (List.mem_of_mem_take hm)
      have hTl : (l.take i).length ≤ l.length := by rw [List.length_take]; omega
      have hst := putT_take (w := w) hlt
      have hx := Lib.itoa_length_le (l.getD i default) hn.1 hn.2
      conv => whnf
      rw [hj]
      generalize l.getD i default = n at hn hst hx ⊢
      refine ⟨_, fun _ => call65 n hn.1 hn.2, ?_⟩
      conv => whnf
      refine ⟨_, fun _ => call64 (s ++ putT w (l.take i)) ([32] ++ Lib.itoa n) (by simp only [List.length_append, List.length_cons, List.length_nil]; omega), ?_⟩
      have q : (s ++ putT w (l.take i)) ++ ([32] ++ Lib.itoa n) = s ++ putT w (l.take (i + 1)) := by rw [hst, List.append_assoc]; rfl
      rw [q]
      conv => whnf
      refine ⟨?_, i + 1, hlt, by omega, rfl, rfl, ?_, ?_⟩
      · exact g1
      · exact ent
      · exact ent
    · replace hc := of_decide_eq_false hc
      have hk : i = l.length := by
        have h : ¬ (i : Int) < l.length := hc
        omega
      subst hk
      rw [List.take_length]
      conv => whnf
      exact retB
theorem call63a (w : List UInt8) (n : Int) (s : List UInt8) (hs : s.length ≤ 1000000000) (hw : w.length ≤ 100) (hr : r64 n) :
    PureCall Tryz.prog 63 [.str w, .sl 2 1 [[PV.int .i64 n]].length (fun i => [[PV.int .i64 n]].getD i []), .pt 0 0 0] [.bld 169 5 s] ⟨.tup [], [.bld 169 5 (s ++ putT w [n])], []⟩ :=
  PureCall.arg_le (call63 w [n] s hs hw (by simp) (by simpa using hr)) rfl ⟨ent, ⟨Nat.le_refl _, rfl, rfl, fun i hi => by match i, hi with | 0, _ => rfl⟩, ent, trivial⟩
theorem call63b (w : List UInt8) (n m : Int) (s : List UInt8) (hs : s.length ≤ 1000000000) (hw : w.length ≤ 100) (hr : r64 n ∧ r64 m) :
    PureCall Tryz.prog 63 [.str w, .sl 2 1 [[PV.int .i64 n], [PV.int .i64 m]].length (fun i => [[PV.int .i64 n], [PV.int .i64 m]].getD i []), .pt 0 0 0] [.bld 169 5 s] ⟨.tup [], [.bld 169 5 (s ++ putT w [n, m])], []⟩ :=
  PureCall.arg_le (call63 w [n, m] s hs hw (by simp) (by simpa using hr)) rfl ⟨ent, ⟨Nat.le_refl _, rfl, rfl, fun i hi => by match i, hi with | 0, _ => rfl | 1, _ => rfl⟩, ent, trivial⟩
def daysT (c : Cd) : List UInt8 := if c.f = 0 ∧ c.u = 364 then [] else putT (32 :: wDays) [c.f, c.u]
def aboveT (c : Cd) : List UInt8 := if c.a = 0 then [] else putT (32 :: wAbove) [c.a]
def belowT (c : Cd) : List UInt8 := if c.b = 16777216 then [] else putT (32 :: wBelow) [c.b]
def headT (c : Cd) : List UInt8 := putT wRank [c.r] ++ putT (32 :: kindW c.k) [c.v]
def lineT (c : Cd) : List UInt8 := headT c ++ (daysT c ++ (aboveT c ++ (belowT c ++ [10])))
def printC (l : List Cd) : List UInt8 := l.flatMap lineT
theorem allC_ok : ∀ {l : List Cd}, allC l = 0 → ∀ c ∈ l, oneC c = 0
  | [], _, c, h => by simp at h
  | x :: l, h, c, hc => by
    unfold allC at h
    split at h
    · rename_i h2; exact absurd h h2
    · rename_i h2
      rcases List.mem_cons.1 hc with rfl | hc
      · exact Classical.not_not.1 h2
      · exact allC_ok h c hc
theorem limC_ok {l : List Cd} (h : limC l = 0) : l.length ≤ 200 ∧ ∀ c ∈ l, oneC c = 0 := by
  unfold limC at h
  split at h
  · cases h
  · exact ⟨by omega, allC_ok h⟩
theorem kindW_len (k : Int) : (kindW k).length ≤ 5 := by
  unfold kindW
  repeat' split
  all_goals decide
theorem parts_len {c : Cd} (h : oneC c = 0) : (headT c).length ≤ 60 ∧ (daysT c).length ≤ 60 ∧ (aboveT c).length ≤ 60 ∧ (belowT c).length ≤ 60 := by
  obtain ⟨h1, h2, h3⟩ := oneC_ok h
  unfold badC at h3
  have hk := kindW_len c.k
  have e1 := putT_len wRank [c.r] (by simp [r64]; omega)
  have e2 := putT_len (32 :: kindW c.k) [c.v] (by simp [r64]; omega)
  have e3 := putT_len (32 :: wDays) [c.f, c.u] (by simp [r64]; omega)
  have e4 := putT_len (32 :: wAbove) [c.a] (by simp [r64]; omega)
  have e5 := putT_len (32 :: wBelow) [c.b] (by simp [r64]; omega)
  have l1 : wRank.length = 4 := rfl
  have l2 : wDays.length = 4 := rfl
  have l3 : wAbove.length = 5 := rfl
  have l4 : wBelow.length = 5 := rfl
  simp only [List.length_cons, List.length_nil] at e1 e2 e3 e4 e5
  refine ⟨?_, ?_, ?_, ?_⟩
  · unfold headT; rw [List.length_append]; omega
  · unfold daysT; split
    · exact Nat.zero_le _
    · omega
  · unfold aboveT; split
    · exact Nat.zero_le _
    · omega
  · unfold belowT; split
    · exact Nat.zero_le _
    · omega
theorem printC_take {l : List Cd} {i : Nat} (h : i < l.length) : printC (l.take (i + 1)) = printC (l.take i) ++ lineT (l.getD i default) := by
  have : l.take (i + 1) = l.take i ++ [l.getD i default] := by rw [List.take_add_one, getD_some h]; rfl
  rw [this]; simp [printC]
theorem lineT_len {c : Cd} (h : oneC c = 0) : (lineT c).length ≤ 250 := by
  obtain ⟨h1, h2, h3, h4⟩ := parts_len h
  simp only [lineT, List.length_append, List.length_cons, List.length_nil]
  omega
theorem printC_len : ∀ {l : List Cd}, (∀ c ∈ l, oneC c = 0) → (printC l).length ≤ 250 * l.length
  | [], _ => Nat.le_refl _
  | c :: l, h => by
    have ih := printC_len (l := l) fun x hx => h x (List.mem_cons_of_mem _ hx)
    have h1 := lineT_len (h c (List.mem_cons_self ..))
    simp only [printC, List.flatMap_cons, List.length_append, List.length_cons] at ih ⊢
    omega
theorem call18_bad (τ : Nat) (l : List Cd) (hb : limC l ≠ 0) : PureCall Tryz.prog 18 [.sl τ 7 l.length (fl eCd l)] [] ⟨.tup [.str [], .int .i64 (limC l)], [], []⟩ := by
  refine pure_call mix Tryz.func18 fits18 rfl ?_
  conv => whnf
  refine ⟨_, fun _ => call62 _ l, ?_⟩
  generalize limC l = e at hb ⊢
  conv => whnf
  refine ⟨?_, fun hc => ?_, fun hc => ?_⟩
  · exact g0
  · conv => whnf
    exact ret
  · exact absurd (by simpa using hc) hb
set_option maxRecDepth 100000 in
set_option maxHeartbeats 8000000 in
theorem call18 (τ : Nat) (l : List Cd) (hb : limC l = 0) : PureCall Tryz.prog 18 [.sl τ 7 l.length (fl eCd l)] [] ⟨.tup [.str (printC l), .int .i64 0], [], []⟩ := by
  obtain ⟨hl2, hV⟩ := limC_ok hb
  refine pure_call mix Tryz.func18 fits18 rfl ?_
  conv => whnf
  refine ⟨_, fun _ => call62 _ l, ?_⟩
  rw [hb]
  conv => whnf
  refine ⟨?_, fun hc => Bool.noConfusion (show false = true from hc), fun hc => ?_⟩
  · exact g0
  conv => whnf
  refine ⟨trivial, ?_⟩
  refine LSem.loop (n := 68) mix (α := Nat) (fun i => i ≤ l.length)
    (fun i => [(5, .pt 80 0 0), (6, .fn (.func 63) [] [.pt 80 0 0]), (15, .sl τ 7 l.length (fl eCd l)), (16, .int .i64 l.length), (17, .int .i64 i)])
    (fun i => [(80, .bld 169 5 (printC (l.take i)))]) (fun i => l.length - i) 0 ?_ ?_ ?_
  · exact Nat.zero_le _
  · refine ⟨rfl, rfl, ?_, ?_⟩ <;> exact ent
  · intro i hi
    have hj : ((i : Int)).toNat = i := by omega
    conv => whnf
    refine ⟨trivial, fun hc => ?_, fun hc => ?_⟩
    · replace hc := of_decide_eq_true hc
      have hlt : i < l.length := by
        have h : (i : Int) < l.length := hc
        omega
      have hpl := printC_len (l := l.take i) fun c hc => hV c (List.mem_of_mem_take hc)
      have hpl2 : (l.take i).length ≤ 200 := by rw [List.length_take]; omega
      have hpt := printC_take hlt
      have hone := hV _ (getD_mem hlt)
      have hpn := parts_len hone
      conv => whnf
      rw [hj]
      generalize l.getD i default = c at hpt hone hpn ⊢
      generalize printC (l.take i) = T at hpl hpt ⊢
      obtain ⟨o1, o2, o3⟩ := oneC_ok hone
      unfold badC at o3
      obtain ⟨p1, p2, p3, p4⟩ := hpn
      refine ⟨_, fun _ => call63a wRank c.r T (by omega) (by decide) (by unfold r64; omega), ?_⟩
      have hT1 : (T ++ putT wRank [c.r]).length ≤ 60000 := by
        have := putT_len wRank [c.r] (by simp [r64]; omega)
        simp only [List.length_append, List.length_cons, List.length_nil] at this ⊢
        have l1 : wRank.length = 4 := rfl
        omega
      conv => whnf
      refine ⟨?_, ?_⟩
      · exact g0
      refine LSem.meet (n := 68) mix (α := Unit) (fun _ => True)
        (fun _ => [(5, .pt 80 0 0), (6, .fn (.func 63) [] [.pt 80 0 0]), (8, .pt 128 0 0), (15, .sl τ 7 l.length (fl eCd l)), (16, .int .i64 l.length), (17, .int .i64 i)])
        (fun _ => [(80, .bld 169 5 (T ++ headT c)), (128, .box (eCd c))]) ?_ ?_
      · have hk : c.k = 1 ∨ c.k = 2 ∨ c.k = 3 ∨ c.k = 4 := by omega
        have key : ∀ K : List UInt8, kindW c.k = K → T ++ putT wRank [c.r] ++ putT ([32] ++ K) [c.v] = T ++ headT c := fun K hK => by rw [← hK, List.append_assoc]; rfl
        have hv : r64 c.v := by unfold r64; omega
        obtain ⟨r, k, v, f, u, a, b⟩ := c
        dsimp only at hk hv hT1
        rcases hk with rfl | rfl | rfl | rfl
        · have q := key wLeast rfl
          conv => whnf
          refine ⟨_, fun _ => call63a ([32] ++ wLeast) v (T ++ putT wRank [r]) (by omega) (by decide) hv, ?_⟩
          rw [q]
          conv => whnf
          refine ⟨rfl, ?_⟩
          conv => whnf
          refine ⟨?_, (), trivial, rfl, rfl, ?_, ?_⟩
          · exact g0
          · exact ent
          · exact ent
        · have q := key wMost rfl
          conv => whnf
          refine ⟨_, fun _ => call63a ([32] ++ wMost) v (T ++ putT wRank [r]) (by omega) (by decide) hv, ?_⟩
          rw [q]
          conv => whnf
          refine ⟨rfl, ?_⟩
          conv => whnf
          refine ⟨?_, (), trivial, rfl, rfl, ?_, ?_⟩
          · exact g0
          · exact ent
          · exact ent
        · have q := key wUp rfl
          conv => whnf
          refine ⟨_, fun _ => call63a ([32] ++ wUp) v (T ++ putT wRank [r]) (by omega) (by decide) hv, ?_⟩
          rw [q]
          conv => whnf
          refine ⟨rfl, ?_⟩
          conv => whnf
          refine ⟨?_, (), trivial, rfl, rfl, ?_, ?_⟩
          · exact g0
          · exact ent
          · exact ent
        · have q := key wDown rfl
          conv => whnf
          refine ⟨_, fun _ => call63a ([32] ++ wDown) v (T ++ putT wRank [r]) (by omega) (by decide) hv, ?_⟩
          rw [q]
          conv => whnf
          refine ⟨rfl, ?_⟩
          conv => whnf
          refine ⟨?_, (), trivial, rfl, rfl, ?_, ?_⟩
          · exact g0
          · exact ent
          · exact ent
      rintro ⟨⟩ -
      have hT2 : (T ++ headT c).length ≤ 60000 := by rw [List.length_append]; omega
      conv => whnf
      refine ⟨trivial, ?_⟩
      refine LSem.meet (n := 68) mix (α := Unit) (fun _ => True)
        (fun _ => [(5, .pt 80 0 0), (6, .fn (.func 63) [] [.pt 80 0 0]), (8, .pt 128 0 0), (15, .sl τ 7 l.length (fl eCd l)), (16, .int .i64 l.length), (17, .int .i64 i)])
        (fun _ => [(80, .bld 169 5 (T ++ headT c ++ daysT c)), (128, .box (eCd c))]) ?_ ?_
      · conv => whnf
        by_cases hd : c.f = 0 ∧ c.u = 364
        · have q : T ++ headT c = T ++ headT c ++ daysT c := by unfold daysT; rw [if_pos hd, List.append_nil]
          refine ⟨trivial, fun hc => ?_, fun hc => ?_⟩
          · exact absurd hc (by rw [hd.1, hd.2]; decide)
          conv => whnf
          refine ⟨?_, (), trivial, rfl, rfl, ?_, ?_⟩
          · exact g0
          · exact ent
          · exact ent
        · have q : T ++ headT c ++ putT (32 :: wDays) [c.f, c.u] = T ++ headT c ++ daysT c := by unfold daysT; rw [if_neg hd]
          refine ⟨trivial, fun hc => ?_, fun hc => ?_⟩
          · conv => whnf
            refine ⟨_, fun _ => call63b (32 :: wDays) c.f c.u (T ++ headT c) (by omega) (by decide) (by unfold r64; omega), ?_⟩
            rw [q]
            conv => whnf
            refine ⟨?_, (), trivial, rfl, rfl, ?_, ?_⟩
            · exact g0
            · exact ent
            · exact ent
          · refine absurd hc fun hc => hd ?_
            replace hc : (!(c.f == 0 && (c.u == 364 && true))) = false := hc
            simpa using hc
      rintro ⟨⟩ -
      have hT3 : (T ++ headT c ++ daysT c).length ≤ 60100 := by rw [List.length_append]; omega
      conv => whnf
      refine ⟨trivial, ?_⟩
      refine LSem.meet (n := 68) mix (α := Unit) (fun _ => True)
        (fun _ => [(5, .pt 80 0 0), (6, .fn (.func 63) [] [.pt 80 0 0]), (8, .pt 128 0 0), (15, .sl τ 7 l.length (fl eCd l)), (16, .int .i64 l.length), (17, .int .i64 i)])
        (fun _ => [(80, .bld 169 5 (T ++ headT c ++ daysT c ++ aboveT c)), (128, .box (eCd c))]) ?_ ?_
      · conv => whnf
        refine ⟨trivial, fun hc => ?_, fun hc => ?_⟩
        · simp only [bp] at hc
          have q : T ++ headT c ++ daysT c ++ putT (32 :: wAbove) [c.a] = T ++ headT c ++ daysT c ++ aboveT c := by unfold aboveT; rw [if_neg hc]
          conv => whnf
          refine ⟨_, fun _ => call63a (32 :: wAbove) c.a (T ++ headT c ++ daysT c) (by omega) (by decide) (by unfold r64; omega), ?_⟩
          rw [q]
          conv => whnf
          refine ⟨?_, (), trivial, rfl, rfl, ?_, ?_⟩
          · exact g0
          · exact ent
          · exact ent
        · simp only [bp] at hc
          have q : T ++ headT c ++ daysT c = T ++ headT c ++ daysT c ++ aboveT c := by unfold aboveT; rw [if_pos hc, List.append_nil]
          conv => whnf
          refine ⟨?_, (), trivial, rfl, rfl, ?_, ?_⟩
          · exact g0
          · exact ent
          · exact ent
      rintro ⟨⟩ -
      have hT4 : (T ++ headT c ++ daysT c ++ aboveT c).length ≤ 60200 := by rw [List.length_append]; omega
      conv => whnf
      refine ⟨trivial, ?_⟩
      refine LSem.meet (n := 68) mix (α := Unit) (fun _ => True)
        (fun _ => [(5, .pt 80 0 0), (6, .fn (.func 63) [] [.pt 80 0 0]), (8, .pt 128 0 0), (15, .sl τ 7 l.length (fl eCd l)), (16, .int .i64 l.length), (17, .int .i64 i)])
        (fun _ => [(80, .bld 169 5 (T ++ headT c ++ daysT c ++ aboveT c ++ belowT c)), (128, .box (eCd c))]) ?_ ?_
      · conv => whnf
        refine ⟨trivial, fun hc => ?_, fun hc => ?_⟩
        · simp only [bp] at hc
          have q : T ++ headT c ++ daysT c ++ aboveT c ++ putT (32 :: wBelow) [c.b] = T ++ headT c ++ daysT c ++ aboveT c ++ belowT c := by unfold belowT; rw [if_neg hc]
          conv => whnf
          refine ⟨_, fun _ => call63a (32 :: wBelow) c.b (T ++ headT c ++ daysT c ++ aboveT c) (by omega) (by decide) (by unfold r64; omega), ?_⟩
          rw [q]
          conv => whnf
          refine ⟨?_, (), trivial, rfl, rfl, ?_, ?_⟩
          · exact g0
          · exact ent
          · exact ent
        · simp only [bp] at hc
          have q : T ++ headT c ++ daysT c ++ aboveT c = T ++ headT c ++ daysT c ++ aboveT c ++ belowT c := by unfold belowT; rw [if_pos hc, List.append_nil]
          conv => whnf
          refine ⟨?_, (), trivial, rfl, rfl, ?_, ?_⟩
          · exact g0
          · exact ent
          · exact ent
      rintro ⟨⟩ -
      have hT5 : (T ++ headT c ++ daysT c ++ aboveT c ++ belowT c).length ≤ 60300 := by rw [List.length_append]; omega
      have q : (T ++ headT c ++ daysT c ++ aboveT c ++ belowT c) ++ [10] = printC (l.take (i + 1)) := by rw [hpt]; simp [lineT]
      conv => whnf
      refine ⟨_, fun _ => call66 (T ++ headT c ++ daysT c ++ aboveT c ++ belowT c) 10 (by omega), ?_⟩
      rw [q]
      conv => whnf
      refine ⟨?_, i + 1, hlt, by omega, rfl, rfl, ?_, ?_⟩
      · exact g0
      · exact ent
      · exact ent
    · replace hc := of_decide_eq_false hc
      have hk : i = l.length := by
        have h : ¬ (i : Int) < l.length := hc
        omega
      subst hk
      rw [List.take_length]
      conv => whnf
      refine ⟨_, fun _ => call67z (printC l), ?_⟩
      conv => whnf
      exact ret
end Pv
end Go.Proofs.YtdcgnfkkklbckaaGreatDoor
/- LAW 13, PLAIN: what the program reads of a line's words is what they say; conditions are read back from their text. -/
set_option linter.unusedSimpArgs false
set_option linter.unusedVariables false
namespace Go.Proofs.YtdcgnfkkklbckaaGreatDoor
namespace Pv
def outO (x : Cd × Bool) : Option Cd := if x.2 = true then some x.1 else none
theorem partsG_bad (n : Nat) (c : Cd) (d a b : Bool) (w : List (List UInt8)) : outO (partsG n c true d a b w) = none := by
  cases n with
  | zero => rfl
  | succ n => unfold partsG; rw [if_pos rfl]; rfl
theorem partsG_badE {x : Bool} (hx : x = true) (n : Nat) (c : Cd) (d a b : Bool) (w : List (List UInt8)) : outO (partsG n c x d a b w) = none := by
  subst hx; exact partsG_bad ..
theorem partsG_O (n : Nat) : ∀ (c : Cd) (d a b : Bool) (w : List (List UInt8)), w.length < n → outO (partsG n c false d a b w) = partsO c d a b w := by
  induction n with
  | zero => intro c d a b w h; omega
  | succ n ih =>
    intro c d a b w h
    match w, h with
    | [], h => unfold partsG partsO; rfl
    | [x], h =>
      unfold partsG partsO
      dsimp only
      rw [if_neg (by decide)]
      split
      · exact partsG_badE (by cases d <;> rfl) ..
      · split
        · exact partsG_badE (by cases a <;> rfl) ..
        · split
          · exact partsG_badE (by cases b <;> rfl) ..
          · rfl
    | x :: y :: r, h =>
      simp only [List.length_cons] at h
      have hy : numB (y :: r) = (numF y).isNone := rfl
      have hg : numG (y :: r) = (numF y).getD 0 := rfl
      unfold partsG partsO
      dsimp only
      rw [if_neg (by decide)]
      by_cases e1 : x = wDays
      · rw [if_pos e1, if_pos e1]
        cases d with
        | true => rw [if_pos rfl]; exact partsG_badE rfl ..
        | false =>
          rw [if_neg (by decide)]
          cases r with
          | nil => exact partsG_badE (by show ((false || numB [y]) || true) = true; exact Bool.or_true _) ..
          | cons y2 r2 =>
            dsimp only
            have hy2 : numB (y :: y2 :: r2).tail = (numF y2).isNone := rfl
            have hg2 : numG (y :: y2 :: r2).tail = (numF y2).getD 0 := rfl
            rw [hy, hy2, hg, hg2]
            cases h1 : numF y with
            | none => exact partsG_badE (by cases (numF y2).isNone <;> rfl) ..
            | some m =>
              cases h2 : numF y2 with
              | none => exact partsG_badE rfl ..
              | some k =>
                simp only [List.length_cons] at h
                exact ih _ _ _ _ _ (by show r2.length < n; omega)
      rw [if_neg e1, if_neg e1]
      by_cases e2 : x = wAbove
      · rw [if_pos e2, if_pos e2, hy, hg]
        cases a with
        | true => rw [if_pos rfl]; exact partsG_badE rfl ..
        | false =>
          rw [if_neg (by decide)]
          cases h1 : numF y with
          | none => exact partsG_badE rfl ..
          | some m => exact ih _ _ _ _ _ (by show r.length < n; omega)
      rw [if_neg e2, if_neg e2]
      by_cases e3 : x = wBelow
      · rw [if_pos e3, if_pos e3, hy, hg]
        cases b with
        | true => rw [if_pos rfl]; exact partsG_badE rfl ..
        | false =>
          rw [if_neg (by decide)]
          cases h1 : numF y with
          | none => exact partsG_badE rfl ..
          | some m => exact ih _ _ _ _ _ (by show r.length < n; omega)
      rw [if_neg e3, if_neg e3]
      rfl
theorem condG_O (w : List (List UInt8)) : outO (condG w) = condO w := by
  unfold condG
  match w with
  | [] => exact partsG_badE rfl ..
  | [_] => exact partsG_badE (by simp [headG, numB, numF]) ..
  | [_, _] => exact partsG_badE (by simp [headG, numB, numF]) ..
  | [_, _, _] => exact partsG_badE (by simp [headG, numB, numF]) ..
  | rk :: x :: kd :: y :: r =>
    have hb : (headG (rk :: x :: kd :: y :: r)).2 = ((((!(rk == wRank)) || (numF x).isNone) || false || (kindOf kd == 0)) || (numF y).isNone) := rfl
    have hc : (headG (rk :: x :: kd :: y :: r)).1 = ⟨(numF x).getD 0, kindOf kd, (numF y).getD 0, 0, 364, 0, 16777216⟩ := rfl
    rw [hb, hc]
    unfold condO
    dsimp only
    by_cases e1 : rk = wRank
    · rw [if_pos e1]
      cases h1 : numF x with
      | none => exact partsG_badE (by simp) ..
      | some m =>
        cases h2 : numF y with
        | none => exact partsG_badE (by simp) ..
        | some k =>
          dsimp only
          by_cases e2 : kindOf kd = 0
          · rw [if_pos e2]; exact partsG_badE (by simp [e2]) ..
          · rw [if_neg e2, show ((((!(rk == wRank)) || (some m).isNone) || false || (kindOf kd == 0)) || (some k).isNone) = false by simp [e1, e2]]
            exact partsG_O _ _ _ _ _ _ (by show r.length < _; simp only [List.length_cons]; omega)
    · rw [if_neg e1]; exact partsG_badE (by simp [e1]) ..
theorem condG_some {w : List (List UInt8)} {c : Cd} (h : condO w = some c) : condG w = (c, true) := by
  have := condG_O w
  rw [h] at this
  unfold outO at this
  split at this
  · rename_i h2
    injection this with h3
    exact Prod.ext h3 h2
  · cases this
theorem condG_none {w : List (List UInt8)} (h : condO w = none) : (condG w).2 = false := by
  have := condG_O w
  rw [h] at this
  unfold outO at this
  split at this
  · cases this
  · rename_i h2; simpa using h2
/-! ### the text of conditions, in lines and words -/
def joinW : List (List UInt8) → List UInt8
  | [] => []
  | x :: xs => x ++ xs.flatMap (32 :: ·)
theorem joinW_cons (x y : List UInt8) (r : List (List UInt8)) : joinW (x :: y :: r) = x ++ 32 :: joinW (y :: r) := by simp [joinW]
theorem words_joinW : ∀ {w : List (List UInt8)}, (∀ x ∈ w, WordOK isBl x) → wordsB isBl (joinW w) = w
  | [], _ => rfl
  | [x], h => by
    have : joinW [x] = x := by simp [joinW]
    rw [this]; exact words_one (h x (by simp))
  | x :: y :: r, h => by
    rw [joinW_cons, words_app isBl x 32 rfl, words_one (h x (by simp)), words_joinW (w := y :: r) (fun z hz => h z (by simp [hz]))]; rfl
theorem joinW_clean : ∀ {w : List (List UInt8)}, (∀ x ∈ w, WordOK isBl x) → ∀ b ∈ joinW w, b ≠ 10
  | [], _, b, hb => by simp [joinW] at hb
  | [x], h, b, hb => by
    have : joinW [x] = x := by simp [joinW]
    rw [this] at hb
    have := (h x (by simp)).2 b hb
    intro e; subst e; cases this
  | x :: y :: r, h, b, hb => by
    rw [joinW_cons, List.mem_append, List.mem_cons] at hb
    rcases hb with hb | rfl | hb
    · have := (h x (by simp)).2 b hb
      intro e; subst e; cases this
    · decide
    · exact joinW_clean (w := y :: r) (fun z hz => h z (by simp [hz])) b hb
theorem itoa_ok {n : Int} (h0 : 0 ≤ n) : WordOK isBl (Lib.itoa n) := by
  have he : Lib.itoa n = Lib.decDigits n.toNat := by unfold Lib.itoa; rw [if_neg (by omega)]
  refine ⟨fun e => ?_, fun b hb => ?_⟩
  · have := decDigits_ne n.toNat
    rw [← he, e] at this; simp at this
  · have := itoa_clean h0 b hb
    exact isBl_not (fun h => h.elim this.1 this.2)
theorem wordsOf_ok {c : Cd} (h : oneC c = 0) : ∀ x ∈ wordsOf c, WordOK isBl x := by
  obtain ⟨h1, h2, h3⟩ := oneC_ok h
  unfold badC at h3
  have hk : WordOK isBl (kindW c.k) := by
    have : c.k = 1 ∨ c.k = 2 ∨ c.k = 3 ∨ c.k = 4 := by omega
    rcases this with e | e | e | e <;> rw [e] <;> exact ⟨by decide, by decide⟩
  intro x hx
  unfold wordsOf at hx
  simp only [List.mem_append, List.mem_cons, List.not_mem_nil, or_false] at hx
  rcases hx with (rfl | rfl | rfl | rfl) | hx | hx | hx
  · exact ⟨by decide, by decide⟩
  · exact itoa_ok (by omega)
  · exact hk
  · exact itoa_ok (by omega)
  · unfold daysW at hx
    split at hx
    · simp at hx
    · simp only [List.mem_cons, List.not_mem_nil, or_false] at hx
      rcases hx with rfl | rfl | rfl
      · exact ⟨by decide, by decide⟩
      · exact itoa_ok (by omega)
      · exact itoa_ok (by omega)
  · unfold aboveW at hx
    split at hx
    · simp at hx
    · simp only [List.mem_cons, List.not_mem_nil, or_false] at hx
      rcases hx with rfl | rfl
      · exact ⟨by decide, by decide⟩
      · exact itoa_ok (by omega)
  · unfold belowW at hx
    split at hx
    · simp at hx
    · simp only [List.mem_cons, List.not_mem_nil, or_false] at hx
      rcases hx with rfl | rfl
      · exact ⟨by decide, by decide⟩
      · exact itoa_ok (by omega)
theorem lineT_join (c : Cd) : lineT c = joinW (wordsOf c) ++ [10] := by
  have h1 : daysT c = (daysW c).flatMap (32 :: ·) := by unfold daysT daysW; split <;> simp [putT]
  have h2 : aboveT c = (aboveW c).flatMap (32 :: ·) := by unfold aboveT aboveW; split <;> simp [putT]
  have h3 : belowT c = (belowW c).flatMap (32 :: ·) := by unfold belowT belowW; split <;> simp [putT]
  unfold lineT headT wordsOf
  rw [h1, h2, h3]
  simp [joinW, putT]
theorem linesW_line {c : Cd} (h : oneC c = 0) (rest : List UInt8) : linesW (lineT c ++ rest) = wordsOf c :: linesW rest := by
  have hok := wordsOf_ok h
  rw [lineT_join, List.append_assoc]
  unfold linesW
  rw [show [10] ++ rest = 10 :: rest from rfl, splitC_cut (joinW_clean hok), List.map_cons, words_joinW hok]
theorem linesW_print : ∀ {l : List Cd}, (∀ c ∈ l, oneC c = 0) → ∀ rest, linesW (printC l ++ rest) = l.map wordsOf ++ linesW rest
  | [], _, rest => rfl
  | c :: l, h, rest => by
    have ih := linesW_print (l := l) (fun x hx => h x (List.mem_cons_of_mem _ hx)) rest
    rw [show printC (c :: l) = lineT c ++ printC l from rfl, List.append_assoc, linesW_line (h c (List.mem_cons_self ..)), ih]; rfl
def numd : Int → List Cd → List (Int × List (List UInt8))
  | _, [] => []
  | i, c :: l => (i + 1, wordsOf c) :: numd (i + 1) l
theorem numd_len : ∀ (l : List Cd) (i : Int), (numd i l).length = l.length
  | [], _ => rfl
  | c :: l, i => by simp [numd, numd_len l]
theorem linL_numd : ∀ (l : List Cd) (i : Int) (W : List (List (List UInt8))), linL i (l.map wordsOf ++ W) = numd i l ++ linL (i + l.length) W
  | [], i, W => by simp [numd]
  | c :: l, i, W => by
    have ih := linL_numd l (i + 1) W
    have hc : cntd (wordsOf c) = true := rfl
    rw [List.map_cons, List.cons_append]
    show (if cntd (wordsOf c) = true then (i + 1, wordsOf c) :: linL (i + 1) (l.map wordsOf ++ W) else linL (i + 1) (l.map wordsOf ++ W)) = _
    rw [if_pos hc, ih, List.length_cons, show i + 1 + (l.length : Int) = i + ((l.length + 1 : Nat) : Int) by omega]
    rfl
theorem parG_numd : ∀ {l : List Cd}, (∀ c ∈ l, oneC c = 0) → ∀ (i : Int) (R : List (Int × List (List UInt8))) (out : List Cd), parG (numd i l ++ R) out = parG R (out ++ l)
  | [], _, i, R, out => by simp [numd]
  | c :: l, h, i, R, out => by
    have ih := parG_numd (l := l) (fun x hx => h x (List.mem_cons_of_mem _ hx)) (i + 1) R (out ++ [c])
    have hc := h c (List.mem_cons_self ..)
    have hg := condG_some (cond_back hc)
    show (if (condG (wordsOf c)).2 = false then ([], i + 1, 7) else if oneC (condG (wordsOf c)).1 ≠ 0 then ([], i + 1, oneC (condG (wordsOf c)).1) else parG (numd (i + 1) l ++ R) (out ++ [(condG (wordsOf c)).1])) = _
    rw [hg]
    dsimp only
    rw [if_neg (by decide), if_neg (fun e => e hc), ih, List.append_assoc]
    rfl
theorem linesW_nil : linesW [] = [[]] := rfl
theorem parse_print {l : List Cd} (h : limC l = 0) : parseG (printC l) = (l, 0, 0) := by
  obtain ⟨hl, hV⟩ := limC_ok h
  have hlen := printC_len hV
  have hL : linL 0 (linesW (printC l)) = numd 0 l := by
    have := linesW_print hV []
    rw [List.append_nil, linesW_nil] at this
    rw [this, linL_numd]
    show numd 0 l ++ [] = _
    rw [List.append_nil]
  unfold parseG
  rw [if_neg (by omega), hL, numd_len, if_neg (by omega)]
  have := parG_numd hV 0 [] []
  rw [List.append_nil, List.nil_append] at this
  rw [this]; rfl
theorem parG_ok : ∀ {L : List (Int × List (List UInt8))} {out a : List Cd} {n : Int}, parG L out = (a, n, 0) → (∀ c ∈ out, oneC c = 0) → n = 0 ∧ (∀ c ∈ a, oneC c = 0) ∧ a.length ≤ out.length + L.length
  | [], out, a, n, h, ho => by
    simp only [parG, Prod.mk.injEq] at h
    obtain ⟨rfl, rfl, _⟩ := h
    exact ⟨rfl, ho, Nat.le_refl _⟩
  | x :: L, out, a, n, h, ho => by
    unfold parG at h
    split at h
    · simp at h
    · split at h
      · rename_i h2
        simp only [Prod.mk.injEq] at h
        exact absurd h.2.2 h2
      · rename_i h2
        obtain ⟨g1, g2, g3⟩ := parG_ok h fun c hc => by
          rcases List.mem_append.1 hc with hc | hc
          · exact ho c hc
          · rw [List.mem_singleton] at hc; subst hc; exact Classical.not_not.1 h2
        refine ⟨g1, g2, ?_⟩
        rw [List.length_append] at g3
        simp only [List.length_cons, List.length_nil] at g3 ⊢
        omega
theorem allC_of : ∀ {l : List Cd}, (∀ c ∈ l, oneC c = 0) → allC l = 0
  | [], _ => rfl
  | c :: l, h => by
    unfold allC
    rw [if_neg (fun e => e (h c (List.mem_cons_self ..)))]
    exact allC_of fun x hx => h x (List.mem_cons_of_mem _ hx)
theorem limC_of {l : List Cd} (hl : l.length ≤ 200) (h : ∀ c ∈ l, oneC c = 0) : limC l = 0 := by
  unfold limC
  rw [if_neg (by omega), allC_of h]
theorem parse_ok {s : List UInt8} (h : (parseG s).2.2 = 0) : limC (parseG s).1 = 0 ∧ (parseG s).2.1 = 0 := by
  have hp : parseG s = ((parseG s).1, (parseG s).2.1, 0) := Prod.ext rfl (Prod.ext rfl h)
  generalize (parseG s).1 = a at hp ⊢
  generalize (parseG s).2.1 = n at hp ⊢
  unfold parseG at hp
  split at hp
  · simp at hp
  · split at hp
    · simp at hp
    · obtain ⟨g1, g2, g3⟩ := parG_ok hp (by simp)
      simp only [List.length_nil] at g3
      exact ⟨limC_of (by omega) g2, g1⟩
theorem made_one {c : Cd} (h : CondOK c) : oneC c = 0 := by
  obtain ⟨h1, h2, h3, h4, h5, h6, h7, h8⟩ := h
  unfold oneC
  rw [if_neg (by omega), if_neg (by omega), if_neg (by unfold badC; omega)]
theorem made_ok (d : Dk) : limC (condsF d).1 = 0 ∧ (∀ c ∈ (condsF d).1, oneC c = 0) ∧ (condsF d).1.length ≤ 6 := by
  obtain ⟨h1, h2, _⟩ := condsF_ok d
  have h3 : ∀ c ∈ (condsF d).1, oneC c = 0 := fun c hc => by
    obtain ⟨i, hi, rfl⟩ := List.getElem_of_mem hc
    have := h2 i hi
    rw [show (condsF d).1.getD i default = (condsF d).1[i] by simp [List.getD, hi]] at this
    exact made_one this
  exact ⟨limC_of (by omega) h3, h3, h1⟩
end Pv
end Go.Proofs.YtdcgnfkkklbckaaGreatDoor
/- LAW 13, THE WALKS: equality of lists of conditions; the example. -/
set_option linter.unusedSimpArgs false
set_option linter.unusedVariables false
namespace Go.Proofs.YtdcgnfkkklbckaaGreatDoor
namespace Pv
def c20L1 : C := (.seq (.reg [⟨(some 14), 224, none, .bi false .lss (.t 13) (.t 12)⟩])
  (.seq (.cond (.t 14) .skip (.exit 0))
  (.seq (.block 1 (.seq (.reg [⟨(some 15), 240, none, .mv (.t 13)⟩,
    ⟨(some 5), 80, none, .mv (.t 15)⟩])
  (.seq (.drw [⟨(some 16), 256, none, .mv (.t 0)⟩,
    ⟨(some 17), 272, none, .mv (.t 5)⟩,
    ⟨(some 18), 288, none, .ia 7 (.t 16) (.t 17)⟩,
    ⟨(some 19), 304, none, .ld 7 true (.t 18)⟩,
    ⟨(some 20), 320, none, .mv (.t 1)⟩,
    ⟨(some 21), 336, none, .mv (.t 5)⟩,
    ⟨(some 22), 352, none, .ia 7 (.t 20) (.t 21)⟩,
    ⟨(some 23), 368, none, .ld 7 true (.t 22)⟩,
    ⟨(some 24), 384, none, .eqa true [0, 0, 0, 0, 0, 0, 0] (.t 19) (.t 23)⟩]
    [(0, 1, 16), (0, 4, 16), (0, 5, 16), (0, 6, 16), (0, 7, 16), (1, 4, 17), (1, 5, 17), (1, 6, 17), (1, 7, 17), (2, 4, 18), (2, 5, 18), (2, 6, 18), (2, 7, 18), (3, 4, 19), (3, 5, 19), (3, 6, 19), (3, 7, 19), (4, 5, 20)])
  (.cond (.t 24) (.seq (.reg [⟨(some 4), 64, none, .mv (.c (.bool false))⟩])
  .ret) .skip))))
  (.reg [⟨(some 25), 400, none, .bi false .add (.t 13) (.c (.int .i64 1))⟩,
    ⟨(some 13), 208, none, .mv (.t 25)⟩]))))
def c20 : C := (.seq (.reg [⟨(some 4), 64, none, .mv (.c (.bool false))⟩])
  (.seq (.seq (.reg [⟨(some 6), 96, none, .mv (.t 0)⟩,
    ⟨(some 7), 112, none, .len (.t 6)⟩,
    ⟨(some 8), 128, none, .mv (.t 1)⟩,
    ⟨(some 9), 144, none, .len (.t 8)⟩,
    ⟨(some 10), 160, none, .bi false .neq (.t 7) (.t 9)⟩])
  (.cond (.t 10) (.seq (.reg [⟨(some 4), 64, none, .mv (.c (.bool false))⟩])
  .ret) .skip))
  (.seq (.seq (.reg [⟨(some 11), 176, none, .mv (.t 0)⟩,
    ⟨(some 12), 192, none, .len (.t 11)⟩,
    ⟨(some 13), 208, none, .mv (.c (.int .i64 0))⟩])
  (.block 0 (.loop c20L1)))
  (.seq (.reg [⟨(some 4), 64, none, .mv (.c (.bool true))⟩])
  .ret))))
theorem fits20 : fits Tryz.prog false Tryz.f20 2 26 [(4, none)] = some c20.er := by kernel_rfl
theorem eq_cd (x y : Cd) : ((x.r == y.r) && ((x.k == y.k) && ((x.v == y.v) && ((x.f == y.f) && ((x.u == y.u) && ((x.a == y.a) && ((x.b == y.b) && true))))))) = decide (x = y) := by
  rw [Bool.eq_iff_iff]
  obtain ⟨a1, a2, a3, a4, a5, a6, a7⟩ := x
  obtain ⟨b1, b2, b3, b4, b5, b6, b7⟩ := y
  simp [and_assoc]
theorem list_ext_getD {α : Type} [Inhabited α] {a b : List α} (hl : a.length = b.length) (h : ∀ i, i < a.length → a.getD i default = b.getD i default) : a = b := by
  apply List.ext_getElem hl
  intro i h1 h2
  have := h i h1
  simpa [List.getD, h1, h2] using this
set_option maxRecDepth 100000 in
theorem call20 (τ τ' : Nat) (a b : List Cd) (ha : a.length ≤ 4611686018427387904) : PureCall Tryz.prog 20 [.sl τ 7 a.length (fl eCd a), .sl τ' 7 b.length (fl eCd b)] [] ⟨.bool (decide (a = b)), [], []⟩ := by
  refine pure_call mix Tryz.func20 fits20 rfl ?_
  conv => whnf
  refine ⟨trivial, fun hc => ?_, fun hc => ?_⟩
  · simp only [bp] at hc
    rw [decide_eq_false (p := a = b) (fun e => hc (by rw [e]))]
    conv => whnf
    exact ret
  simp only [bp] at hc
  have hl : a.length = b.length := by omega
  conv => whnf
  refine ⟨trivial, ?_⟩
  refine LSem.loop (n := 26) mix (α := Nat) (fun i => i ≤ a.length ∧ ∀ k, k < i → a.getD k default = b.getD k default)
    (fun i => [(0, .sl τ 7 a.length (fl eCd a)), (1, .sl τ' 7 b.length (fl eCd b)), (12, .int .i64 a.length), (13, .int .i64 i)])
    (fun i => []) (fun i => a.length - i) 0 ?_ ?_ ?_
  · exact ⟨Nat.zero_le _, fun k hk => absurd hk (Nat.not_lt_zero _)⟩
  · refine ⟨rfl, rfl, ?_, ?_⟩ <;> exact ent
  · rintro i ⟨hi, hall⟩
    have hj : ((i : Int)).toNat = i := by omega
    conv => whnf
    refine ⟨trivial, fun hc => ?_, fun hc => ?_⟩
    · replace hc := of_decide_eq_true hc
      have hlt : i < a.length := by
        have h : (i : Int) < a.length := hc
        omega
      conv => whnf
      rw [hj]
      refine ⟨rfl, ?_⟩
      conv => whnf
      have hE := eq_cd (a.getD i default) (b.getD i default)
      refine ⟨?_, fun h => ?_, fun h => ?_⟩
      · exact g0
      · replace h : (!((a.getD i default).r == (b.getD i default).r && ((a.getD i default).k == (b.getD i default).k && ((a.getD i default).v == (b.getD i default).v && ((a.getD i default).f == (b.getD i default).f && ((a.getD i default).u == (b.getD i default).u && ((a.getD i default).a == (b.getD i default).a && ((a.getD i default).b == (b.getD i default).b && true)))))))) = true := h
        rw [hE] at h
        rw [decide_eq_false (p := a = b) (fun e => by rw [e] at h; simp at h)]
        conv => whnf
        exact ret
      · replace h : (!((a.getD i default).r == (b.getD i default).r && ((a.getD i default).k == (b.getD i default).k && ((a.getD i default).v == (b.getD i default).v && ((a.getD i default).f == (b.getD i default).f && ((a.getD i default).u == (b.getD i default).u && ((a.getD i default).a == (b.getD i default).a && ((a.getD i default).b == (b.getD i default).b && true)))))))) = false := h
        rw [hE] at h
        have he : a.getD i default = b.getD i default := by
          generalize a.getD i default = x at h ⊢
          generalize b.getD i default = y at h ⊢
          simpa using h
        conv => whnf
        refine ⟨?_, i + 1, ⟨hlt, fun k hk => ?_⟩, by omega, rfl, rfl, ?_, ?_⟩
        · exact g0
        · by_cases e : k = i
          · rw [e]; exact he
          · exact hall k (by omega)
        · exact ent
        · exact ent
    · replace hc := of_decide_eq_false hc
      have hk : i = a.length := by
        have h : ¬ (i : Int) < a.length := hc
        omega
      subst hk
      rw [decide_eq_true (p := a = b) (list_ext_getD hl hall)]
      conv => whnf
      exact ret
end Pv
end Go.Proofs.YtdcgnfkkklbckaaGreatDoor
set_option linter.unusedSimpArgs false
set_option linter.unusedVariables false
namespace Go.Proofs.YtdcgnfkkklbckaaGreatDoor
namespace Pv
def c21 : C := (.seq (.reg [⟨(some 2), 32, none, .al [(.int .i64 0), (.int .i64 0)]⟩])
  (.seq (.seq (.reg [⟨(some 4), 64, none, .mv (.t 0)⟩,
    ⟨(some 5), 80, none, .call (.c (.fn (.func 12) [] [])) [(.t 4), (.c (.int .i64 3))]⟩,
    ⟨(some 6), 96, none, .bi false .eql (.t 5) (.c (.int .i64 0))⟩])
  (.cond (.t 6) (.seq (.reg [⟨(some 7), 112, none, .bd [(.int .i64 0), (.int .i64 0)] [(1, 1, (.c (.int .i64 1073741824)))]⟩,
    ⟨none, 0, none, .st 2 (.t 2) (.t 7)⟩])
  .ret) .skip))
  (.seq (.reg [⟨(some 8), 128, none, .mv (.t 0)⟩,
    ⟨(some 9), 144, none, .call (.c (.fn (.func 12) [] [])) [(.t 8), (.c (.int .i64 25))]⟩,
    ⟨(some 3), 48, none, .mv (.t 9)⟩])
  (.seq (.reg [⟨(some 10), 160, none, .mv (.t 3)⟩,
    ⟨(some 11), 176, none, .mv (.t 3)⟩,
    ⟨(some 12), 192, none, .mv (.t 0)⟩,
    ⟨(some 13), 208, none, .call (.c (.fn (.func 12) [] [])) [(.t 12), (.c (.int .i64 25))]⟩,
    ⟨(some 14), 224, none, .bi false .add (.t 11) (.t 13)⟩,
    ⟨(some 15), 240, none, .bd [(.int .i64 0), (.int .i64 0)] [(0, 1, (.t 10)), (1, 1, (.t 14))]⟩,
    ⟨none, 0, none, .st 2 (.t 2) (.t 15)⟩])
  .ret))))
theorem fits21 : fits Tryz.prog false Tryz.f21 1 16 [(2, some (2, true))] = some c21.er := by kernel_rfl
def c4L2 : C := (.seq (.reg [⟨(some 144), 2304, none, .bi false .lss (.t 143) (.t 142)⟩])
  (.seq (.cond (.t 144) .skip (.exit 2))
  (.seq (.block 3 (.seq (.reg [⟨(some 145), 2320, none, .ia 1 (.t 141) (.t 143)⟩,
    ⟨(some 146), 2336, none, .ld 1 false (.t 145)⟩,
    ⟨(some 25), 400, none, .mv (.t 146)⟩])
  (.reg [⟨(some 147), 2352, none, .mv (.t 23)⟩,
    ⟨(some 148), 2368, none, .mv (.t 147)⟩,
    ⟨(some 149), 2384, (some (148, false)), .mv (.t 25)⟩,
    ⟨(some 150), 2400, (some (148, false)), .fa 1 (.t 22)⟩,
    ⟨(some 151), 2416, (some (148, false)), .ld 1 false (.t 150)⟩,
    ⟨(some 152), 2432, (some (148, false)), .bi false .eql (.t 149) (.t 151)⟩,
    ⟨(some 153), 2448, none, .pick (.t 148) (.c (.bool true)) (.t 152)⟩,
    ⟨(some 23), 368, none, .mv (.t 153)⟩])))
  (.reg [⟨(some 154), 2464, none, .bi false .add (.t 143) (.c (.int .i64 1))⟩,
    ⟨(some 143), 2288, none, .mv (.t 154)⟩]))))
def c4L1 : C := (.seq (.reg [⟨(some 115), 1840, none, .bi false .lss (.t 114) (.t 113)⟩])
  (.seq (.cond (.t 115) .skip (.exit 0))
  (.seq (.block 1 (.seq (.reg [⟨(some 116), 1856, none, .mv (.t 114)⟩,
    ⟨(some 117), 1872, none, .ia 2 (.t 112) (.t 114)⟩,
    ⟨(some 118), 1888, none, .ld 2 true (.t 117)⟩,
    ⟨(some 22), 352, none, .al [(.int .i64 0), (.int .i64 0)]⟩,
    ⟨(some 21), 336, none, .mv (.t 116)⟩,
    ⟨none, 0, none, .st 2 (.t 22) (.t 118)⟩])
  (.seq (.seq (.drw [⟨(some 119), 1904, none, .fa 0 (.t 22)⟩,
    ⟨(some 120), 1920, none, .ld 1 false (.t 119)⟩,
    ⟨(some 121), 1936, none, .mv (.t 17)⟩,
    ⟨(some 122), 1952, none, .mv (.t 21)⟩,
    ⟨(some 123), 1968, none, .ia 1 (.t 121) (.t 122)⟩,
    ⟨(some 124), 1984, none, .ld 1 false (.t 123)⟩,
    ⟨(some 125), 2000, none, .bi false .neq (.t 120) (.t 124)⟩,
    ⟨(some 126), 2016, none, .mv (.t 125)⟩,
    ⟨(some 127), 2032, (some (126, false)), .fa 0 (.t 22)⟩,
    ⟨(some 128), 2048, (some (126, false)), .ld 1 false (.t 127)⟩,
    ⟨(some 129), 2064, (some (126, false)), .bi false .lss (.t 128) (.c (.int .i64 0))⟩,
    ⟨(some 130), 2080, none, .pick (.t 126) (.c (.bool true)) (.t 129)⟩,
    ⟨(some 131), 2096, none, .mv (.t 130)⟩,
    ⟨(some 132), 2112, (some (131, false)), .fa 0 (.t 22)⟩,
    ⟨(some 133), 2128, (some (131, false)), .ld 1 false (.t 132)⟩,
    ⟨(some 134), 2144, (some (131, false)), .mv (.t 7)⟩,
    ⟨(some 135), 2160, (some (131, false)), .len (.t 134)⟩,
    ⟨(some 136), 2176, (some (131, false)), .bi false .geq (.t 133) (.t 135)⟩,
    ⟨(some 137), 2192, none, .pick (.t 131) (.c (.bool true)) (.t 136)⟩]
    [(0, 2, 119), (0, 3, 119), (0, 4, 119), (0, 5, 119), (1, 2, 120), (1, 3, 120), (1, 4, 120), (1, 5, 120), (2, 3, 121), (13, 15, 132), (13, 16, 132), (14, 15, 133), (14, 16, 133)])
  (.cond (.t 137) (.seq (.reg [⟨(some 2), 32, none, .mv (.c (.bool false))⟩])
  .ret) .skip))
  (.seq (.seq (.reg [⟨(some 138), 2208, none, .fa 1 (.t 22)⟩,
    ⟨(some 139), 2224, none, .ld 1 false (.t 138)⟩,
    ⟨(some 140), 2240, none, .bi false .eql (.t 139) (.c (.int .i64 (-1)))⟩])
  (.cond (.t 140) (.exit 1) .skip))
  (.seq (.reg [⟨(some 23), 368, none, .mv (.c (.bool false))⟩])
  (.seq (.seq (.reg [⟨(some 141), 2256, none, .mv (.t 16)⟩,
    ⟨(some 142), 2272, none, .len (.t 141)⟩,
    ⟨(some 143), 2288, none, .mv (.c (.int .i64 0))⟩])
  (.block 2 (.loop c4L2)))
  (.seq (.drw [⟨(some 155), 2480, none, .mv (.t 23)⟩,
    ⟨(some 156), 2496, none, .un false .not (.t 155)⟩,
    ⟨(some 157), 2512, none, .mv (.t 156)⟩,
    ⟨(some 158), 2528, (some (157, false)), .fa 1 (.t 22)⟩,
    ⟨(some 159), 2544, (some (157, false)), .ld 1 false (.t 158)⟩,
    ⟨(some 160), 2560, (some (157, false)), .bi false .lss (.t 159) (.c (.int .i64 0))⟩,
    ⟨(some 161), 2576, none, .pick (.t 157) (.c (.bool true)) (.t 160)⟩,
    ⟨(some 162), 2592, none, .mv (.t 161)⟩,
    ⟨(some 163), 2608, (some (162, false)), .fa 1 (.t 22)⟩,
    ⟨(some 164), 2624, (some (162, false)), .ld 1 false (.t 163)⟩,
    ⟨(some 165), 2640, (some (162, false)), .mv (.t 7)⟩,
    ⟨(some 166), 2656, (some (162, false)), .len (.t 165)⟩,
    ⟨(some 167), 2672, (some (162, false)), .bi false .geq (.t 164) (.t 166)⟩,
    ⟨(some 168), 2688, none, .pick (.t 162) (.c (.bool true)) (.t 167)⟩,
    ⟨(some 169), 2704, none, .mv (.t 168)⟩,
    ⟨(some 170), 2720, (some (169, false)), .mv (.t 7)⟩,
    ⟨(some 171), 2736, (some (169, false)), .fa 1 (.t 22)⟩,
    ⟨(some 172), 2752, (some (169, false)), .ld 1 false (.t 171)⟩,
    ⟨(some 173), 2768, (some (169, false)), .ia 7 (.t 170) (.t 172)⟩,
    ⟨(some 174), 2784, (some (169, false)), .fa 0 (.t 173)⟩,
    ⟨(some 175), 2800, (some (169, false)), .ld 1 false (.t 174)⟩,
    ⟨(some 176), 2816, (some (169, false)), .mv (.t 7)⟩,
    ⟨(some 177), 2832, (some (169, false)), .fa 0 (.t 22)⟩,
    ⟨(some 178), 2848, (some (169, false)), .ld 1 false (.t 177)⟩,
    ⟨(some 179), 2864, (some (169, false)), .ia 7 (.t 176) (.t 178)⟩,
    ⟨(some 180), 2880, (some (169, false)), .fa 0 (.t 179)⟩,
    ⟨(some 181), 2896, (some (169, false)), .ld 1 false (.t 180)⟩,
    ⟨(some 182), 2912, (some (169, false)), .bi false .gtr (.t 175) (.t 181)⟩,
    ⟨(some 183), 2928, none, .pick (.t 169) (.c (.bool true)) (.t 182)⟩]
    [(8, 10, 163), (8, 11, 163), (9, 10, 164), (9, 11, 164), (15, 16, 170), (15, 17, 170), (15, 21, 170), (15, 22, 170), (15, 23, 170), (15, 24, 170), (15, 25, 170), (15, 26, 170), (16, 21, 171), (16, 22, 171), (16, 23, 171), (16, 24, 171), (16, 25, 171), (16, 26, 171), (17, 21, 172), (17, 22, 172), (17, 23, 172), (17, 24, 172), (17, 25, 172), (17, 26, 172), (18, 21, 173), (18, 22, 173), (18, 23, 173), (18, 24, 173), (18, 25, 173), (18, 26, 173), (19, 21, 174), (19, 22, 174), (19, 23, 174), (19, 24, 174), (19, 25, 174), (19, 26, 174), (20, 21, 175), (20, 22, 175), (20, 23, 175), (20, 24, 175), (20, 25, 175), (20, 26, 175), (21, 22, 176), (21, 23, 176)])
  (.cond (.t 183) (.seq (.reg [⟨(some 2), 32, none, .mv (.c (.bool false))⟩])
  .ret) .skip))))))))
  (.reg [⟨(some 184), 2944, none, .bi false .add (.t 114) (.c (.int .i64 1))⟩,
    ⟨(some 114), 1824, none, .mv (.t 184)⟩]))))
def c4 : C := (.seq (.reg [⟨(some 2), 32, none, .mv (.c (.bool false))⟩])
  (.seq (.reg [⟨(some 26), 416, none, .mv (.t 0)⟩,
    ⟨(some 27), 432, none, .call (.c (.fn (.func 7) [] [])) [(.t 26)]⟩,
    ⟨(some 3), 48, none, .mv (.t 27)⟩])
  (.seq (.reg [⟨(some 28), 448, none, .mv (.t 3)⟩,
    ⟨(some 29), 464, none, .call (.c (.fn (.func 17) [] [])) [(.t 28)]⟩,
    ⟨(some 4), 64, none, .mv (.t 29)⟩])
  (.seq (.reg [⟨(some 31), 496, none, .mv (.t 4)⟩,
    ⟨(some 32), 512, none, .call (.c (.fn (.func 18) [] [])) [(.t 31)]⟩,
    ⟨(some 30), 480, none, .mv (.t 32)⟩,
    ⟨(some 33), 528, none, .ex (.t 30) 0⟩,
    ⟨(some 34), 544, none, .ex (.t 30) 1⟩,
    ⟨(some 5), 80, none, .mv (.t 33)⟩,
    ⟨(some 6), 96, none, .mv (.t 34)⟩])
  (.seq (.reg [⟨(some 36), 576, none, .mv (.t 5)⟩,
    ⟨(some 37), 592, none, .call (.c (.fn (.func 19) [] [])) [(.t 36)]⟩,
    ⟨(some 35), 560, none, .mv (.t 37)⟩,
    ⟨(some 38), 608, none, .ex (.t 35) 0⟩,
    ⟨(some 39), 624, none, .ex (.t 35) 1⟩,
    ⟨(some 40), 640, none, .ex (.t 35) 2⟩,
    ⟨(some 7), 112, none, .mv (.t 38)⟩,
    ⟨(some 8), 128, none, .mv (.t 39)⟩,
    ⟨(some 9), 144, none, .mv (.t 40)⟩])
  (.seq (.seq (.reg [⟨(some 41), 656, none, .mv (.t 6)⟩,
    ⟨(some 42), 672, none, .mv (.t 9)⟩,
    ⟨(some 43), 688, none, .bi false .add (.t 41) (.t 42)⟩,
    ⟨(some 44), 704, none, .bi false .neq (.t 43) (.c (.int .i64 0))⟩,
    ⟨(some 45), 720, none, .mv (.t 44)⟩,
    ⟨(some 46), 736, (some (45, false)), .mv (.t 7)⟩,
    ⟨(some 47), 752, (some (45, false)), .mv (.t 4)⟩,
    ⟨(some 48), 768, (some (45, false)), .call (.c (.fn (.func 20) [] [])) [(.t 46), (.t 47)]⟩,
    ⟨(some 49), 784, (some (45, false)), .un false .not (.t 48)⟩,
    ⟨(some 50), 800, none, .pick (.t 45) (.c (.bool true)) (.t 49)⟩])
  (.cond (.t 50) (.seq (.reg [⟨(some 2), 32, none, .mv (.c (.bool false))⟩])
  .ret) .skip))
  (.seq (.reg [⟨(some 51), 816, none, .mv (.t 3)⟩,
    ⟨(some 52), 832, none, .call (.c (.fn (.func 12) [] [])) [(.t 51), (.c (.int .i64 365))]⟩,
    ⟨(some 53), 848, none, .mv (.t 3)⟩,
    ⟨(some 54), 864, none, .call (.c (.fn (.func 12) [] [])) [(.t 53), (.c (.int .i64 150))]⟩,
    ⟨(some 55), 880, none, .bi false .add (.c (.int .i64 80)) (.t 54)⟩,
    ⟨(some 56), 896, none, .mv (.t 3)⟩,
    ⟨(some 57), 912, none, .call (.c (.fn (.func 12) [] [])) [(.t 56), (.c (.int .i64 30))]⟩,
    ⟨(some 58), 928, none, .mv (.t 3)⟩,
    ⟨(some 59), 944, none, .call (.c (.fn (.func 21) [] [])) [(.t 58)]⟩,
    ⟨(some 13), 208, none, .al [(.int .i64 0), (.int .i64 0)]⟩,
    ⟨(some 10), 160, none, .mv (.t 52)⟩,
    ⟨(some 11), 176, none, .mv (.t 55)⟩,
    ⟨(some 12), 192, none, .mv (.t 57)⟩,
    ⟨none, 0, none, .st 2 (.t 13) (.t 59)⟩])
  (.seq (.drw [⟨(some 61), 976, none, .mv (.t 7)⟩,
    ⟨(some 62), 992, none, .mv (.t 10)⟩,
    ⟨(some 63), 1008, none, .mv (.t 11)⟩,
    ⟨(some 64), 1024, none, .mv (.t 12)⟩,
    ⟨(some 65), 1040, none, .ld 2 true (.t 13)⟩,
    ⟨(some 66), 1056, none, .mv (.t 3)⟩,
    ⟨(some 67), 1072, none, .call (.c (.fn (.func 12) [] [])) [(.t 66), (.c (.int .i64 60))]⟩,
    ⟨(some 68), 1088, none, .call (.c (.fn (.func 22) [] [])) [(.t 61), (.t 62), (.t 63), (.t 64), (.t 65), (.t 67)]⟩,
    ⟨(some 60), 960, none, .mv (.t 68)⟩,
    ⟨(some 69), 1104, none, .ex (.t 60) 0⟩,
    ⟨(some 70), 1120, none, .ex (.t 60) 1⟩,
    ⟨(some 14), 224, none, .al [(.int .i64 0), (.int .i64 0), (.int .i64 0), (.nil 2)]⟩,
    ⟨none, 0, none, .st 4 (.t 14) (.t 69)⟩,
    ⟨(some 15), 240, none, .mv (.t 70)⟩]
    [(0, 1, 61), (0, 2, 61), (0, 3, 61), (0, 4, 61), (0, 5, 61), (0, 6, 61), (0, 11, 61), (1, 2, 62), (1, 3, 62), (1, 4, 62), (1, 5, 62), (1, 6, 62), (1, 11, 62), (2, 3, 63), (2, 4, 63), (2, 5, 63), (2, 6, 63), (2, 11, 63), (3, 4, 64), (3, 5, 64), (3, 6, 64), (3, 11, 64), (4, 5, 65), (4, 6, 65), (4, 11, 65), (5, 11, 66), (6, 11, 67), (7, 11, 68), (8, 11, 60), (9, 10, 69), (9, 11, 69), (10, 11, 70), (10, 12, 70)])
  (.seq (.reg [⟨(some 72), 1152, none, .mv (.t 7)⟩,
    ⟨(some 73), 1168, none, .mv (.t 10)⟩,
    ⟨(some 74), 1184, none, .mv (.t 11)⟩,
    ⟨(some 75), 1200, none, .mv (.t 12)⟩,
    ⟨(some 76), 1216, none, .fa 0 (.t 14)⟩,
    ⟨(some 77), 1232, none, .ld 1 false (.t 76)⟩,
    ⟨(some 78), 1248, none, .call (.c (.fn (.func 23) [] [])) [(.t 72), (.t 73), (.t 74), (.t 75), (.t 77)]⟩,
    ⟨(some 71), 1136, none, .mv (.t 78)⟩,
    ⟨(some 79), 1264, none, .ex (.t 71) 0⟩,
    ⟨(some 80), 1280, none, .ex (.t 71) 1⟩,
    ⟨(some 81), 1296, none, .ex (.t 71) 2⟩,
    ⟨(some 16), 256, none, .mv (.t 79)⟩,
    ⟨(some 17), 272, none, .mv (.t 80)⟩,
    ⟨(some 18), 288, none, .mv (.t 81)⟩])
  (.seq (.reg [⟨(some 83), 1328, none, .mv (.t 7)⟩,
    ⟨(some 84), 1344, none, .call (.c (.fn (.func 24) [] [])) [(.t 83)]⟩,
    ⟨(some 82), 1312, none, .mv (.t 84)⟩,
    ⟨(some 85), 1360, none, .ex (.t 82) 0⟩,
    ⟨(some 86), 1376, none, .ex (.t 82) 1⟩,
    ⟨(some 19), 304, none, .mv (.t 85)⟩,
    ⟨(some 20), 320, none, .mv (.t 86)⟩])
  (.seq (.seq (.reg [⟨(some 87), 1392, none, .mv (.t 15)⟩,
    ⟨(some 88), 1408, none, .mv (.t 18)⟩,
    ⟨(some 89), 1424, none, .bi false .add (.t 87) (.t 88)⟩,
    ⟨(some 90), 1440, none, .mv (.t 20)⟩,
    ⟨(some 91), 1456, none, .bi false .add (.t 89) (.t 90)⟩,
    ⟨(some 92), 1472, none, .bi false .neq (.t 91) (.c (.int .i64 0))⟩,
    ⟨(some 93), 1488, none, .mv (.t 92)⟩,
    ⟨(some 94), 1504, (some (93, false)), .mv (.t 7)⟩,
    ⟨(some 95), 1520, (some (93, false)), .mv (.t 10)⟩,
    ⟨(some 96), 1536, (some (93, false)), .mv (.t 11)⟩,
    ⟨(some 97), 1552, (some (93, false)), .mv (.t 12)⟩,
    ⟨(some 98), 1568, (some (93, false)), .ld 2 true (.t 13)⟩,
    ⟨(some 99), 1584, (some (93, false)), .ld 4 true (.t 14)⟩,
    ⟨(some 100), 1600, (some (93, false)), .call (.c (.fn (.func 25) [] [])) [(.t 94), (.t 95), (.t 96), (.t 97), (.t 98), (.t 99)]⟩,
    ⟨(some 101), 1616, (some (93, false)), .un false .not (.t 100)⟩,
    ⟨(some 102), 1632, none, .pick (.t 93) (.c (.bool true)) (.t 101)⟩,
    ⟨(some 103), 1648, none, .mv (.t 102)⟩,
    ⟨(some 104), 1664, (some (103, false)), .mv (.t 17)⟩,
    ⟨(some 105), 1680, (some (103, false)), .len (.t 104)⟩,
    ⟨(some 106), 1696, (some (103, false)), .fa 3 (.t 14)⟩,
    ⟨(some 107), 1712, (some (103, false)), .ld 1 false (.t 106)⟩,
    ⟨(some 108), 1728, (some (103, false)), .len (.t 107)⟩,
    ⟨(some 109), 1744, (some (103, false)), .bi false .neq (.t 105) (.t 108)⟩,
    ⟨(some 110), 1760, none, .pick (.t 103) (.c (.bool true)) (.t 109)⟩])
  (.cond (.t 110) (.seq (.reg [⟨(some 2), 32, none, .mv (.c (.bool false))⟩])
  .ret) .skip))
  (.seq (.seq (.reg [⟨(some 111), 1776, none, .fa 3 (.t 14)⟩,
    ⟨(some 112), 1792, none, .ld 1 false (.t 111)⟩,
    ⟨(some 113), 1808, none, .len (.t 112)⟩,
    ⟨(some 114), 1824, none, .mv (.c (.int .i64 0))⟩])
  (.block 0 (.loop c4L1)))
  (.seq (.reg [⟨(some 185), 2960, none, .mv (.t 19)⟩,
    ⟨(some 186), 2976, none, .len (.t 185)⟩,
    ⟨(some 187), 2992, none, .bi false .gtr (.t 186) (.c (.int .i64 0))⟩,
    ⟨(some 188), 3008, none, .mv (.t 187)⟩,
    ⟨(some 189), 3024, (some (188, false)), .ld 2 true (.t 13)⟩,
    ⟨(some 190), 3040, (some (188, false)), .bd [(.int .i64 0), (.int .i64 0)] [(1, 1, (.c (.int .i64 1073741824)))]⟩,
    ⟨(some 191), 3056, (some (188, false)), .eqa true [0, 0] (.t 189) (.t 190)⟩,
    ⟨(some 192), 3072, none, .pick (.t 188) (.c (.bool true)) (.t 191)⟩,
    ⟨(some 193), 3088, none, .mv (.t 192)⟩,
    ⟨(some 194), 3104, (some (193, false)), .mv (.t 17)⟩,
    ⟨(some 195), 3120, (some (193, false)), .len (.t 194)⟩,
    ⟨(some 196), 3136, (some (193, false)), .bi false .eql (.t 195) (.c (.int .i64 0))⟩,
    ⟨(some 197), 3152, none, .pick (.t 193) (.c (.bool true)) (.t 196)⟩,
    ⟨(some 198), 3168, none, .mv (.t 197)⟩,
    ⟨(some 199), 3184, (some (198, true)), .call (.c (.fn (.func 16) [] [])) []⟩,
    ⟨(some 200), 3200, none, .pick (.t 198) (.t 199) (.c (.bool false))⟩,
    ⟨(some 2), 32, none, .mv (.t 200)⟩])
  .ret)))))))))))))
theorem fits4 : fits Tryz.prog false Tryz.f4 1 201 [(2, none)] = some c4.er := by kernel_rfl
def givF (d : Dk) : (Int × Int) × Dk :=
  if nxt d 3 = 0 then ((0, 1073741824), nxtD d 3)
  else ((nxt (nxtD d 3) 25, nxt (nxtD d 3) 25 + nxt (nxtD (nxtD d 3) 25) 25), nxtD (nxtD (nxtD d 3) 25) 25)
theorem givF_ok (d : Dk) : (wi (givF d).1.1 1073741824 = true ∧ wi (givF d).1.2 1073741824 = true ∧ (givF d).1.1 ≤ (givF d).1.2) ∧ (givF d).2.at_ ≤ d.at_ + 3 := by
  have r1 := nxt_lt (nxtD d 3) (n := 25) (by omega)
  have r2 := nxt_lt (nxtD (nxtD d 3) 25) (n := 25) (by omega)
  have a1 := nxtD_at d 3
  have a2 := nxtD_at (nxtD d 3) 25
  have a3 := nxtD_at (nxtD (nxtD d 3) 25) 25
  unfold givF
  split
  · exact ⟨⟨(wi_iff _ _).2 (by dsimp only; omega), (wi_iff _ _).2 (by dsimp only; omega), by dsimp only; omega⟩, by dsimp only; omega⟩
  · dsimp only
    exact ⟨⟨(wi_iff _ _).2 (by omega), (wi_iff _ _).2 (by omega), by omega⟩, by omega⟩
theorem call21 (d : Dk) (hd : d.at_ ≤ 980000000) : PureCall Tryz.prog 21 [.pt 0 0 0] [.box (eDk 1 d)] ⟨.agg [.int .i64 (givF d).1.1, .int .i64 (givF d).1.2], [.box (eDk 1 (givF d).2)], []⟩ := by
  have r1 := nxt_lt (nxtD d 3) (n := 25) (by omega)
  have r2 := nxt_lt (nxtD (nxtD d 3) 25) (n := 25) (by omega)
  have a1 := nxtD_at d 3
  have a2 := nxtD_at (nxtD d 3) 25
  refine pure_call mix Tryz.func21 fits21 rfl ?_
  conv => whnf
  refine ⟨_, fun _ => call_next 1 d 3 (by omega) (by decide), ?_⟩
  conv => whnf
  refine ⟨?_, fun hc => ?_, fun hc => ?_⟩
  · exact g0
  · simp only [bp] at hc
    rw [show givF d = ((0, 1073741824), nxtD d 3) from if_pos hc]
    conv => whnf
    exact retB
  · simp only [bp] at hc
    rw [show givF d = _ from if_neg hc]
    conv => whnf
    refine ⟨_, fun _ => call_next 1 (nxtD d 3) 25 (by omega) (by decide), ?_⟩
    conv => whnf
    refine ⟨_, fun _ => call_next 1 (nxtD (nxtD d 3) 25) 25 (by omega) (by decide), ?_⟩
    conv => whnf
    exact retB
def fnd (l : List Int) (x : Int) : Nat → Bool
  | 0 => false
  | n + 1 => bif fnd l x n then true else l.getD n default == x
theorem fnd_up {l : List Int} {x : Int} {j : Nat} : ∀ n, j < n → l.getD j default = x → fnd l x n = true
  | 0, h, _ => by omega
  | n + 1, h, e => by
    unfold fnd
    by_cases hj : j = n
    · subst hj; rw [e]; cases fnd l x j <;> simp
    · rw [fnd_up n (by omega) e]; rfl
theorem fnd_mem {l : List Int} {x : Int} (h : x ∈ l) : fnd l x l.length = true := by
  obtain ⟨j, hj, he⟩ := List.getElem_of_mem h
  exact fnd_up l.length hj (by rw [List.getD_eq_getElem?_getD, List.getElem?_eq_getElem hj]; exact he)
set_option maxRecDepth 100000 in
set_option maxHeartbeats 8000000 in
theorem call4 (l : List Int) : PureCall Tryz.prog 4 [.sl 1 1 l.length (fl eInt l)] [] ⟨.bool true, [], []⟩ := by
  refine pure_call mix Tryz.func4 fits4 rfl ?_
  conv => whnf
  refine ⟨_, fun _ => call_new 1 l, ?_⟩
  conv => whnf
  refine ⟨_, fun _ => call17 ⟨l, 0⟩ (by dsimp only; omega), ?_⟩
  obtain ⟨hA1, hA2, hA3⟩ := made_ok ⟨l, 0⟩
  have hat := (condsF_ok ⟨l, 0⟩).2.2
  generalize condsF ⟨l, 0⟩ = S at hA1 hA2 hA3 hat ⊢
  obtain ⟨A, d0⟩ := S
  dsimp only at hA1 hA2 hA3 hat ⊢
  have hAl := printC_len hA2
  have hAp := parse_print hA1
  conv => whnf
  refine ⟨_, fun _ => call18 _ A hA1, ?_⟩
  have h1 := call19 (printC A) (by omega)
  rw [hAp] at h1
  conv => whnf
  refine ⟨_, fun _ => h1, ?_⟩
  have h2 := call20 1 1 A A (by omega)
  rw [decide_eq_true (p := A = A) rfl] at h2
  conv => whnf
  refine ⟨_, fun _ => h2, ?_⟩
  conv => whnf
  refine ⟨?_, fun hc => Bool.noConfusion (show false = true from hc), fun hc => ?_⟩
  · exact g0
  clear hc h1 h2 hAp hAl
  conv => whnf
  refine ⟨_, fun _ => call_next 1 d0 365 (by omega) (by decide), ?_⟩
  have r1 := nxt_lt d0 (n := 365) (by omega)
  have a1 := nxtD_at d0 365
  generalize nxt d0 365 = day at r1 ⊢
  generalize nxtD d0 365 = d1 at a1 ⊢
  conv => whnf
  refine ⟨_, fun _ => call_next 1 d1 150 (by omega) (by decide), ?_⟩
  have r2 := nxt_lt d1 (n := 150) (by omega)
  have a2 := nxtD_at d1 150
  generalize nxt d1 150 = lev at r2 ⊢
  generalize nxtD d1 150 = d2 at a2 ⊢
  conv => whnf
  refine ⟨_, fun _ => call_next 1 d2 30 (by omega) (by decide), ?_⟩
  have r3 := nxt_lt d2 (n := 30) (by omega)
  have a3 := nxtD_at d2 30
  generalize nxt d2 30 = before at r3 ⊢
  generalize nxtD d2 30 = d3 at a3 ⊢
  conv => whnf
  refine ⟨_, fun _ => call21 d3 (by omega), ?_⟩
  obtain ⟨⟨g1, g2, g3⟩, a4⟩ := givF_ok d3
  generalize givF d3 = G at g1 g2 g3 a4 ⊢
  obtain ⟨⟨lo, hi⟩, d4⟩ := G
  dsimp only at g1 g2 g3 a4 ⊢
  conv => whnf
  refine ⟨_, fun _ => call_next 1 d4 60 (by omega) (by decide), ?_⟩
  have r5 := nxt_lt d4 (n := 60) (by omega)
  generalize nxt d4 60 = wanted at r5 ⊢
  generalize nxtD d4 60 = d5
  have hd : wi day 364 = true := (wi_iff _ _).2 (by omega)
  have hv : wi (80 + lev) 16777216 = true := (wi_iff _ _).2 (by omega)
  have hbf : wi before 1073741824 = true := (wi_iff _ _).2 (by omega)
  have hwt : wi wanted 1073741824 = true := (wi_iff _ _).2 (by omega)
  conv => whnf
  have hch := call22 A day (80 + lev) before lo hi wanted (by omega) hA1 hd hv hbf g1 g2 hwt g3
  have hcn := cho_none (l := A) (day := day) (level := 80 + lev) (b := before) hbf
  have ok := cho_all (l := A) (day := day) (level := 80 + lev) (b := before) (lo := lo) (hi := hi) hbf g3 _ (Nat.le_refl _)
  have hce : choL A day (80 + lev) before lo hi = choN A before lo hi (actF A day (80 + lev)) (actF A day (80 + lev)).length := rfl
  rw [hce] at hch
  have hcnn : prsN A A.length = [] → lo = 0 ∧ hi = 1073741824 → (choN A before lo hi (actF A day (80 + lev)) (actF A day (80 + lev)).length).ys = [] := fun hp he => by
    rw [he.1, he.2]; exact hcn hp _ (Nat.le_refl _)
  clear hcn hce
  generalize choN A before lo hi (actF A day (80 + lev)) (actF A day (80 + lev)).length = s at ok hch hcnn
  have hrel := rel_in ok.le wanted
  generalize relF s wanted = rel at hrel hch
  have hch' : PureCall Tryz.prog 22 [.sl 1 7 A.length (fl eCd A), .int .i64 day, .int .i64 (80 + lev), .int .i64 before, .agg [.int .i64 lo, .int .i64 hi], .int .i64 wanted] [] _ := PureCall.arg_le hch rfl (by exact ent)
  refine ⟨_, fun _ => hch', ?_⟩
  conv => whnf
  refine ⟨rfl, ?_⟩
  have hrw : wi rel 1073741824 = true := (wi_iff _ _).2 (by have := (wi_iff _ _).1 g1; have := (wi_iff _ _).1 g2; have := ok.lo_; have := ok.hi_; omega)
  have hkp : PureCall Tryz.prog 23 [.sl 1 7 A.length (fl eCd A), .int .i64 day, .int .i64 (80 + lev), .int .i64 before, .int .i64 rel] [] _ := PureCall.arg_le (call23 A day (80 + lev) before rel (by omega) hA1 hd hv hbf hrw) rfl (by exact ent)
  have hfi : PureCall Tryz.prog 24 [.sl 1 7 A.length (fl eCd A)] [] _ := PureCall.arg_le (call24 A (by omega) hA1) rfl (by exact ent)
  have hpr : PureCall Tryz.prog 25 [.sl 1 7 A.length (fl eCd A), .int .i64 day, .int .i64 (80 + lev), .int .i64 before, .agg [.int .i64 lo, .int .i64 hi], .agg [.int .i64 rel, .int .i64 s.lo, .int .i64 s.hi, .sl 1 2 s.ys.length (fl eYd s.ys)]] [] _ :=
    PureCall.arg_le (call25 1 A day (80 + lev) before lo hi rel s.lo s.hi s.ys (by omega) hA1 hd hv hbf g1 g2 g3 (by have := ok.lo_; have := ok.hi_; omega) (by rw [viol_eq ok hrel, List.length_map]) (fun i hi => yok_of ok hrel hi)) rfl (by exact ent)
  have hvio := viol_eq ok hrel
  have hkept : ∀ y ∈ s.ys, y.2 ≠ -1 → _ := fun y hy h => kept_of ok hrel hy h
  have hyno : ∀ y ∈ s.ys, CdNo A y.1 := fun y hy => by
    obtain ⟨j, hj, he, _⟩ := ok.viol y hy
    rw [he]; exact (actF_app (actF_mem hj)).1
  have hkl : (keptF A day (80 + lev) before rel).length ≤ A.length := Nat.le_trans (List.length_filter_le _ _) (actF_len _ _ _)
  have hvl : (violF A day (80 + lev) before rel).length ≤ A.length := Nat.le_trans (List.length_filter_le _ _) (actF_len _ _ _)
  generalize keptF A day (80 + lev) before rel = kp at hkp hkept hkl
  generalize violF A day (80 + lev) before rel = vio at hkp hvio hvl
  generalize hps : prsN A A.length = prs at hfi hcnn
  have hvl2 : vio.length = s.ys.length := by rw [hvio, List.length_map]
  conv => whnf
  refine ⟨_, fun _ => hkp, ?_⟩
  conv => whnf
  refine ⟨_, fun _ => hfi, ?_⟩
  conv => whnf
  refine ⟨_, fun _ => hpr, ?_⟩
  conv => whnf
  refine ⟨?_, fun hc => ?_, fun _ => ?_⟩
  · exact g0
  · simp only [bp] at hc; omega
  conv => whnf
  refine ⟨trivial, ?_⟩
  clear hch hch' hkp hfi hpr
  refine LSem.loop (n := 201) mix (α := Nat) (fun i => i ≤ s.ys.length)
    (fun i => [(7, .sl 0 7 A.length (fl eCd A)), (13, .pt 208 0 0), (16, .sl 0 1 kp.length (fl eInt kp)), (17, .sl 0 1 vio.length (fl eInt vio)), (19, .sl 0 2 prs.length (fl eYd prs)), (112, .sl 0 2 s.ys.length (fl eYd s.ys)), (113, .int .i64 s.ys.length), (114, .int .i64 i)])
    (fun i => [(208, .box [.int .i64 lo, .int .i64 hi])]) (fun i => s.ys.length - i) 0 ?_ ?_ ?_
  · exact Nat.zero_le _
  · refine ⟨rfl, rfl, ?_, ?_⟩
    all_goals repeat' (first | exact True.intro | refine leF_cons rfl ?_ ?_ | refine leS_cons rfl ?_ ?_ | (show PLe _ _ _ _; conv => whnf) | (show SLe _ _ _ _; conv => whnf) | (show PLeL _ _ _ _; conv => whnf) | apply And.intro | rfl | exact Nat.le_refl _ | exact fun _ _ => rfl | exact rowEq0 _ _)
  · intro i hile
    have hj : ((i : Int)).toNat = i := by omega
    conv => whnf
    refine ⟨trivial, fun hc => ?_, fun hc => ?_⟩
    · replace hc := of_decide_eq_true hc
      have hlt : i < s.ys.length := by omega
      have hm : s.ys.getD i default ∈ s.ys := getD_mem hlt
      have hv1 : vio.getD i default = (s.ys.getD i default).1 := by
        rw [hvio, List.getD_eq_getElem?_getD, List.getElem?_map, List.getD_eq_getElem?_getD, List.getElem?_eq_getElem hlt]; rfl
      have hy1 := hkept _ hm
      obtain ⟨⟨hn1, hn2⟩, hn3⟩ := hyno _ hm
      conv => whnf
      refine ⟨rfl, ?_⟩
      conv => whnf
      rw [hj, hv1]
      generalize s.ys.getD i default = y at hy1 hn1 hn2 hn3 ⊢
      refine ⟨?_, fun hc => ?_, fun _ => ?_⟩
      · exact g0
      · simp only [bp] at hc; omega
      conv => whnf
      refine ⟨?_, fun hc => ?_, fun hc => ?_⟩
      · exact g0
      · conv => whnf
        refine ⟨?_, i + 1, hlt, ?_, rfl, rfl, ?_, ?_⟩
        · exact g0
        · omega
        all_goals repeat' (first | exact True.intro | refine leF_cons rfl ?_ ?_ | refine leS_cons rfl ?_ ?_ | (show PLe _ _ _ _; conv => whnf) | (show SLe _ _ _ _; conv => whnf) | (show PLeL _ _ _ _; conv => whnf) | apply And.intro | rfl | exact Nat.le_refl _ | exact fun _ _ => rfl | exact rowEq0 _ _)
      · simp only [bp] at hc
        obtain ⟨_, ⟨⟨hb1, hb2⟩, hb3⟩, hbk, hrk⟩ := hy1 hc
        conv => whnf
        refine ⟨?_, ?_⟩
        · exact g0
        refine LSem.loop (n := 201) mix (α := Nat) (fun n => n ≤ kp.length)
          (fun n => [(7, .sl 0 7 A.length (fl eCd A)), (13, .pt 208 0 0), (16, .sl 0 1 kp.length (fl eInt kp)), (17, .sl 0 1 vio.length (fl eInt vio)), (19, .sl 0 2 prs.length (fl eYd prs)), (112, .sl 0 2 s.ys.length (fl eYd s.ys)), (113, .int .i64 s.ys.length), (114, .int .i64 i),
            (22, .pt 352 0 0), (23, .bool (fnd kp y.2 n)), (141, .sl 0 1 kp.length (fl eInt kp)), (142, .int .i64 kp.length), (143, .int .i64 n)])
          (fun n => [(208, .box [.int .i64 lo, .int .i64 hi]), (352, .box [.int .i64 y.1, .int .i64 y.2])]) (fun n => kp.length - n) 0 ?_ ?_ ?_
        · exact Nat.zero_le _
        · refine ⟨rfl, rfl, ?_, ?_⟩
          all_goals repeat' (first | exact True.intro | refine leF_cons rfl ?_ ?_ | refine leS_cons rfl ?_ ?_ | (show PLe _ _ _ _; conv => whnf) | (show SLe _ _ _ _; conv => whnf) | (show PLeL _ _ _ _; conv => whnf) | apply And.intro | rfl | exact Nat.le_refl _ | exact fun _ _ => rfl | exact rowEq0 _ _)
        · intro n hnle
          have hjn : ((n : Int)).toNat = n := by omega
          conv => whnf
          refine ⟨trivial, fun hc2 => ?_, fun hc2 => ?_⟩
          · replace hc2 := of_decide_eq_true hc2
            have hnlt : n < kp.length := by omega
            conv => whnf
            refine ⟨?_, n + 1, hnlt, ?_, rfl, rfl, ?_, ?_⟩
            · exact g0
            · omega
            all_goals repeat' (first | exact True.intro | refine leF_cons rfl ?_ ?_ | refine leS_cons rfl ?_ ?_ | (show PLe _ _ _ _; conv => whnf) | (show SLe _ _ _ _; conv => whnf) | (show PLeL _ _ _ _; conv => whnf) | apply And.intro | rfl | exact Nat.le_refl _ | exact fun _ _ => rfl | exact rowEq0 _ _)
          · replace hc2 := of_decide_eq_false hc2
            have : n = kp.length := by omega
            subst this
            rw [fnd_mem hbk]
            conv => whnf
            refine ⟨rfl, ?_⟩
            conv => whnf
            refine ⟨?_, fun hc3 => ?_, fun _ => ?_⟩
            · exact g0
            · simp only [bp] at hc3
              unfold rkC at hrk
              omega
            conv => whnf
            refine ⟨?_, i + 1, hlt, ?_, rfl, rfl, ?_, ?_⟩
            · exact g0
            · omega
            all_goals repeat' (first | exact True.intro | refine leF_cons rfl ?_ ?_ | refine leS_cons rfl ?_ ?_ | (show PLe _ _ _ _; conv => whnf) | (show SLe _ _ _ _; conv => whnf) | (show PLeL _ _ _ _; conv => whnf) | apply And.intro | rfl | exact Nat.le_refl _ | exact fun _ _ => rfl | exact rowEq0 _ _)
    · replace hc := of_decide_eq_false hc
      conv => whnf
      refine ⟨_, fun _ => call16, ?_⟩
      conv => whnf
      refine ⟨?_, [], ?_⟩
      · exact g0
      conv => whnf
      refine ⟨rfl, ?_, trivial, trivial⟩
      show PLe _ _ _ _
      conv => whnf
      by_cases hp0 : prs = []
      · by_cases hgv : lo = 0 ∧ hi = 1073741824
        · have hy0 : s.ys = [] := hcnn hp0 hgv
          have hv0 : vio.length = 0 := by rw [hvl2, hy0]; rfl
          rw [hv0]
          simp
        · have : (lo == 0 && (hi == 1073741824 && true)) = false := by
            rw [Bool.and_true, Bool.and_eq_false_iff]
            by_cases hl0 : lo = 0
            · right; simpa using fun h => hgv ⟨hl0, h⟩
            · left; simpa using hl0
          rw [this]
          simp
      · have : 0 < prs.length := List.length_pos_iff.2 hp0
        rw [decide_eq_true (show (0 : Int) < prs.length by omega)]
        rfl
end Pv
end Go.Proofs.YtdcgnfkkklbckaaGreatDoor
