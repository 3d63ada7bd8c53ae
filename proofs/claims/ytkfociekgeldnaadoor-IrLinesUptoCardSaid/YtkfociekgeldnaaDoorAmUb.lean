/- Part of the proof: abstract values over the given model of Go (U4, U5, U6). Conditions: none of its own; see the statement in the seat's Rows text. -/
import Derived.Test.YtkfociekgeldnaaDoorAmUa
import Derived.Shelf.Strconv.Itoa4
import Derived.Shelf.Strings.OnBuilder
import Derived.Shelf.Strings.Prefix
import Derived.Shelf.Strings.Split
import Derived.Shelf.Strings.Search3
import Derived.Shelf.Strconv.ParseIntPublic10
import Derived.Lib.SmallJoins
import Derived.Lib.ItoaLen
set_option linter.unusedSimpArgs false
set_option linter.unusedVariables false
set_option linter.unusedSectionVars false
namespace Go.Proofs
open Go.Shelf
def Tryd.laysItoa_ren : Go.Shelf.Ren := ⟨fun | 171 => 47 | 243 => 63 | 246 => 62 | 283 => 73 | 284 => 74 | 285 => 75 | 286 => 76 | 129 => 89 | 317 => 88 | 318 => 90 | 319 => 91 | 320 => 92 | 337 => 100 | 338 => 101 | n => n, fun | 3 => 3 | 9 => 9 | 2 => 2 | 4 => 4 | 171 => 90 | 0 => 0 | 53 => 91 | 37 => 56 | 5 => 5 | 173 => 94 | 212 => 105 | 51 => 106 | 20 => 20 | 213 => 107 | 46 => 97 | 232 => 125 | 233 => 126 | n => n, fun | 17 => 1 | 18 => 6 | 19 => 7 | n => n⟩
theorem Tryd.laysItoa : Go.Proofs.LaysM.n171 Tryd.prog Tryd.laysItoa_ren := {
  mixed := by kernel_rfl
  f129 := Tryd.func89.trans (congrArg some (by kernel_rfl))
  f171 := Tryd.func47.trans (congrArg some (by kernel_rfl))
  f243 := Tryd.func63.trans (congrArg some (by kernel_rfl))
  f246 := Tryd.func62.trans (congrArg some (by kernel_rfl))
  f283 := Tryd.func73.trans (congrArg some (by kernel_rfl))
  f284 := Tryd.func74.trans (congrArg some (by kernel_rfl))
  f285 := Tryd.func75.trans (congrArg some (by kernel_rfl))
  f286 := Tryd.func76.trans (congrArg some (by kernel_rfl))
  f317 := Tryd.func88.trans (congrArg some (by kernel_rfl))
  f318 := Tryd.func90.trans (congrArg some (by kernel_rfl))
  f319 := Tryd.func91.trans (congrArg some (by kernel_rfl))
  f320 := Tryd.func92.trans (congrArg some (by kernel_rfl))
  f337 := Tryd.func100.trans (congrArg some (by kernel_rfl))
  f338 := Tryd.func101.trans (congrArg some (by kernel_rfl))
  t0 := Tryd.underlying0
  a0 := Tryd.isAgg0
  z0 := Tryd.sizeOf0
  v0 := Tryd.zeroValue0
  t2 := Tryd.underlying2
  a2 := Tryd.isAgg2
  z2 := Tryd.sizeOf2
  v2 := Tryd.zeroValue2
  t3 := Tryd.underlying3
  a3 := Tryd.isAgg3
  z3 := Tryd.sizeOf3
  v3 := Tryd.zeroValue3
  t4 := Tryd.underlying4
  a4 := Tryd.isAgg4
  z4 := Tryd.sizeOf4
  v4 := Tryd.zeroValue4
  t5 := Tryd.underlying5
  a5 := Tryd.isAgg5
  z5 := Tryd.sizeOf5
  v5 := Tryd.zeroValue5
  t9 := Tryd.underlying9
  a9 := Tryd.isAgg9
  z9 := Tryd.sizeOf9
  v9 := Tryd.zeroValue9
  t20 := Tryd.underlying20
  a20 := Tryd.isAgg20
  z20 := Tryd.sizeOf20
  v20 := Tryd.zeroValue20
  t37 := Tryd.underlying56
  a37 := Tryd.isAgg56
  z37 := Tryd.sizeOf56
  v37 := Tryd.zeroValue56
  t46 := Tryd.underlying97
  a46 := Tryd.isAgg97
  z46 := Tryd.sizeOf97
  v46 := Tryd.zeroValue97
  t51 := Tryd.underlying106
  a51 := Tryd.isAgg106
  z51 := Tryd.sizeOf106
  v51 := Tryd.zeroValue106
  t53 := Tryd.underlying91
  a53 := Tryd.isAgg91
  z53 := Tryd.sizeOf91
  v53 := Tryd.zeroValue91
  t171 := Tryd.underlying90
  a171 := Tryd.isAgg90
  z171 := Tryd.sizeOf90
  v171 := Tryd.zeroValue90
  t173 := Tryd.underlying94
  a173 := Tryd.isAgg94
  z173 := Tryd.sizeOf94
  v173 := Tryd.zeroValue94
  t212 := Tryd.underlying105
  a212 := Tryd.isAgg105
  z212 := Tryd.sizeOf105
  v212 := Tryd.zeroValue105
  t213 := Tryd.underlying107
  a213 := Tryd.isAgg107
  z213 := Tryd.sizeOf107
  t232 := Tryd.underlying125
  a232 := Tryd.isAgg125
  z232 := Tryd.sizeOf125
  v232 := Tryd.zeroValue125
  t233 := Tryd.underlying126
  a233 := Tryd.isAgg126
  z233 := Tryd.sizeOf126
  v233 := Tryd.zeroValue126
  g17 := by kernel_rfl
  g18 := by kernel_rfl
  g19 := by kernel_rfl
  i0 := by kernel_rfl
  i2 := by kernel_rfl
  i3 := by kernel_rfl
  i4 := by kernel_rfl
  i5 := by kernel_rfl
  i9 := by kernel_rfl
  i20 := by kernel_rfl
  i37 := by kernel_rfl
  i46 := by kernel_rfl
  i51 := by kernel_rfl
  i53 := by kernel_rfl
  i171 := by kernel_rfl
  i173 := by kernel_rfl
  i212 := by kernel_rfl
  i232 := by kernel_rfl
  i233 := by kernel_rfl
  m17 := by kernel_rfl
  m18 := by kernel_rfl
  m19 := by kernel_rfl }
def Tryd.laysFormatInt_ren : Go.Shelf.Ren := ⟨fun | 173 => 46 | 246 => 62 | 283 => 73 | 284 => 74 | 285 => 75 | 286 => 76 | 129 => 89 | 317 => 88 | 318 => 90 | 319 => 91 | 320 => 92 | 337 => 100 | 338 => 101 | n => n, fun | 2 => 2 | 3 => 3 | 9 => 9 | 4 => 4 | 171 => 90 | 0 => 0 | 53 => 91 | 37 => 56 | 5 => 5 | 173 => 94 | 212 => 105 | 51 => 106 | 20 => 20 | 213 => 107 | 46 => 97 | 232 => 125 | 233 => 126 | n => n, fun | 17 => 1 | 18 => 6 | 19 => 7 | n => n⟩
theorem Tryd.laysFormatInt : Go.Proofs.LaysM.n173 Tryd.prog Tryd.laysFormatInt_ren := {
  mixed := by kernel_rfl
  f129 := Tryd.func89.trans (congrArg some (by kernel_rfl))
  f173 := Tryd.func46.trans (congrArg some (by kernel_rfl))
  f246 := Tryd.func62.trans (congrArg some (by kernel_rfl))
  f283 := Tryd.func73.trans (congrArg some (by kernel_rfl))
  f284 := Tryd.func74.trans (congrArg some (by kernel_rfl))
  f285 := Tryd.func75.trans (congrArg some (by kernel_rfl))
  f286 := Tryd.func76.trans (congrArg some (by kernel_rfl))
  f317 := Tryd.func88.trans (congrArg some (by kernel_rfl))
  f318 := Tryd.func90.trans (congrArg some (by kernel_rfl))
  f319 := Tryd.func91.trans (congrArg some (by kernel_rfl))
  f320 := Tryd.func92.trans (congrArg some (by kernel_rfl))
  f337 := Tryd.func100.trans (congrArg some (by kernel_rfl))
  f338 := Tryd.func101.trans (congrArg some (by kernel_rfl))
  t0 := Tryd.underlying0
  a0 := Tryd.isAgg0
  z0 := Tryd.sizeOf0
  v0 := Tryd.zeroValue0
  t2 := Tryd.underlying2
  a2 := Tryd.isAgg2
  z2 := Tryd.sizeOf2
  v2 := Tryd.zeroValue2
  t3 := Tryd.underlying3
  a3 := Tryd.isAgg3
  z3 := Tryd.sizeOf3
  v3 := Tryd.zeroValue3
  t4 := Tryd.underlying4
  a4 := Tryd.isAgg4
  z4 := Tryd.sizeOf4
  v4 := Tryd.zeroValue4
  t5 := Tryd.underlying5
  a5 := Tryd.isAgg5
  z5 := Tryd.sizeOf5
  v5 := Tryd.zeroValue5
  t9 := Tryd.underlying9
  a9 := Tryd.isAgg9
  z9 := Tryd.sizeOf9
  v9 := Tryd.zeroValue9
  t20 := Tryd.underlying20
  a20 := Tryd.isAgg20
  z20 := Tryd.sizeOf20
  v20 := Tryd.zeroValue20
  t37 := Tryd.underlying56
  a37 := Tryd.isAgg56
  z37 := Tryd.sizeOf56
  v37 := Tryd.zeroValue56
  t46 := Tryd.underlying97
  a46 := Tryd.isAgg97
  z46 := Tryd.sizeOf97
  v46 := Tryd.zeroValue97
  t51 := Tryd.underlying106
  a51 := Tryd.isAgg106
  z51 := Tryd.sizeOf106
  v51 := Tryd.zeroValue106
  t53 := Tryd.underlying91
  a53 := Tryd.isAgg91
  z53 := Tryd.sizeOf91
  v53 := Tryd.zeroValue91
  t171 := Tryd.underlying90
  a171 := Tryd.isAgg90
  z171 := Tryd.sizeOf90
  v171 := Tryd.zeroValue90
  t173 := Tryd.underlying94
  a173 := Tryd.isAgg94
  z173 := Tryd.sizeOf94
  v173 := Tryd.zeroValue94
  t212 := Tryd.underlying105
  a212 := Tryd.isAgg105
  z212 := Tryd.sizeOf105
  v212 := Tryd.zeroValue105
  t213 := Tryd.underlying107
  a213 := Tryd.isAgg107
  z213 := Tryd.sizeOf107
  t232 := Tryd.underlying125
  a232 := Tryd.isAgg125
  z232 := Tryd.sizeOf125
  v232 := Tryd.zeroValue125
  t233 := Tryd.underlying126
  a233 := Tryd.isAgg126
  z233 := Tryd.sizeOf126
  v233 := Tryd.zeroValue126
  g17 := by kernel_rfl
  g18 := by kernel_rfl
  g19 := by kernel_rfl
  i0 := by kernel_rfl
  i2 := by kernel_rfl
  i3 := by kernel_rfl
  i4 := by kernel_rfl
  i5 := by kernel_rfl
  i9 := by kernel_rfl
  i20 := by kernel_rfl
  i37 := by kernel_rfl
  i46 := by kernel_rfl
  i51 := by kernel_rfl
  i53 := by kernel_rfl
  i171 := by kernel_rfl
  i173 := by kernel_rfl
  i212 := by kernel_rfl
  i232 := by kernel_rfl
  i233 := by kernel_rfl
  m17 := by kernel_rfl
  m18 := by kernel_rfl
  m19 := by kernel_rfl }
def Tryd.laysContains_ren : Go.Shelf.Ren := ⟨fun | 144 => 52 | 143 => 58 | 219 => 69 | 217 => 78 | 225 => 79 | 224 => 80 | 267 => 81 | 266 => 93 | 314 => 94 | n => n, fun | 9 => 9 | 4 => 4 | 3 => 3 | 5 => 5 | 46 => 97 | 146 => 113 | 51 => 106 | n => n, fun | 1 => 0 | n => n⟩
theorem Tryd.laysContains : Go.Proofs.Lays.n144 Tryd.prog Tryd.laysContains_ren := {
  mixed := by kernel_rfl
  f143 := Tryd.func58.trans (congrArg some (by kernel_rfl))
  f144 := Tryd.func52.trans (congrArg some (by kernel_rfl))
  f217 := Tryd.func78.trans (congrArg some (by kernel_rfl))
  f219 := Tryd.func69.trans (congrArg some (by kernel_rfl))
  f224 := Tryd.func80.trans (congrArg some (by kernel_rfl))
  f225 := Tryd.func79.trans (congrArg some (by kernel_rfl))
  f266 := Tryd.func93.trans (congrArg some (by kernel_rfl))
  f267 := Tryd.func81.trans (congrArg some (by kernel_rfl))
  f314 := Tryd.func94.trans (congrArg some (by kernel_rfl))
  t3 := Tryd.underlying3
  a3 := Tryd.isAgg3
  z3 := Tryd.sizeOf3
  v3 := Tryd.zeroValue3
  t4 := Tryd.underlying4
  a4 := Tryd.isAgg4
  z4 := Tryd.sizeOf4
  v4 := Tryd.zeroValue4
  t5 := Tryd.underlying5
  a5 := Tryd.isAgg5
  z5 := Tryd.sizeOf5
  v5 := Tryd.zeroValue5
  t9 := Tryd.underlying9
  a9 := Tryd.isAgg9
  z9 := Tryd.sizeOf9
  v9 := Tryd.zeroValue9
  t46 := Tryd.underlying97
  a46 := Tryd.isAgg97
  z46 := Tryd.sizeOf97
  v46 := Tryd.zeroValue97
  t51 := Tryd.underlying106
  a51 := Tryd.isAgg106
  z51 := Tryd.sizeOf106
  v51 := Tryd.zeroValue106
  t146 := Tryd.underlying113
  a146 := Tryd.isAgg113
  z146 := Tryd.sizeOf113
  v146 := Tryd.zeroValue113
  g1 := by kernel_rfl }
def Tryd.laysTrimSuffix_ren : Go.Shelf.Ren := ⟨fun | 102 => 25 | 209 => 44 | 207 => 60 | n => n, fun | 9 => 9 | 4 => 4 | 3 => 3 | n => n, fun | n => n⟩
theorem Tryd.laysTrimSuffix : Go.Proofs.Lays.n102 Tryd.prog Tryd.laysTrimSuffix_ren := {
  mixed := by kernel_rfl
  f102 := Tryd.func25.trans (congrArg some (by kernel_rfl))
  f207 := Tryd.func60.trans (congrArg some (by kernel_rfl))
  f209 := Tryd.func44.trans (congrArg some (by kernel_rfl))
  t3 := Tryd.underlying3
  a3 := Tryd.isAgg3
  z3 := Tryd.sizeOf3
  v3 := Tryd.zeroValue3
  t4 := Tryd.underlying4
  a4 := Tryd.isAgg4
  z4 := Tryd.sizeOf4
  v4 := Tryd.zeroValue4
  t9 := Tryd.underlying9
  a9 := Tryd.isAgg9
  z9 := Tryd.sizeOf9
  v9 := Tryd.zeroValue9 }
def Tryd.laysJoin_ren : Go.Shelf.Ren := ⟨fun | 156 => 61 | 165 => 72 | 166 => 36 | 169 => 37 | 240 => 53 | 241 => 87 | 276 => 65 | 277 => 99 | n => n, fun | 31 => 45 | 9 => 9 | 3 => 3 | 4 => 4 | 0 => 0 | 20 => 20 | 72 => 58 | 76 => 61 | 70 => 55 | 37 => 56 | 75 => 60 | 127 => 75 | 164 => 82 | 5 => 5 | 80 => 63 | n => n, fun | n => n⟩
theorem Tryd.laysJoin : Go.Proofs.Lays.n156 Tryd.prog Tryd.laysJoin_ren := {
  mixed := by kernel_rfl
  f156 := Tryd.func61.trans (congrArg some (by kernel_rfl))
  f165 := Tryd.func72.trans (congrArg some (by kernel_rfl))
  f166 := Tryd.func36.trans (congrArg some (by kernel_rfl))
  f169 := Tryd.func37.trans (congrArg some (by kernel_rfl))
  f240 := Tryd.func53.trans (congrArg some (by kernel_rfl))
  f241 := Tryd.func87.trans (congrArg some (by kernel_rfl))
  f276 := Tryd.func65.trans (congrArg some (by kernel_rfl))
  f277 := Tryd.func99.trans (congrArg some (by kernel_rfl))
  t0 := Tryd.underlying0
  a0 := Tryd.isAgg0
  z0 := Tryd.sizeOf0
  v0 := Tryd.zeroValue0
  t3 := Tryd.underlying3
  a3 := Tryd.isAgg3
  z3 := Tryd.sizeOf3
  v3 := Tryd.zeroValue3
  t4 := Tryd.underlying4
  a4 := Tryd.isAgg4
  z4 := Tryd.sizeOf4
  v4 := Tryd.zeroValue4
  t9 := Tryd.underlying9
  a9 := Tryd.isAgg9
  z9 := Tryd.sizeOf9
  v9 := Tryd.zeroValue9
  t20 := Tryd.underlying20
  a20 := Tryd.isAgg20
  z20 := Tryd.sizeOf20
  v20 := Tryd.zeroValue20
  t31 := Tryd.underlying45
  a31 := Tryd.isAgg45
  z31 := Tryd.sizeOf45
  v31 := Tryd.zeroValue45
  t37 := Tryd.underlying56
  a37 := Tryd.isAgg56
  z37 := Tryd.sizeOf56
  v37 := Tryd.zeroValue56
  t70 := Tryd.underlying55
  a70 := Tryd.isAgg55
  z70 := Tryd.sizeOf55
  v70 := Tryd.zeroValue55
  t72 := Tryd.underlying58
  a72 := Tryd.isAgg58
  z72 := Tryd.sizeOf58
  v72 := Tryd.zeroValue58
  t75 := Tryd.underlying60
  a75 := Tryd.isAgg60
  z75 := Tryd.sizeOf60
  v75 := Tryd.zeroValue60
  t76 := Tryd.underlying61
  a76 := Tryd.isAgg61
  z76 := Tryd.sizeOf61
  v76 := Tryd.zeroValue61
  t127 := Tryd.underlying75
  a127 := Tryd.isAgg75
  z127 := Tryd.sizeOf75
  v127 := Tryd.zeroValue75
  t164 := Tryd.underlying82
  a164 := Tryd.isAgg82
  z164 := Tryd.sizeOf82
  v164 := Tryd.zeroValue82 }
def Tryd.laysSplit_ren : Go.Shelf.Ren := ⟨fun | 146 => 24 | 221 => 41 | 268 => 56 | 138 => 57 | 143 => 58 | 195 => 66 | 197 => 67 | 218 => 68 | 219 => 69 | 260 => 77 | 217 => 78 | 225 => 79 | 224 => 80 | 267 => 81 | 266 => 93 | 314 => 94 | n => n, fun | 9 => 9 | 31 => 45 | 3 => 3 | 4 => 4 | 0 => 0 | 105 => 85 | 21 => 21 | 5 => 5 | 46 => 97 | 119 => 109 | 139 => 112 | 138 => 111 | 146 => 113 | 51 => 106 | n => n, fun | 1 => 0 | 3 => 2 | 4 => 3 | n => n⟩
theorem Tryd.laysSplit : Go.Proofs.Lays.n146 Tryd.prog Tryd.laysSplit_ren := {
  mixed := by kernel_rfl
  f138 := Tryd.func57.trans (congrArg some (by kernel_rfl))
  f143 := Tryd.func58.trans (congrArg some (by kernel_rfl))
  f146 := Tryd.func24.trans (congrArg some (by kernel_rfl))
  f195 := Tryd.func66.trans (congrArg some (by kernel_rfl))
  f197 := Tryd.func67.trans (congrArg some (by kernel_rfl))
  f217 := Tryd.func78.trans (congrArg some (by kernel_rfl))
  f218 := Tryd.func68.trans (congrArg some (by kernel_rfl))
  f219 := Tryd.func69.trans (congrArg some (by kernel_rfl))
  f221 := Tryd.func41.trans (congrArg some (by kernel_rfl))
  f224 := Tryd.func80.trans (congrArg some (by kernel_rfl))
  f225 := Tryd.func79.trans (congrArg some (by kernel_rfl))
  f260 := Tryd.func77.trans (congrArg some (by kernel_rfl))
  f266 := Tryd.func93.trans (congrArg some (by kernel_rfl))
  f267 := Tryd.func81.trans (congrArg some (by kernel_rfl))
  f268 := Tryd.func56.trans (congrArg some (by kernel_rfl))
  f314 := Tryd.func94.trans (congrArg some (by kernel_rfl))
  t0 := Tryd.underlying0
  a0 := Tryd.isAgg0
  z0 := Tryd.sizeOf0
  v0 := Tryd.zeroValue0
  t3 := Tryd.underlying3
  a3 := Tryd.isAgg3
  z3 := Tryd.sizeOf3
  v3 := Tryd.zeroValue3
  t4 := Tryd.underlying4
  a4 := Tryd.isAgg4
  z4 := Tryd.sizeOf4
  v4 := Tryd.zeroValue4
  t5 := Tryd.underlying5
  a5 := Tryd.isAgg5
  z5 := Tryd.sizeOf5
  v5 := Tryd.zeroValue5
  t9 := Tryd.underlying9
  a9 := Tryd.isAgg9
  z9 := Tryd.sizeOf9
  v9 := Tryd.zeroValue9
  t21 := Tryd.underlying21
  a21 := Tryd.isAgg21
  z21 := Tryd.sizeOf21
  v21 := Tryd.zeroValue21
  t31 := Tryd.underlying45
  a31 := Tryd.isAgg45
  z31 := Tryd.sizeOf45
  v31 := Tryd.zeroValue45
  t46 := Tryd.underlying97
  a46 := Tryd.isAgg97
  z46 := Tryd.sizeOf97
  v46 := Tryd.zeroValue97
  t51 := Tryd.underlying106
  a51 := Tryd.isAgg106
  z51 := Tryd.sizeOf106
  v51 := Tryd.zeroValue106
  t105 := Tryd.underlying85
  a105 := Tryd.isAgg85
  z105 := Tryd.sizeOf85
  v105 := Tryd.zeroValue85
  t119 := Tryd.underlying109
  a119 := Tryd.isAgg109
  z119 := Tryd.sizeOf109
  t138 := Tryd.underlying111
  a138 := Tryd.isAgg111
  z138 := Tryd.sizeOf111
  v138 := Tryd.zeroValue111
  t139 := Tryd.underlying112
  a139 := Tryd.isAgg112
  z139 := Tryd.sizeOf112
  v139 := Tryd.zeroValue112
  t146 := Tryd.underlying113
  a146 := Tryd.isAgg113
  z146 := Tryd.sizeOf113
  v146 := Tryd.zeroValue113
  g1 := by kernel_rfl
  g3 := by kernel_rfl
  g4 := by kernel_rfl }
def Tryd.laysGen_ren : Go.Shelf.Ren := ⟨fun | 221 => 41 | 268 => 56 | 138 => 57 | 143 => 58 | 195 => 66 | 197 => 67 | 218 => 68 | 219 => 69 | 260 => 77 | 217 => 78 | 225 => 79 | 224 => 80 | 267 => 81 | 266 => 93 | 314 => 94 | n => n, fun | 9 => 9 | 3 => 3 | 31 => 45 | 4 => 4 | 0 => 0 | 105 => 85 | 21 => 21 | 5 => 5 | 46 => 97 | 119 => 109 | 139 => 112 | 138 => 111 | 146 => 113 | 51 => 106 | n => n, fun | 1 => 0 | 3 => 2 | 4 => 3 | n => n⟩
theorem Tryd.laysGen : Go.Proofs.Lays.n221 Tryd.prog Tryd.laysGen_ren := {
  mixed := by kernel_rfl
  f138 := Tryd.func57.trans (congrArg some (by kernel_rfl))
  f143 := Tryd.func58.trans (congrArg some (by kernel_rfl))
  f195 := Tryd.func66.trans (congrArg some (by kernel_rfl))
  f197 := Tryd.func67.trans (congrArg some (by kernel_rfl))
  f217 := Tryd.func78.trans (congrArg some (by kernel_rfl))
  f218 := Tryd.func68.trans (congrArg some (by kernel_rfl))
  f219 := Tryd.func69.trans (congrArg some (by kernel_rfl))
  f221 := Tryd.func41.trans (congrArg some (by kernel_rfl))
  f224 := Tryd.func80.trans (congrArg some (by kernel_rfl))
  f225 := Tryd.func79.trans (congrArg some (by kernel_rfl))
  f260 := Tryd.func77.trans (congrArg some (by kernel_rfl))
  f266 := Tryd.func93.trans (congrArg some (by kernel_rfl))
  f267 := Tryd.func81.trans (congrArg some (by kernel_rfl))
  f268 := Tryd.func56.trans (congrArg some (by kernel_rfl))
  f314 := Tryd.func94.trans (congrArg some (by kernel_rfl))
  t0 := Tryd.underlying0
  a0 := Tryd.isAgg0
  z0 := Tryd.sizeOf0
  v0 := Tryd.zeroValue0
  t3 := Tryd.underlying3
  a3 := Tryd.isAgg3
  z3 := Tryd.sizeOf3
  v3 := Tryd.zeroValue3
  t4 := Tryd.underlying4
  a4 := Tryd.isAgg4
  z4 := Tryd.sizeOf4
  v4 := Tryd.zeroValue4
  t5 := Tryd.underlying5
  a5 := Tryd.isAgg5
  z5 := Tryd.sizeOf5
  v5 := Tryd.zeroValue5
  t9 := Tryd.underlying9
  a9 := Tryd.isAgg9
  z9 := Tryd.sizeOf9
  v9 := Tryd.zeroValue9
  t21 := Tryd.underlying21
  a21 := Tryd.isAgg21
  z21 := Tryd.sizeOf21
  v21 := Tryd.zeroValue21
  t31 := Tryd.underlying45
  a31 := Tryd.isAgg45
  z31 := Tryd.sizeOf45
  v31 := Tryd.zeroValue45
  t46 := Tryd.underlying97
  a46 := Tryd.isAgg97
  z46 := Tryd.sizeOf97
  v46 := Tryd.zeroValue97
  t51 := Tryd.underlying106
  a51 := Tryd.isAgg106
  z51 := Tryd.sizeOf106
  v51 := Tryd.zeroValue106
  t105 := Tryd.underlying85
  a105 := Tryd.isAgg85
  z105 := Tryd.sizeOf85
  v105 := Tryd.zeroValue85
  t119 := Tryd.underlying109
  a119 := Tryd.isAgg109
  z119 := Tryd.sizeOf109
  t138 := Tryd.underlying111
  a138 := Tryd.isAgg111
  z138 := Tryd.sizeOf111
  v138 := Tryd.zeroValue111
  t139 := Tryd.underlying112
  a139 := Tryd.isAgg112
  z139 := Tryd.sizeOf112
  v139 := Tryd.zeroValue112
  t146 := Tryd.underlying113
  a146 := Tryd.isAgg113
  z146 := Tryd.sizeOf113
  v146 := Tryd.zeroValue113
  g1 := by kernel_rfl
  g3 := by kernel_rfl
  g4 := by kernel_rfl }
def Tryd.laysParse_ren : Go.Shelf.Ren := ⟨fun | 174 => 59 | 247 => 70 | 245 => 71 | 287 => 82 | 279 => 83 | 280 => 84 | 281 => 85 | 282 => 86 | 321 => 95 | 322 => 96 | 316 => 97 | 171 => 47 | 205 => 98 | 243 => 63 | 246 => 62 | 283 => 73 | 284 => 74 | 285 => 75 | 286 => 76 | 129 => 89 | 317 => 88 | 318 => 90 | 319 => 91 | 320 => 92 | 337 => 100 | 338 => 101 | n => n, fun | 9 => 9 | 3 => 3 | 2 => 2 | 75 => 60 | 85 => 79 | 4 => 4 | 167 => 98 | 5 => 5 | 53 => 91 | 175 => 99 | 46 => 97 | 168 => 101 | 37 => 56 | 0 => 0 | 210 => 118 | 21 => 21 | 127 => 75 | 145 => 124 | 143 => 122 | 171 => 90 | 173 => 94 | 212 => 105 | 51 => 106 | 20 => 20 | 213 => 107 | 232 => 125 | 233 => 126 | 80 => 63 | n => n, fun | 15 => 4 | 16 => 5 | 17 => 1 | 18 => 6 | 19 => 7 | n => n⟩
theorem Tryd.laysParse : Go.Proofs.LaysC.n174 Tryd.prog Tryd.laysParse_ren := {
  mixed := by kernel_rfl
  f129 := Tryd.func89.trans (congrArg some (by kernel_rfl))
  f171 := Tryd.func47.trans (congrArg some (by kernel_rfl))
  f174 := Tryd.func59.trans (congrArg some (by kernel_rfl))
  f205 := Tryd.func98.trans (congrArg some (by kernel_rfl))
  f243 := Tryd.func63.trans (congrArg some (by kernel_rfl))
  f245 := Tryd.func71.trans (congrArg some (by kernel_rfl))
  f246 := Tryd.func62.trans (congrArg some (by kernel_rfl))
  f247 := Tryd.func70.trans (congrArg some (by kernel_rfl))
  f279 := Tryd.func83.trans (congrArg some (by kernel_rfl))
  f280 := Tryd.func84.trans (congrArg some (by kernel_rfl))
  f281 := Tryd.func85.trans (congrArg some (by kernel_rfl))
  f282 := Tryd.func86.trans (congrArg some (by kernel_rfl))
  f283 := Tryd.func73.trans (congrArg some (by kernel_rfl))
  f284 := Tryd.func74.trans (congrArg some (by kernel_rfl))
  f285 := Tryd.func75.trans (congrArg some (by kernel_rfl))
  f286 := Tryd.func76.trans (congrArg some (by kernel_rfl))
  f287 := Tryd.func82.trans (congrArg some (by kernel_rfl))
  f316 := Tryd.func97.trans (congrArg some (by kernel_rfl))
  f317 := Tryd.func88.trans (congrArg some (by kernel_rfl))
  f318 := Tryd.func90.trans (congrArg some (by kernel_rfl))
  f319 := Tryd.func91.trans (congrArg some (by kernel_rfl))
  f320 := Tryd.func92.trans (congrArg some (by kernel_rfl))
  f321 := Tryd.func95.trans (congrArg some (by kernel_rfl))
  f322 := Tryd.func96.trans (congrArg some (by kernel_rfl))
  f337 := Tryd.func100.trans (congrArg some (by kernel_rfl))
  f338 := Tryd.func101.trans (congrArg some (by kernel_rfl))
  t0 := Tryd.underlying0
  a0 := Tryd.isAgg0
  z0 := Tryd.sizeOf0
  v0 := Tryd.zeroValue0
  t2 := Tryd.underlying2
  a2 := Tryd.isAgg2
  z2 := Tryd.sizeOf2
  v2 := Tryd.zeroValue2
  t3 := Tryd.underlying3
  a3 := Tryd.isAgg3
  z3 := Tryd.sizeOf3
  v3 := Tryd.zeroValue3
  t4 := Tryd.underlying4
  a4 := Tryd.isAgg4
  z4 := Tryd.sizeOf4
  v4 := Tryd.zeroValue4
  t5 := Tryd.underlying5
  a5 := Tryd.isAgg5
  z5 := Tryd.sizeOf5
  v5 := Tryd.zeroValue5
  t9 := Tryd.underlying9
  a9 := Tryd.isAgg9
  z9 := Tryd.sizeOf9
  v9 := Tryd.zeroValue9
  t20 := Tryd.underlying20
  a20 := Tryd.isAgg20
  z20 := Tryd.sizeOf20
  v20 := Tryd.zeroValue20
  t21 := Tryd.underlying21
  a21 := Tryd.isAgg21
  z21 := Tryd.sizeOf21
  v21 := Tryd.zeroValue21
  t37 := Tryd.underlying56
  a37 := Tryd.isAgg56
  z37 := Tryd.sizeOf56
  v37 := Tryd.zeroValue56
  t46 := Tryd.underlying97
  a46 := Tryd.isAgg97
  z46 := Tryd.sizeOf97
  v46 := Tryd.zeroValue97
  t51 := Tryd.underlying106
  a51 := Tryd.isAgg106
  z51 := Tryd.sizeOf106
  v51 := Tryd.zeroValue106
  t53 := Tryd.underlying91
  a53 := Tryd.isAgg91
  z53 := Tryd.sizeOf91
  v53 := Tryd.zeroValue91
  t75 := Tryd.underlying60
  a75 := Tryd.isAgg60
  z75 := Tryd.sizeOf60
  v75 := Tryd.zeroValue60
  t85 := Tryd.underlying79
  a85 := Tryd.isAgg79
  z85 := Tryd.sizeOf79
  v85 := Tryd.zeroValue79
  t127 := Tryd.underlying75
  a127 := Tryd.isAgg75
  z127 := Tryd.sizeOf75
  v127 := Tryd.zeroValue75
  t143 := Tryd.underlying122
  a143 := Tryd.isAgg122
  z143 := Tryd.sizeOf122
  v143 := Tryd.zeroValue122
  t145 := Tryd.underlying124
  a145 := Tryd.isAgg124
  z145 := Tryd.sizeOf124
  v145 := Tryd.zeroValue124
  t167 := Tryd.underlying98
  a167 := Tryd.isAgg98
  z167 := Tryd.sizeOf98
  v167 := Tryd.zeroValue98
  t168 := Tryd.underlying101
  a168 := Tryd.isAgg101
  z168 := Tryd.sizeOf101
  v168 := Tryd.zeroValue101
  t171 := Tryd.underlying90
  a171 := Tryd.isAgg90
  z171 := Tryd.sizeOf90
  v171 := Tryd.zeroValue90
  t173 := Tryd.underlying94
  a173 := Tryd.isAgg94
  z173 := Tryd.sizeOf94
  v173 := Tryd.zeroValue94
  t175 := Tryd.underlying99
  a175 := Tryd.isAgg99
  z175 := Tryd.sizeOf99
  v175 := Tryd.zeroValue99
  t210 := Tryd.underlying118
  a210 := Tryd.isAgg118
  z210 := Tryd.sizeOf118
  v210 := Tryd.zeroValue118
  t212 := Tryd.underlying105
  a212 := Tryd.isAgg105
  z212 := Tryd.sizeOf105
  v212 := Tryd.zeroValue105
  t213 := Tryd.underlying107
  a213 := Tryd.isAgg107
  z213 := Tryd.sizeOf107
  t232 := Tryd.underlying125
  a232 := Tryd.isAgg125
  z232 := Tryd.sizeOf125
  v232 := Tryd.zeroValue125
  t233 := Tryd.underlying126
  a233 := Tryd.isAgg126
  z233 := Tryd.sizeOf126
  v233 := Tryd.zeroValue126
  g15 := by kernel_rfl
  g16 := by kernel_rfl
  g17 := by kernel_rfl
  g18 := by kernel_rfl
  g19 := by kernel_rfl
  t80 := Tryd.underlying63
  a80 := Tryd.isAgg63
  z80 := Tryd.sizeOf63
  v80 := Tryd.zeroValue63
  i0 := by kernel_rfl
  i2 := by kernel_rfl
  i3 := by kernel_rfl
  i4 := by kernel_rfl
  i5 := by kernel_rfl
  i9 := by kernel_rfl
  i20 := by kernel_rfl
  i21 := by kernel_rfl
  i37 := by kernel_rfl
  i46 := by kernel_rfl
  i51 := by kernel_rfl
  i53 := by kernel_rfl
  i75 := by kernel_rfl
  i80 := by kernel_rfl
  i85 := by kernel_rfl
  i127 := by kernel_rfl
  i143 := by kernel_rfl
  i145 := by kernel_rfl
  i167 := by kernel_rfl
  i168 := by kernel_rfl
  i171 := by kernel_rfl
  i173 := by kernel_rfl
  i175 := by kernel_rfl
  i210 := by kernel_rfl
  i212 := by kernel_rfl
  i232 := by kernel_rfl
  i233 := by kernel_rfl
  m15 := by kernel_rfl
  m16 := by kernel_rfl
  m17 := by kernel_rfl
  m18 := by kernel_rfl
  m19 := by kernel_rfl
  c0 := by kernel_rfl
  c2 := by kernel_rfl
  c3 := by kernel_rfl
  c4 := by kernel_rfl
  c5 := by kernel_rfl
  c9 := by kernel_rfl
  c20 := by kernel_rfl
  c21 := by kernel_rfl
  c37 := by kernel_rfl
  c46 := by kernel_rfl
  c51 := by kernel_rfl
  c53 := by kernel_rfl
  c75 := by kernel_rfl
  c80 := by kernel_rfl
  c85 := by kernel_rfl
  c127 := by kernel_rfl
  c143 := by kernel_rfl
  c145 := by kernel_rfl
  c167 := by kernel_rfl
  c168 := by kernel_rfl
  c171 := by kernel_rfl
  c173 := by kernel_rfl
  c175 := by kernel_rfl
  c210 := by kernel_rfl
  c212 := by kernel_rfl
  c213 := by kernel_rfl
  c232 := by kernel_rfl
  c233 := by kernel_rfl }
theorem Tryd.extra : Builder.Extra Tryd.prog Tryd.laysJoin_ren := {
  sizeBuilder := by kernel_rfl
  liesBuilder := by kernel_rfl
  t5 := by kernel_rfl
  a5 := fun w => by kernel_rfl
  z5 := fun w => by kernel_rfl
  v5 := fun w => by kernel_rfl
  infoByte := by kernel_rfl
  cellsByte := by kernel_rfl
  sizeByte := by kernel_rfl
  neB5 := by decide }
end Go.Proofs
namespace Go.Am
open Go.Proofs Go.Shelf
section
variable {K : Nat} {gw : World} {s : St}
attribute [local simp] awanted xop zOf zrow aop ev T0 Slots.put Slots.set Slots.get awr WOk AV.may ofConst abinop aint isConst St.get_push St.get_put St.live AV.fit AV.cells AV.one fieldOf afieldAddr aload ofCells astore splice May eqres env_ti FinP FinZ FinW ares aresL ares1 Fns.addP Fns.add Fns.a0 Fns.a1 Fns.a2 Fns.a3 Fns.a4 abuiltin alenOk alen aindex elemOfT elemId abuildSlice afill chunks ard aappend isSS AV.isStr aminmax placesOf abuild afield aidx isStrD isStrDesc astrop aslice asliceOk abound arange anext aextract aunop aeq AV.ck avseq aveq aconv aconvert onB_t onB_f List.range_succ ti0 ti1 ti2 ti3 ti4 ti5 ti6 ti7 ti8 ti9 ti10 ti11 ti12 ti13 ti14 ti15 ti16 ti17 ti18 ti19 ti20 ti21 ti22 ti23 ti24 ti25 ti26 ti27 ti28 ti29 ti30 ti31 ti32 ti33 ti34 ti35 ti36 ti37 ti38 ti39 ti40 ti41 ti42 ti43 ti44 ti45 ti46 ti47 ti48 ti49 ti50 ti51 ti52 ti53 ti54 ti55 ti56 ti57 ti58 ti59 ti60 ti61 ti62 ti63 ti64 ti65 ti66 ti67 ti68 ti69 ti70 ti71 ti72 ti73 ti74 ti75 ti76 ti77 ti78 ti79 ti80 ti81 ti82 ti83 ti84 ti85 ti86 ti87 ti88 ti89 ti90 ti91 ti92 ti93 ti94 ti95 ti96 ti97 ti98 ti99 ti100 ti101
theorem one_int {μ : Mu} {w : World} {k : IntKind} {n : Int} {vs : Array Value} (hv : VRs μ s w [.int k n] vs) : vs = #[.int k n] := by
  have hs : vs.size = 1 := by rw [← hv.1]; rfl
  obtain ⟨v, rfl⟩ : ∃ v, vs = #[v] := ⟨vs[0], Array.ext (by simpa using hs) (fun i h1 h2 => by simp at h2; subst h2; rfl)⟩
  have hx := hv.2 0 _ v rfl rfl
  cases hx
  rfl
theorem two_args {μ : Mu} {w : World} {x y : AV} {vs : Array Value} (hv : VRs μ s w [x, y] vs) : ∃ u v, vs = #[u, v] ∧ VR μ s w x u ∧ VR μ s w y v := by
  have hs : vs.size = 2 := by rw [← hv.1]; rfl
  obtain ⟨v0, v1, rfl⟩ : ∃ v0 v1, vs = #[v0, v1] := ⟨vs[0], vs[1], Array.ext (by simpa using hs) (fun i h1 h2 => by
    simp at h2
    match i, h2 with
    | 0, _ => rfl
    | 1, _ => rfl)⟩
  exact ⟨v0, v1, rfl, hv.2 0 _ v0 rfl rfl, hv.2 1 _ v1 rfl rfl⟩
theorem two_strs {μ : Mu} {w : World} {x y : List UInt8} {vs : Array Value} (hv : VRs μ s w [.str x, .str y] vs) : vs = #[.string ⟨x.toArray⟩, .string ⟨y.toArray⟩] := by
  obtain ⟨u, v, rfl, h0, h1⟩ := two_args hv
  cases h0; cases h1
  rfl
theorem three_args {μ : Mu} {w : World} {x y z : AV} {vs : Array Value} (hv : VRs μ s w [x, y, z] vs) : ∃ u v t, vs = #[u, v, t] ∧ VR μ s w x u ∧ VR μ s w y v ∧ VR μ s w z t := by
  have hs : vs.size = 3 := by rw [← hv.1]; rfl
  obtain ⟨v0, v1, v2, rfl⟩ : ∃ v0 v1 v2, vs = #[v0, v1, v2] := ⟨vs[0], vs[1], vs[2], Array.ext (by simpa using hs) (fun i h1 h2 => by
    simp at h2
    match i, h2 with
    | 0, _ => rfl
    | 1, _ => rfl
    | 2, _ => rfl)⟩
  exact ⟨v0, v1, v2, rfl, hv.2 0 _ v0 rfl rfl, hv.2 1 _ v1 rfl rfl, hv.2 2 _ v2 rfl rfl⟩
theorem four_args {μ : Mu} {w : World} {x y z t : AV} {vs : Array Value} (hv : VRs μ s w [x, y, z, t] vs) : ∃ u v p q, vs = #[u, v, p, q] ∧ VR μ s w x u ∧ VR μ s w y v ∧ VR μ s w z p ∧ VR μ s w t q := by
  have hs : vs.size = 4 := by rw [← hv.1]; rfl
  obtain ⟨v0, v1, v2, v3, rfl⟩ : ∃ v0 v1 v2 v3, vs = #[v0, v1, v2, v3] := ⟨vs[0], vs[1], vs[2], vs[3], Array.ext (by simpa using hs) (fun i h1 h2 => by
    simp at h2
    match i, h2 with
    | 0, _ => rfl
    | 1, _ => rfl
    | 2, _ => rfl
    | 3, _ => rfl)⟩
  exact ⟨v0, v1, v2, v3, rfl, hv.2 0 _ v0 rfl rfl, hv.2 1 _ v1 rfl rfl, hv.2 2 _ v2 rfl rfl, hv.2 3 _ v3 rfl rfl⟩
theorem vr_str {μ : Mu} {w : World} (x : List UInt8) : VR μ s w (.str x) (.string ⟨x.toArray⟩) := .str ⟨x.toArray⟩
theorem vr_pair {μ : Mu} {w : World} {x y : AV} {u v : Value} (h1 : VR μ s w x u) (h2 : VR μ s w y v) : VR μ s w (.tup [x, y]) (.tuple #[u, v]) :=
  .tup _ _ rfl fun i a b ha hb => by
    match i, ha, hb with
    | 0, ha, hb => simp at ha hb; subst ha; subst hb; exact h1
    | 1, ha, hb => simp at ha hb; subst ha; subst hb; exact h2
theorem tens_of {μ : Mu} {w : World} (hG : GW K gw) (hR : Rel (env K gw) μ s w) : Lib.TabIs Tryd.prog w "internal/strconv.uint64pow10" .u64 Lib.pow10Tab := by
  have hT := hG.tens
  have hg : Tryd.prog.globalNamed "internal/strconv.uint64pow10" = some 1 := by kernel_rfl
  unfold Lib.TabIs World.var? at *
  rw [hg] at *
  have := hR.gl 1 (show _ < K by have := hG.big; omega)
  simp only [Option.bind_some] at hT ⊢
  rw [this]
  exact hT
def i64ok (n : Int) : Bool := decide (-9223372036854775808 ≤ n ∧ n ≤ 9223372036854775807)
theorem ft_Itoa (hG : GW K gw) {n : Int} (h0 : -9223372036854775808 ≤ n) (h1 : n ≤ 9223372036854775807) : FT (env K gw) NoW 47 [.int .i64 n] s (.str (Lib.itoa n)) s := by
  refine FT.below (fnOk env_P Tryd.func47 (by rfl) (by rfl)) fun μ w vs hR hv => ?_
  obtain rfl := one_int hv
  refine Calls.mono (Any.strconv_Itoa Tryd.laysItoa n h0 h1 w (tens_of hG hR)) fun e w' he => ?_
  obtain ⟨rfl, k, os, rfl⟩ := he
  exact ⟨_, rfl, .str ⟨(Lib.itoa n).toArray⟩, Lib.below_grow _ w (Nat.le_refl _) k os⟩
theorem ft_FormatInt (hG : GW K gw) {n : Int} (h0 : -9223372036854775808 ≤ n) (h1 : n ≤ 9223372036854775807) : FT (env K gw) NoW 46 [.int .i64 n, .int .i64 10] s (.str (Lib.itoa n)) s := by
  refine FT.below (fnOk env_P Tryd.func46 (by rfl) (by rfl)) fun μ w vs hR hv => ?_
  obtain ⟨u, v, rfl, hx, hy⟩ := two_args hv
  cases hx; cases hy
  refine Calls.mono (Any.strconv_FormatInt_10 Tryd.laysFormatInt n h0 h1 w (tens_of hG hR)) fun e w' he => ?_
  obtain ⟨rfl, k, os, rfl⟩ := he
  exact ⟨_, rfl, .str ⟨(Lib.itoa n).toArray⟩, Lib.below_grow _ w (Nat.le_refl _) k os⟩
theorem ft_Contains (x : Str) (c : UInt8) : FT (env K gw) NoW 52 [.str x, .str [c]] s (.bool (decide (0 ≤ Lib.indexByte x c))) s := by
  refine FT.below (fnOk env_P Tryd.func52 (by rfl) (by rfl)) fun μ w vs hR hv => ?_
  obtain rfl := two_strs hv
  refine Calls.mono (Any.strings_Contains_one Tryd.laysContains ⟨x.toArray⟩ c w) fun e w' he => ?_
  obtain ⟨rfl, rfl⟩ := he
  exact ⟨_, rfl, .bool _, Go.RowKit.Below.refl _ _⟩
theorem ft_TrimSuffix (x p : Str) (hl : x.length < LIM) : FT (env K gw) NoW 25 [.str x, .str p] s (.str (Lib.trimSuffix x p)) s := by
  refine FT.below (fnOk env_P Tryd.func25 (by rfl) (by rfl)) fun μ w vs hR hv => ?_
  obtain rfl := two_strs hv
  have hz : (⟨x.toArray⟩ : ByteArray).size ≤ 9223372036854775807 := by
    have : (⟨x.toArray⟩ : ByteArray).size = x.length := by simp [ByteArray.size]
    simp only [LIM] at hl; omega
  refine Calls.mono (Any.strings_TrimSuffix Tryd.laysTrimSuffix ⟨x.toArray⟩ ⟨p.toArray⟩ w hz) fun e w' he => ?_
  obtain ⟨rfl, rfl⟩ := he
  exact ⟨_, rfl, vr_str _, Go.RowKit.Below.refl _ _⟩
theorem ft_Join (l : List Str) (p : Str) (h1 : l.length ≤ 140737488355328) (h2 : (Lib.join l p).length ≤ 140737488355328) : FT (env K gw) NoW 61 [.sl (l.map sc), .str p] s (.str (Lib.join l p)) s := by
  refine FT.below (fnOk env_P Tryd.func61 (by rfl) (by rfl)) fun μ w vs hR hv => ?_
  obtain ⟨u, v, rfl, hx, hy⟩ := two_args hv
  cases hy with
  | str p =>
  rcases strs_cells hx with ⟨rfl, a, c0, rfl⟩ | ⟨b, o, c, rfl, hc, hb, hcell⟩
  · refine Calls.mono (Any.strings_Join_none Tryd.laysJoin Tryd.extra a c0 p w) fun e w' he => ?_
    obtain ⟨rfl, rfl⟩ := he
    exact ⟨_, rfl, vr_str [], Go.RowKit.Below.refl _ _⟩
  · have hm : (l.map fun x => (⟨x.toArray⟩ : ByteArray)).map (·.data.toList) = l := by simp [Function.comp_def]
    have key := Any.strings_Join Tryd.laysJoin Tryd.extra b o c (l.map fun x => ⟨x.toArray⟩) p w (fun j x hx => by
      rw [List.getElem?_map] at hx
      cases hg : l[j]? with
      | none => rw [hg] at hx; cases hx
      | some y =>
        rw [hg] at hx
        obtain rfl := Option.some.inj hx
        exact hcell j y hg) hb (by simpa using h1) (by simpa using hc) (by rw [hm]; exact h2)
    rw [hm, List.length_map] at key
    refine Calls.mono key fun e w' he => ?_
    obtain ⟨rfl, hbl⟩ := he
    exact ⟨_, rfl, vr_str _, hbl⟩
/-- A text in pieces, at each byte c. -/
def splitC (c : UInt8) (sv : Nat) : Str → List Str
  | [] => [[]]
  | b :: l => if b == c then [b].take sv :: splitC c sv l else match splitC c sv l with
    | h :: t => (b :: h) :: t
    | [] => [[b]]
theorem splitC_ne (c : UInt8) (sv : Nat) (x : Str) : ∃ h t, splitC c sv x = h :: t := by
  induction x with
  | nil => exact ⟨_, _, rfl⟩
  | cons b l ih =>
    unfold splitC
    split
    · exact ⟨_, _, rfl⟩
    · obtain ⟨h, t, e⟩ := ih
      rw [e]
      exact ⟨_, _, rfl⟩
theorem index_hit (c : UInt8) (l : Str) : Lib.index (c :: l) [c] = 0 := by simp [Lib.index]
theorem index_miss {b c : UInt8} (h : ¬ b = c) (l : Str) : Lib.index (b :: l) [c] = if Lib.index l [c] == -1 then -1 else Lib.index l [c] + 1 := by
  have : ¬ c = b := fun e => h e.symm
  simp [Lib.index, this]
theorem index_ge (c : UInt8) (l : Str) : Lib.index l [c] = -1 ∨ 0 ≤ Lib.index l [c] := by
  induction l with
  | nil => left; simp [Lib.index]
  | cons b l ih =>
    by_cases h : b = c
    · subst h; rw [index_hit]; right; omega
    · rw [index_miss h]
      rcases ih with h1 | h1
      · rw [h1]; left; rfl
      · right
        split <;> simp_all <;> omega
theorem splitK_cons {b c : UInt8} (h : ¬ b = c) (sv k : Nat) (l : Str) : Lib.splitK [c] sv k (b :: l) = (match Lib.splitK [c] sv k l with
    | h :: t => (b :: h) :: t
    | [] => [[b]]) := by
  cases k with
  | zero => rfl
  | succ k =>
    unfold Lib.splitK
    rw [index_miss h]
    rcases index_ge c l with h1 | h1
    · rw [h1]; rfl
    · have e1 : (Lib.index l [c] == -1) = false := by simp; omega
      have e2 : (Lib.index l [c] + 1 == -1) = false := by simp; omega
      have e3 : (Lib.index l [c] + 1).toNat = (Lib.index l [c]).toNat + 1 := by omega
      simp only [e1, Bool.false_eq_true, if_false, e2, e3]
      have e4 : (Lib.index l [c]).toNat + 1 + sv = ((Lib.index l [c]).toNat + sv) + 1 := by omega
      rw [e4]
      simp
theorem splitK_count (c : UInt8) (sv : Nat) (hsv : sv ≤ 1) (x : Str) : Lib.splitK [c] sv (x.count c) x = splitC c sv x := by
  induction x with
  | nil => rfl
  | cons b l ih =>
    by_cases h : b = c
    · subst h
      rw [List.count_cons_self]
      unfold Lib.splitK splitC
      rw [index_hit]
      simp only [beq_self_eq_true, if_true]
      have : ((0 : Int) == -1) = false := rfl
      simp only [this, Bool.false_eq_true, if_false, Int.toNat_zero, Nat.zero_add, List.length_singleton, List.drop_succ_cons, List.drop_zero, ih]
      congr 1
      match sv, hsv with
      | 0, _ => rfl
      | 1, _ => rfl
    · rw [List.count_cons_of_ne h, splitK_cons h, ih]
      conv => rhs; unfold splitC
      obtain ⟨y, t, e⟩ := splitC_ne c sv l
      rw [e]
      simp [h]
theorem ft_Split (hG : GW K gw) (x : Str) (c : UInt8) (hl : x.length < 4294967281) : FT (env K gw) NoW 24 [.str x, .str [c]] s (.sl ((splitC c 0 x).map sc)) s := by
  refine FT.below2 (fnOk env_P Tryd.func24 (by rfl) (by rfl)) fun μ w vs hR hv => ?_
  obtain rfl := two_strs hv
  obtain ⟨m, hm⟩ := hG.max
  have hz : (⟨x.toArray⟩ : ByteArray).size < 4294967281 := by
    have : (⟨x.toArray⟩ : ByteArray).size = x.length := by simp [ByteArray.size]
    omega
  have h1 : 1 ≤ (⟨[c].toArray⟩ : ByteArray).size := by simp [ByteArray.size]
  refine Calls.mono (Any.strings_Split Tryd.laysSplit (by kernel_rfl) ⟨x.toArray⟩ ⟨[c].toArray⟩ m w hz ((cell_gl hR (g := 0) (by have := hG.big; omega)).trans hm) h1) fun e w' he => ?_
  obtain ⟨rfl, rfl⟩ := he
  have hcnt : Lib.countB ⟨x.toArray⟩ ⟨[c].toArray⟩ = x.count c := (Lib.count_one c x)
  have hlen := Lib.splitB_all ⟨[c].toArray⟩ h1 0 _ ⟨x.toArray⟩ rfl
  refine ⟨_, rfl, ?_, ?_⟩
  · have e : (splitC c 0 x).map sc = (Lib.splitB ⟨[c].toArray⟩ 0 (Lib.countB ⟨x.toArray⟩ ⟨[c].toArray⟩) ⟨x.toArray⟩).map fun y => sc y.data.toList := by
      rw [← splitK_count c 0 (by omega) x, ← hcnt]
      have := Lib.splitB_data ⟨[c].toArray⟩ 0 (Lib.countB ⟨x.toArray⟩ ⟨[c].toArray⟩) ⟨x.toArray⟩
      simp only [] at this
      rw [← this, List.map_map]; rfl
    rw [e]
    refine vr_new_strs hR rfl (by rw [hlen]) (Nat.le_refl _) fun j y hy => ?_
    simp [hy]
  · exact (Go.RowKit.Below.refl _ _).alloc (Nat.le_refl _) _
end
end Go.Am
namespace Go.Am
open Go.Proofs Go.Shelf
section
variable {K : Nat} {gw : World} {s : St}
attribute [local simp] awanted xop zOf zrow aop ev T0 Slots.put Slots.set Slots.get awr WOk AV.may ofConst abinop aint isConst St.get_push St.get_put St.live AV.fit AV.cells AV.one fieldOf afieldAddr aload ofCells astore splice May eqres env_ti FinP FinZ FinW ares aresL ares1 Fns.addP Fns.add Fns.a0 Fns.a1 Fns.a2 Fns.a3 Fns.a4 abuiltin alenOk alen aindex elemOfT elemId abuildSlice afill chunks ard aappend isSS AV.isStr aminmax placesOf abuild afield aidx isStrD isStrDesc astrop aslice asliceOk abound arange anext aextract aunop aeq AV.ck avseq aveq aconv aconvert onB_t onB_f List.range_succ ti0 ti1 ti2 ti3 ti4 ti5 ti6 ti7 ti8 ti9 ti10 ti11 ti12 ti13 ti14 ti15 ti16 ti17 ti18 ti19 ti20 ti21 ti22 ti23 ti24 ti25 ti26 ti27 ti28 ti29 ti30 ti31 ti32 ti33 ti34 ti35 ti36 ti37 ti38 ti39 ti40 ti41 ti42 ti43 ti44 ti45 ti46 ti47 ti48 ti49 ti50 ti51 ti52 ti53 ti54 ti55 ti56 ti57 ti58 ti59 ti60 ti61 ti62 ti63 ti64 ti65 ti66 ti67 ti68 ti69 ti70 ti71 ti72 ti73 ti74 ti75 ti76 ti77 ti78 ti79 ti80 ti81 ti82 ti83 ti84 ti85 ti86 ti87 ti88 ti89 ti90 ti91 ti92 ti93 ti94 ti95 ti96 ti97 ti98 ti99 ti100 ti101
theorem ft_genSplit (hG : GW K gw) (x : Str) (c : UInt8) (hl : x.length < 4294967281) : FT (env K gw) NoW 41 [.str x, .str [c], .int .i64 1, .int .i64 (-1)] s (.sl ((splitC c 1 x).map sc)) s := by
  refine FT.below2 (fnOk env_P Tryd.func41 (by rfl) (by rfl)) fun μ w vs hR hv => ?_
  obtain ⟨u, v, p, q, rfl, h0, h1, h2, h3⟩ := four_args hv
  generalize hX : x = X at h0
  generalize hC : [c] = Y at h1
  cases h0 with
  | str bx =>
  cases h1 with
  | str bc =>
  cases h2; cases h3
  obtain rfl : bx = ⟨x.toArray⟩ := by rw [hX]
  obtain rfl : bc = ⟨[c].toArray⟩ := by rw [hC]
  obtain ⟨m, hm⟩ := hG.max
  have hz : (⟨x.toArray⟩ : ByteArray).size < 4294967281 := by
    have : (⟨x.toArray⟩ : ByteArray).size = x.length := by simp [ByteArray.size]
    omega
  have h1 : 1 ≤ (⟨[c].toArray⟩ : ByteArray).size := by simp [ByteArray.size]
  have hle := Lib.countB_le ⟨[c].toArray⟩ h1 _ ⟨x.toArray⟩ (Nat.le_refl _)
  have hlen := Lib.splitB_all ⟨[c].toArray⟩ h1 1 _ ⟨x.toArray⟩ rfl
  refine Calls.mono (Any.strings_genSplit Tryd.laysGen (by kernel_rfl) ⟨x.toArray⟩ ⟨[c].toArray⟩ 1 (-1) (Lib.countB ⟨x.toArray⟩ ⟨[c].toArray⟩ + 1) m w hz ((cell_gl hR (g := 0) (by have := hG.big; omega)).trans hm) h1 (by simp [ByteArray.size]) (by decide) (by decide)
    (by rw [if_pos (by decide)]; omega)) fun e w' he => ?_
  rw [Nat.add_sub_cancel, hlen] at he
  obtain ⟨rfl, rfl⟩ := he
  have hcnt : Lib.countB ⟨x.toArray⟩ ⟨[c].toArray⟩ = x.count c := (Lib.count_one c x)
  refine ⟨_, rfl, ?_, ?_⟩
  · have e : (splitC c 1 x).map sc = (Lib.splitB ⟨[c].toArray⟩ 1 (Lib.countB ⟨x.toArray⟩ ⟨[c].toArray⟩) ⟨x.toArray⟩).map fun y => sc y.data.toList := by
      rw [← splitK_count c 1 (by omega) x, ← hcnt]
      have := Lib.splitB_data ⟨[c].toArray⟩ 1 (Lib.countB ⟨x.toArray⟩ ⟨[c].toArray⟩) ⟨x.toArray⟩
      simp only [] at this
      rw [← this, List.map_map]; rfl
    rw [e]
    refine vr_new_strs hR rfl (by rw [hlen]) (Nat.le_refl _) fun j y hy => ?_
    have hj : j < (Lib.splitB ⟨[c].toArray⟩ 1 (Lib.countB ⟨x.toArray⟩ ⟨[c].toArray⟩) ⟨x.toArray⟩).length := (List.getElem?_eq_some_iff.1 hy).1
    simp [Lib.cellsOf, List.getElem?_append, hy, hj]
    exact (List.getElem?_eq_some_iff.1 hy).2
  · exact (Go.RowKit.Below.refl _ _).alloc (Nat.le_refl _) _
def numI (x : Str) : Int := match Lib.parseIntB 64 x with
  | .ok v => v
  | .range => Lib.intSat 64 x
  | _ => 0
theorem ft_ParseInt (hG : GW K gw) (x : Str) (hl : x.length ≤ 100000000) : FT (env K gw) NoW 59 [.str x, .int .i64 10, .int .i64 64] s (.tup [.int .i64 (numI x), .junk]) s := by
  refine FT.below (fnOk env_P Tryd.func59 (by rfl) (by rfl)) fun μ w vs hR hv => ?_
  obtain ⟨u, v, p, rfl, h0, h1, h2⟩ := three_args hv
  generalize hX : x = X at h0
  cases h0 with
  | str bx =>
  obtain rfl : bx = ⟨x.toArray⟩ := by rw [hX]
  cases h1; cases h2
  have hz : (⟨x.toArray⟩ : ByteArray).size ≤ 100000000 := by simpa [ByteArray.size] using hl
  have big := hG.big
  unfold numI
  rcases hx : Lib.parseIntB 64 x with v | _ | _
  · skip
    refine Calls.mono (Any.strconv_ParseInt_10_at64_ok Tryd.laysParse ⟨x.toArray⟩ (by omega) v (by simpa using hx) w) fun e w' he => ?_
    obtain ⟨rfl, rfl | ⟨t, rfl⟩⟩ := he
    · exact ⟨_, rfl, vr_pair (.int _ _) (.junk _), Go.RowKit.Below.refl _ _⟩
    · exact ⟨_, rfl, vr_pair (.int _ _) (.junk _), Go.Joins.below_bytesWorld _ _ _ _ (Nat.le_refl _)⟩
  · obtain ⟨te, pe, h2⟩ := hG.syn
    refine Calls.mono (Any.strconv_ParseInt_10_at64_syntax Tryd.laysParse ⟨x.toArray⟩ (by omega) (by simpa using hx) (.iface te pe) w ((cell_gl hR (g := 4) (by omega)).trans h2) (.inr ⟨_, _, rfl⟩)) fun e w' he => ?_
    obtain ⟨N, rfl, _, _, hb⟩ := he
    exact ⟨_, rfl, vr_pair (.int _ _) (.junk _), hb⟩
  · obtain ⟨te, pe, h2⟩ := hG.rng
    refine Calls.mono (Any.strconv_ParseInt_10_at64_range Tryd.laysParse ⟨x.toArray⟩ (by omega) (by simpa using hx) (.iface te pe) w ((cell_gl hR (g := 5) (by omega)).trans h2) (.inr ⟨_, _, rfl⟩)) fun e w' he => ?_
    obtain ⟨N, rfl, _, _, hb⟩ := he
    exact ⟨_, rfl, vr_pair (.int _ _) (.junk _), hb⟩
def FE : Fns := (((((((FD.a1 47 (vInt .i64) fun n => if i64ok n then some (.str (Lib.itoa n)) else none).a2 46 (vInt .i64) (vInt .i64) fun n b => if i64ok n ∧ b = 10 then some (.str (Lib.itoa n)) else none).a2 52 vStr vStr fun x p => match p with
    | [c] => some (.bool (decide (0 ≤ Lib.indexByte x c)))
    | _ => none).a2 25 vStr vStr fun x p => if x.length < LIM then some (.str (Lib.trimSuffix x p)) else none).a2 61 (vSl cStr) vStr fun l p =>
    if l.length ≤ 140737488355328 ∧ (Lib.join l p).length ≤ 140737488355328 then some (.str (Lib.join l p)) else none).a2 24 vStr vStr fun x p => match p with
    | [c] => if x.length < 4294967281 then some (.sl ((splitC c 0 x).map sc)) else none
    | _ => none).a4 41 vStr vStr (vInt .i64) (vInt .i64) fun x p a b => match p with
    | [c] => if x.length < 4294967281 ∧ a = 1 ∧ b = -1 then some (.sl ((splitC c 1 x).map sc)) else none
    | _ => none).a3 59 vStr (vInt .i64) (vInt .i64) fun x a b => if x.length ≤ 100000000 ∧ a = 10 ∧ b = 64 then some (.tup [.int .i64 (numI x), .junk]) else none
theorem FE_ok (hG : GW K gw) : FOk (env K gw) FE := by
  refine (((((((FD_ok.a1 ?_).a2 ?_).a2 ?_).a2 ?_).a2 ?_).a2 ?_).a4 ?_).a3 ?_
  · intro n s r h; split at h <;> cases h; rename_i h; simp only [i64ok, decide_eq_true_eq] at h; exact ft_Itoa hG h.1 h.2
  · intro n b s r h; split at h <;> cases h; rename_i h; obtain ⟨h, rfl⟩ := h; simp only [i64ok, decide_eq_true_eq] at h; exact ft_FormatInt hG h.1 h.2
  · intro x p s r h; split at h <;> cases h; exact ft_Contains x _
  · intro x p s r h; split at h <;> cases h; exact ft_TrimSuffix x p ‹_›
  · intro l p s r h; split at h <;> cases h; rename_i h; exact ft_Join l p h.1 h.2
  · intro x p s r h
    split at h
    · split at h <;> cases h; exact ft_Split hG x _ ‹_›
    · cases h
  · intro x p a b s r h
    split at h
    · split at h <;> cases h; rename_i h; obtain ⟨h, rfl, rfl⟩ := h; exact ft_genSplit hG x _ h
    · cases h
  · intro x a b s r h; split at h <;> cases h; rename_i h; obtain ⟨h, rfl, rfl⟩ := h; exact ft_ParseInt hG x h
theorem ft_SplitAfter (hG : GW K gw) (x : Str) (c : UInt8) (hl : x.length < 4294967281) : FT (env K gw) NoW 22 [.str x, .str [c]] s (.sl ((splitC c 1 x).map sc)) s := by
  refine FT.pure (fn := Tryd.f22) (FE_ok hG) mixed Tryd.func22 (by kernel_rfl) (by rfl) rfl rfl (by simp) rfl fun μ w => ?_
  repeat' (first
    | refine WP.t ?_ | refine WP.k ?_ | refine WP.e ?_ | refine Qn ?_ | refine Qr ?_ | refine Qe ?_ | refine Bn ?_ | refine Br ?_ | refine Be ?_ | refine Bx (by decide) ?_
    | (refine RS.nl ?_; refine hk _ _ ?_; clear hk k)
    | (refine RS.st fun A B hA hB => ?_; simp [FE, hl, onW_t, onW_f, onV_s]; first | (refine hA _ _ _ ?_ ?_; (focus (first | (simp [FE, hl]; done) | (simp [FE, hl]; omega))); clear hA hB A B) | (refine hB ?_; clear hA hB A B) | (refine onV_if ?_ ?_; (focus (first | omega | (refine ⟨?_, ?_⟩ <;> omega))); simp only [onV_s]; refine hA _ _ _ ?_ ?_; (focus (first | (simp [FE, hl]; done) | (simp [FE, hl]; omega))); clear hA hB A B))
    | (refine RQ.nl ?_; refine hk _ _ ?_; clear hk k)
    | (refine RQ.st fun A B hA hB => ?_; simp [FE, hl, onW_t, onW_f, onV_s]; first | (refine hA _ _ _ ?_ (by first | exact .inl rfl | exact .inr (by decide)) ?_; (focus (first | (simp [FE, hl]; done) | (simp [FE, hl]; omega))); clear hA hB A B) | (refine hB ?_; clear hA hB A B) | (refine onV_if ?_ ?_; (focus (first | omega | (refine ⟨?_, ?_⟩ <;> omega))); simp only [onV_s]; refine hA _ _ _ ?_ (by first | exact .inl rfl | exact .inr (by decide)) ?_; (focus (first | (simp [FE, hl]; done) | (simp [FE, hl]; omega))); clear hA hB A B))
    | refine WP.sr fun k hk => ?_ | refine WP.r fun k hk => ?_
    | refine WP.sd _ rfl fun k hk => ?_ | refine WP.d _ rfl fun k hk => ?_
    | (refine WP.cc fun A B hA hB => ?_; simp [FE, hl, onB_t, onB_f]; first | (refine hA ?_; clear hA hB A B) | (refine hB ?_; clear hA hB A B) | (refine onB_if (fun h => hA ?_) (fun h => hB ?_) <;> clear hA hB A B))
    | refine WP.q ?_ | refine WP.b ?_)
  simp [sc]
theorem ft_number (hG : GW K gw) (x : Str) (hl : x.length ≤ 100000000) : FT (env K gw) NoW 43 [.str x] s (.int .i64 (numI x)) s := by
  refine FT.pure (fn := Tryd.f43) (FE_ok hG) mixed Tryd.func43 (by kernel_rfl) (by rfl) rfl rfl (by simp) rfl fun μ w => ?_
  repeat' (first
    | refine WP.t ?_ | refine WP.k ?_ | refine WP.e ?_ | refine Qn ?_ | refine Qr ?_ | refine Qe ?_ | refine Bn ?_ | refine Br ?_ | refine Be ?_ | refine Bx (by decide) ?_
    | (refine RS.nl ?_; refine hk _ _ ?_; clear hk k)
    | (refine RS.st fun A B hA hB => ?_; simp [FE, hl, onW_t, onW_f, onV_s]; first | (refine hA _ _ _ ?_ ?_; (focus (first | (simp [FE, hl]; done) | (simp [FE, hl]; omega))); clear hA hB A B) | (refine hB ?_; clear hA hB A B) | (refine onV_if ?_ ?_; (focus (first | omega | (refine ⟨?_, ?_⟩ <;> omega))); simp only [onV_s]; refine hA _ _ _ ?_ ?_; (focus (first | (simp [FE, hl]; done) | (simp [FE, hl]; omega))); clear hA hB A B))
    | (refine RQ.nl ?_; refine hk _ _ ?_; clear hk k)
    | (refine RQ.st fun A B hA hB => ?_; simp [FE, hl, onW_t, onW_f, onV_s]; first | (refine hA _ _ _ ?_ (by first | exact .inl rfl | exact .inr (by decide)) ?_; (focus (first | (simp [FE, hl]; done) | (simp [FE, hl]; omega))); clear hA hB A B) | (refine hB ?_; clear hA hB A B) | (refine onV_if ?_ ?_; (focus (first | omega | (refine ⟨?_, ?_⟩ <;> omega))); simp only [onV_s]; refine hA _ _ _ ?_ (by first | exact .inl rfl | exact .inr (by decide)) ?_; (focus (first | (simp [FE, hl]; done) | (simp [FE, hl]; omega))); clear hA hB A B))
    | refine WP.sr fun k hk => ?_ | refine WP.r fun k hk => ?_
    | refine WP.sd _ rfl fun k hk => ?_ | refine WP.d _ rfl fun k hk => ?_
    | (refine WP.cc fun A B hA hB => ?_; simp [FE, hl, onB_t, onB_f]; first | (refine hA ?_; clear hA hB A B) | (refine hB ?_; clear hA hB A B) | (refine onB_if (fun h => hA ?_) (fun h => hB ?_) <;> clear hA hB A B))
    | refine WP.q ?_ | refine WP.b ?_)
  simp
theorem ft_joined (hG : GW K gw) (l : List Str) (h1 : l.length ≤ 140737488355328) (h2 : (Lib.join l [32]).length ≤ 140737488355328) : FT (env K gw) NoW 45 [.sl (l.map sc)] s (.str (Lib.join l [32])) s := by
  refine FT.pure (fn := Tryd.f45) (FE_ok hG) mixed Tryd.func45 (by kernel_rfl) (by rfl) rfl rfl (by simp) rfl fun μ w => ?_
  repeat' (first
    | refine WP.t ?_ | refine WP.k ?_ | refine WP.e ?_ | refine Qn ?_ | refine Qr ?_ | refine Qe ?_ | refine Bn ?_ | refine Br ?_ | refine Be ?_ | refine Bx (by decide) ?_
    | (refine RS.nl ?_; refine hk _ _ ?_; clear hk k)
    | (refine RS.st fun A B hA hB => ?_; simp [FE, h1, h2, onW_t, onW_f, onV_s]; first | (refine hA _ _ _ ?_ ?_; (focus (first | (simp [FE, h1, h2]; done) | (simp [FE, h1, h2]; omega))); clear hA hB A B) | (refine hB ?_; clear hA hB A B) | (refine onV_if ?_ ?_; (focus (first | omega | (refine ⟨?_, ?_⟩ <;> omega))); simp only [onV_s]; refine hA _ _ _ ?_ ?_; (focus (first | (simp [FE, h1, h2]; done) | (simp [FE, h1, h2]; omega))); clear hA hB A B))
    | (refine RQ.nl ?_; refine hk _ _ ?_; clear hk k)
    | (refine RQ.st fun A B hA hB => ?_; simp [FE, h1, h2, onW_t, onW_f, onV_s]; first | (refine hA _ _ _ ?_ (by first | exact .inl rfl | exact .inr (by decide)) ?_; (focus (first | (simp [FE, h1, h2]; done) | (simp [FE, h1, h2]; omega))); clear hA hB A B) | (refine hB ?_; clear hA hB A B) | (refine onV_if ?_ ?_; (focus (first | omega | (refine ⟨?_, ?_⟩ <;> omega))); simp only [onV_s]; refine hA _ _ _ ?_ (by first | exact .inl rfl | exact .inr (by decide)) ?_; (focus (first | (simp [FE, h1, h2]; done) | (simp [FE, h1, h2]; omega))); clear hA hB A B))
    | refine WP.sr fun k hk => ?_ | refine WP.r fun k hk => ?_
    | refine WP.sd _ rfl fun k hk => ?_ | refine WP.d _ rfl fun k hk => ?_
    | (refine WP.cc fun A B hA hB => ?_; simp [FE, h1, h2, onB_t, onB_f]; first | (refine hA ?_; clear hA hB A B) | (refine hB ?_; clear hA hB A B) | (refine onB_if (fun h => hA ?_) (fun h => hB ?_) <;> clear hA hB A B))
    | refine WP.q ?_ | refine WP.b ?_)
  simp
abbrev OPS : Str := [43, 45, 42, 60, 61]
def opB (x : Str) : Bool := x == [43] || x == [45] || x == [42] || x == [60] || x == [61]
theorem opB_one (c : UInt8) : opB [c] = decide (0 ≤ Lib.indexByte OPS c) := by
  by_cases h1 : c = 43
  · subst h1; rfl
  by_cases h2 : c = 45
  · subst h2; rfl
  by_cases h3 : c = 42
  · subst h3; rfl
  by_cases h4 : c = 60
  · subst h4; rfl
  by_cases h5 : c = 61
  · subst h5; rfl
  have k1 : ¬ 43 = c := fun e => h1 e.symm
  have k2 : ¬ 45 = c := fun e => h2 e.symm
  have k3 : ¬ 42 = c := fun e => h3 e.symm
  have k4 : ¬ 60 = c := fun e => h4 e.symm
  have k5 : ¬ 61 = c := fun e => h5 e.symm
  simp [opB, Lib.indexByte, h1, h2, h3, h4, h5, k1, k2, k3, k4, k5]
theorem opB_len (x : Str) (h : ¬ x.length = 1) : opB x = false := by
  match x, h with
  | [], _ => rfl
  | [c], h => exact absurd rfl h
  | c :: d :: x, _ => simp [opB]
theorem ft_op (hG : GW K gw) (x : Str) : FT (env K gw) NoW 31 [.str x] s (.bool (opB x)) s := by
  refine FT.pure (fn := Tryd.f31) (FE_ok hG) mixed Tryd.func31 (by kernel_rfl) (by rfl) rfl rfl (by simp) rfl fun μ w => ?_
  by_cases h : x.length = 1
  · obtain ⟨c, rfl⟩ : ∃ c, x = [c] := List.length_eq_one_iff.1 h
    repeat' (first
      | refine WP.t ?_ | refine WP.k ?_ | refine WP.e ?_ | refine Qn ?_ | refine Qr ?_ | refine Qe ?_ | refine Bn ?_ | refine Br ?_ | refine Be ?_ | refine Bx (by decide) ?_
      | (refine RS.nl ?_; refine hk _ _ ?_; clear hk k)
      | (refine RS.st fun A B hA hB => ?_; simp [FE, onW_t, onW_f, onV_s]; first | (refine hA _ _ _ ?_ ?_; (focus (first | (simp [FE]; done) | (simp [FE]; omega))); clear hA hB A B) | (refine hB ?_; clear hA hB A B) | (refine onV_if ?_ ?_; (focus (first | omega | (refine ⟨?_, ?_⟩ <;> omega))); simp only [onV_s]; refine hA _ _ _ ?_ ?_; (focus (first | (simp [FE]; done) | (simp [FE]; omega))); clear hA hB A B))
      | (refine RQ.nl ?_; refine hk _ _ ?_; clear hk k)
      | (refine RQ.st fun A B hA hB => ?_; simp [FE, onW_t, onW_f, onV_s]; first | (refine hA _ _ _ ?_ (by first | exact .inl rfl | exact .inr (by decide)) ?_; (focus (first | (simp [FE]; done) | (simp [FE]; omega))); clear hA hB A B) | (refine hB ?_; clear hA hB A B) | (refine onV_if ?_ ?_; (focus (first | omega | (refine ⟨?_, ?_⟩ <;> omega))); simp only [onV_s]; refine hA _ _ _ ?_ (by first | exact .inl rfl | exact .inr (by decide)) ?_; (focus (first | (simp [FE]; done) | (simp [FE]; omega))); clear hA hB A B))
      | refine WP.sr fun k hk => ?_ | refine WP.r fun k hk => ?_
      | refine WP.sd _ rfl fun k hk => ?_ | refine WP.d _ rfl fun k hk => ?_
      | (refine WP.cc fun A B hA hB => ?_; simp [FE, onB_t, onB_f]; first | (refine hA ?_; clear hA hB A B) | (refine hB ?_; clear hA hB A B) | (refine onB_if (fun h => hA ?_) (fun h => hB ?_) <;> clear hA hB A B))
      | refine WP.q ?_ | refine WP.b ?_)
    simp [opB_one]
  · have h' : ((x.length : Int) == 1) = false := by simp; omega
    repeat' (first
      | refine WP.t ?_ | refine WP.k ?_ | refine WP.e ?_ | refine Qn ?_ | refine Qr ?_ | refine Qe ?_ | refine Bn ?_ | refine Br ?_ | refine Be ?_ | refine Bx (by decide) ?_
      | (refine RS.nl ?_; refine hk _ _ ?_; clear hk k)
      | (refine RS.st fun A B hA hB => ?_; simp [FE, h', onW_t, onW_f, onV_s]; first | (refine hA _ _ _ ?_ ?_; (focus (first | (simp [FE, h']; done) | (simp [FE, h']; omega))); clear hA hB A B) | (refine hB ?_; clear hA hB A B) | (refine onV_if ?_ ?_; (focus (first | omega | (refine ⟨?_, ?_⟩ <;> omega))); simp only [onV_s]; refine hA _ _ _ ?_ ?_; (focus (first | (simp [FE, h']; done) | (simp [FE, h']; omega))); clear hA hB A B))
      | (refine RQ.nl ?_; refine hk _ _ ?_; clear hk k)
      | (refine RQ.st fun A B hA hB => ?_; simp [FE, h', onW_t, onW_f, onV_s]; first | (refine hA _ _ _ ?_ (by first | exact .inl rfl | exact .inr (by decide)) ?_; (focus (first | (simp [FE, h']; done) | (simp [FE, h']; omega))); clear hA hB A B) | (refine hB ?_; clear hA hB A B) | (refine onV_if ?_ ?_; (focus (first | omega | (refine ⟨?_, ?_⟩ <;> omega))); simp only [onV_s]; refine hA _ _ _ ?_ (by first | exact .inl rfl | exact .inr (by decide)) ?_; (focus (first | (simp [FE, h']; done) | (simp [FE, h']; omega))); clear hA hB A B))
      | refine WP.sr fun k hk => ?_ | refine WP.r fun k hk => ?_
      | refine WP.sd _ rfl fun k hk => ?_ | refine WP.d _ rfl fun k hk => ?_
      | (refine WP.cc fun A B hA hB => ?_; simp [FE, h', onB_t, onB_f]; first | (refine hA ?_; clear hA hB A B) | (refine hB ?_; clear hA hB A B) | (refine onB_if (fun h => hA ?_) (fun h => hB ?_) <;> clear hA hB A B))
      | refine WP.q ?_ | refine WP.b ?_)
    simp [opB_len x h]
end
end Go.Am
namespace Go.Am
open Go.Proofs Go.Shelf
section
variable {K : Nat} {gw : World} {s : St}
attribute [local simp] awanted xop zOf zrow aop ev T0 Slots.put Slots.set Slots.get awr WOk AV.may ofConst abinop aint isConst St.get_push St.get_put St.live AV.fit AV.cells AV.one fieldOf afieldAddr aload ofCells astore splice May eqres env_ti FinP FinZ FinW ares aresL ares1 Fns.addP Fns.add Fns.a0 Fns.a1 Fns.a2 Fns.a3 Fns.a4 abuiltin alenOk alen aindex elemOfT elemId abuildSlice afill chunks ard aappend isSS AV.isStr aminmax placesOf abuild afield aidx isStrD isStrDesc astrop aslice asliceOk abound arange anext aextract aunop aeq AV.ck avseq aveq aconv aconvert onB_t onB_f List.range_succ ti0 ti1 ti2 ti3 ti4 ti5 ti6 ti7 ti8 ti9 ti10 ti11 ti12 ti13 ti14 ti15 ti16 ti17 ti18 ti19 ti20 ti21 ti22 ti23 ti24 ti25 ti26 ti27 ti28 ti29 ti30 ti31 ti32 ti33 ti34 ti35 ti36 ti37 ti38 ti39 ti40 ti41 ti42 ti43 ti44 ti45 ti46 ti47 ti48 ti49 ti50 ti51 ti52 ti53 ti54 ti55 ti56 ti57 ti58 ti59 ti60 ti61 ti62 ti63 ti64 ti65 ti66 ti67 ti68 ti69 ti70 ti71 ti72 ti73 ti74 ti75 ti76 ti77 ti78 ti79 ti80 ti81 ti82 ti83 ti84 ti85 ti86 ti87 ti88 ti89 ti90 ti91 ti92 ti93 ti94 ti95 ti96 ti97 ti98 ti99 ti100 ti101
/-- A statement. -/
@[ext] structure Sm where
  k : Int
  x : Str
  y : Str
  z : Str
  o : Str
  n : Int
  a : Int
  b : Int
deriving DecidableEq
def Sm.cs (m : Sm) : List AV := [.int .i64 m.k, .str m.x, .str m.y, .str m.z, .str m.o, .int .i64 m.n, .int .i64 m.a, .int .i64 m.b]
def cSm : Cel Sm where
  cs := Sm.cs
  un c := match c with
    | [.int .i64 k, .str x, .str y, .str z, .str o, .int .i64 n, .int .i64 a, .int .i64 b] => some ⟨k, x, y, z, o, n, a, b⟩
    | _ => none
  sz := 8
  un_cs _ := rfl
  cs_un c a h := by split at h <;> cases h; rfl
  len _ := rfl
  bl a n x hx := by
    simp only [Sm.cs, List.mem_cons, List.not_mem_nil, or_false] at hx
    rcases hx with rfl | rfl | rfl | rfl | rfl | rfl | rfl | rfl <;> simp
@[simp] theorem cSm_un (k n a b : Int) (x y z o : Str) : cSm.un [.int .i64 k, .str x, .str y, .str z, .str o, .int .i64 n, .int .i64 a, .int .i64 b] = some ⟨k, x, y, z, o, n, a, b⟩ := rfl
@[simp] theorem unL_Sm (l : List Sm) : unL cSm (l.map Sm.cs) = some l := unL_map cSm l
def FF : Fns := (((((FE.a1 43 vStr fun x => if x.length ≤ 100000000 then some (.int .i64 (numI x)) else none).a1 45 (vSl cStr) fun l => if l.length ≤ 140737488355328 ∧ (Lib.join l [32]).length ≤ 140737488355328 then some (.str (Lib.join l [32])) else none).a1 31 vStr fun x => some (.bool (opB x))).a1 32 (vInt .i64) fun n => some (.bool (nodeB n))).a1 30 (vSl cStr) fun l => if l.length < LIM ∧ (∀ x ∈ l, x.length < LIM) then some (.bool (l.all nameB)) else none).a2 22 vStr vStr fun x p => match p with
    | [c] => if x.length < 4294967281 then some (.sl ((splitC c 1 x).map sc)) else none
    | _ => none
theorem FF_ok (hG : GW K gw) : FOk (env K gw) FF := by
  refine ((((((FE_ok hG).a1 ?_).a1 ?_).a1 ?_).a1 ?_).a1 ?_).a2 ?_
  · intro x s r h; split at h <;> cases h; exact ft_number hG x ‹_›
  · intro l s r h; split at h <;> cases h; rename_i h; exact ft_joined hG l h.1 h.2
  · intro x s r h; cases h; exact ft_op hG x
  · intro x s r h; cases h; exact ft_node x
  · intro l s r h; split at h <;> cases h; rename_i h; exact ft_names l h.1 h.2
  · intro x p s r h
    split at h
    · split at h <;> cases h; exact ft_SplitAfter hG x _ ‹_›
    · cases h
/-- Of those fields that its kind has. -/
def bareS (m : Sm) : Sm :=
  if m.k = 1 then ⟨1, m.x, [], [], [], m.n, 0, 0⟩ else if m.k = 2 then ⟨2, m.x, m.y, m.z, m.o, 0, 0, 0⟩ else if m.k = 3 then ⟨3, m.x, m.y, [], [], 0, 0, 0⟩ else
  if m.k = 4 then ⟨4, m.x, [], [], [], 0, 0, 0⟩ else if m.k = 5 then ⟨5, m.x, m.y, [], [], 0, 0, 0⟩ else if m.k = 6 then ⟨6, [], m.y, [], [], 0, 0, 0⟩ else
  if m.k = 7 then ⟨7, [], m.y, [], [], 0, m.a, m.b⟩ else if m.k = 8 then ⟨8, [], [], [], [], 0, m.a, 0⟩ else ⟨m.k, [], [], [], [], 0, 0, 0⟩
def fitS (m : Sm) : Bool :=
  if m.k = 1 then nameB m.x else if m.k = 2 then nameB m.x && (nameB m.y && nameB m.z) && opB m.o else if m.k = 3 then nameB m.x && nameB m.y else
  if m.k = 4 then nameB m.x else if m.k = 5 then nameB m.x && nameB m.y else if m.k = 6 then nameB m.y else
  if m.k = 7 then nameB m.y && nodeB m.a && nodeB m.b else if m.k = 8 then nodeB m.a else decide (m.k = 9)
def mayB (m : Sm) : Bool := fitS m && decide (m = bareS m)
def okS (m : Sm) : Bool := decide (m.x.length < LIM) && decide (m.y.length < LIM) && decide (m.z.length < LIM) && decide (m.o.length < LIM)
theorem kS : kindsT (env K gw) 9 38 = some [CK.i, CK.s, CK.s, CK.s, CK.s, CK.i, CK.i, CK.i] := by simp [kindsT, kindsD, kindsFs]
set_option maxHeartbeats 4000000 in
theorem ft_May1 (hG : GW K gw) (x y z o : Str) (n a b : Int) (hx : x.length < LIM) (hy : y.length < LIM) (hz : z.length < LIM) (ho : o.length < LIM) : FT (env K gw) NoW 16 [.agg (Sm.mk 1 x y z o n a b).cs] s (.bool (mayB ⟨1, x, y, z, o, n, a, b⟩)) s := by
  refine FT.pure (fn := Tryd.f16) (FF_ok hG) mixed Tryd.func16 (by kernel_rfl) (by rfl) rfl rfl (by simp) rfl fun μ w => ?_
  cases hnx : nameB x
  all_goals
    repeat' (first
      | refine WP.t ?_ | refine WP.k ?_ | refine WP.e ?_ | refine Qn ?_ | refine Qr ?_ | refine Qe ?_ | refine Bn ?_ | refine Br ?_ | refine Be ?_ | refine Bx (by decide) ?_
      | (refine RS.nl ?_; refine hk _ _ ?_; clear hk k)
      | (refine RS.st fun A B hA hB => ?_; simp [FF, FE, FD, Sm.cs, hx, hy, hz, ho, kS, hnx, onW_t, onW_f, onV_s]; first | (refine hA _ _ _ ?_ ?_; (focus (first | (simp [FF, FE, FD, Sm.cs, hx, hy, hz, ho, kS, hnx]; done) | (simp [FF, FE, FD, Sm.cs, hx, hy, hz, ho, kS, hnx]; omega))); clear hA hB A B) | (refine hB ?_; clear hA hB A B) | (refine onV_if ?_ ?_; (focus (first | omega | (refine ⟨?_, ?_⟩ <;> omega))); simp only [onV_s]; refine hA _ _ _ ?_ ?_; (focus (first | (simp [FF, FE, FD, Sm.cs, hx, hy, hz, ho, kS, hnx]; done) | (simp [FF, FE, FD, Sm.cs, hx, hy, hz, ho, kS, hnx]; omega))); clear hA hB A B))
      | (refine RQ.nl ?_; refine hk _ _ ?_; clear hk k)
      | (refine RW.nl ?_ ?_; (focus (first | (simp [FF, FE, FD, Sm.cs, hx, hy, hz, ho, kS, hnx]; done) | (simp [FF, FE, FD, Sm.cs, hx, hy, hz, ho, kS, hnx]; omega))); refine hk _ _ ?_; clear hk k)
      | (refine RW.st ?_ fun A B hA hB => ?_; (focus (first | exact .inl (by decide) | (refine .inr ?_; first | (simp [FF, FE, FD, Sm.cs, hx, hy, hz, ho, kS, hnx]; done) | (simp [FF, FE, FD, Sm.cs, hx, hy, hz, ho, kS, hnx]; omega)))); simp [FF, FE, FD, Sm.cs, hx, hy, hz, ho, kS, hnx, onW_t, onW_f, onV_s]; first | (refine hA _ _ _ ?_ ?_ ?_ ?_; (focus (first | (simp [FF, FE, FD, Sm.cs, hx, hy, hz, ho, kS, hnx]; done) | (simp [FF, FE, FD, Sm.cs, hx, hy, hz, ho, kS, hnx]; omega))); (focus (first | exact .inl (by decide) | exact .inr (.inl rfl) | exact .inr (.inr rfl))); (focus (first | exact .inl (by decide) | exact .inr (.inl (by decide)) | (refine .inr (.inr fun s2 hs2 => ?_); have hs2n := hs2.nx; simp only [Keep_cons, Keep_nil] at hs2; simp [FF, FE, FD, Sm.cs, hx, hy, hz, ho, kS, hnx, hs2, hs2n]; done))); clear hA hB A B) | (refine hB ?_; clear hA hB A B))
      | (refine RQ.st fun A B hA hB => ?_; simp [FF, FE, FD, Sm.cs, hx, hy, hz, ho, kS, hnx, onW_t, onW_f, onV_s]; first | (refine hA _ _ _ ?_ (by first | exact .inl rfl | exact .inr (by decide)) ?_; (focus (first | (simp [FF, FE, FD, Sm.cs, hx, hy, hz, ho, kS, hnx]; done) | (simp [FF, FE, FD, Sm.cs, hx, hy, hz, ho, kS, hnx]; omega))); clear hA hB A B) | (refine hB ?_; clear hA hB A B) | (refine onV_if ?_ ?_; (focus (first | omega | (refine ⟨?_, ?_⟩ <;> omega))); simp only [onV_s]; refine hA _ _ _ ?_ (by first | exact .inl rfl | exact .inr (by decide)) ?_; (focus (first | (simp [FF, FE, FD, Sm.cs, hx, hy, hz, ho, kS, hnx]; done) | (simp [FF, FE, FD, Sm.cs, hx, hy, hz, ho, kS, hnx]; omega))); clear hA hB A B))
      | refine WP.sr fun k hk => ?_ | refine WP.r fun k hk => ?_
      | (refine WP.swK [s.nx] ?_ fun k hk => ?_; (focus (decide))) | (refine WP.wK [s.nx] ?_ fun k hk => ?_; (focus (decide))) | refine WP.sd _ rfl fun k hk => ?_ | refine WP.d _ rfl fun k hk => ?_
      | (refine WP.cc fun A B hA hB => ?_; simp [FF, FE, FD, Sm.cs, hx, hy, hz, ho, kS, hnx, onB_t, onB_f]; first | (refine hA ?_; clear hA hB A B) | (refine hB ?_; clear hA hB A B) | (refine onB_if (fun h => hA ?_) (fun h => hB ?_) <;> clear hA hB A B))
      | refine WP.q ?_ | refine WP.b ?_)
    simp [mayB, fitS, bareS, hnx]
    try (rw [Bool.eq_iff_iff]; simp)
set_option maxHeartbeats 4000000 in
theorem ft_May2 (hG : GW K gw) (x y z o : Str) (n a b : Int) (hx : x.length < LIM) (hy : y.length < LIM) (hz : z.length < LIM) (ho : o.length < LIM) : FT (env K gw) NoW 16 [.agg (Sm.mk 2 x y z o n a b).cs] s (.bool (mayB ⟨2, x, y, z, o, n, a, b⟩)) s := by
  refine FT.pure (fn := Tryd.f16) (FF_ok hG) mixed Tryd.func16 (by kernel_rfl) (by rfl) rfl rfl (by simp) rfl fun μ w => ?_
  cases hnx : (nameB x && (nameB y && nameB z)) <;> cases hop : opB o
  all_goals
    repeat' (first
      | refine WP.t ?_ | refine WP.k ?_ | refine WP.e ?_ | refine Qn ?_ | refine Qr ?_ | refine Qe ?_ | refine Bn ?_ | refine Br ?_ | refine Be ?_ | refine Bx (by decide) ?_
      | (refine RS.nl ?_; refine hk _ _ ?_; clear hk k)
      | (refine RS.st fun A B hA hB => ?_; simp [FF, FE, FD, Sm.cs, hx, hy, hz, ho, kS, hnx, hop, onW_t, onW_f, onV_s]; first | (refine hA _ _ _ ?_ ?_; (focus (first | (simp [FF, FE, FD, Sm.cs, hx, hy, hz, ho, kS, hnx, hop]; done) | (simp [FF, FE, FD, Sm.cs, hx, hy, hz, ho, kS, hnx, hop]; omega))); clear hA hB A B) | (refine hB ?_; clear hA hB A B) | (refine onV_if ?_ ?_; (focus (first | omega | (refine ⟨?_, ?_⟩ <;> omega))); simp only [onV_s]; refine hA _ _ _ ?_ ?_; (focus (first | (simp [FF, FE, FD, Sm.cs, hx, hy, hz, ho, kS, hnx, hop]; done) | (simp [FF, FE, FD, Sm.cs, hx, hy, hz, ho, kS, hnx, hop]; omega))); clear hA hB A B))
      | (refine RQ.nl ?_; refine hk _ _ ?_; clear hk k)
      | (refine RW.nl ?_ ?_; (focus (first | (simp [FF, FE, FD, Sm.cs, hx, hy, hz, ho, kS, hnx, hop]; done) | (simp [FF, FE, FD, Sm.cs, hx, hy, hz, ho, kS, hnx, hop]; omega))); refine hk _ _ ?_; clear hk k)
      | (refine RW.st ?_ fun A B hA hB => ?_; (focus (first | exact .inl (by decide) | (refine .inr ?_; first | (simp [FF, FE, FD, Sm.cs, hx, hy, hz, ho, kS, hnx, hop]; done) | (simp [FF, FE, FD, Sm.cs, hx, hy, hz, ho, kS, hnx, hop]; omega)))); simp [FF, FE, FD, Sm.cs, hx, hy, hz, ho, kS, hnx, hop, onW_t, onW_f, onV_s]; first | (refine hA _ _ _ ?_ ?_ ?_ ?_; (focus (first | (simp [FF, FE, FD, Sm.cs, hx, hy, hz, ho, kS, hnx, hop]; done) | (simp [FF, FE, FD, Sm.cs, hx, hy, hz, ho, kS, hnx, hop]; omega))); (focus (first | exact .inl (by decide) | exact .inr (.inl rfl) | exact .inr (.inr rfl))); (focus (first | exact .inl (by decide) | exact .inr (.inl (by decide)) | (refine .inr (.inr fun s2 hs2 => ?_); have hs2n := hs2.nx; simp only [Keep_cons, Keep_nil] at hs2; simp [FF, FE, FD, Sm.cs, hx, hy, hz, ho, kS, hnx, hop, hs2, hs2n]; done))); clear hA hB A B) | (refine hB ?_; clear hA hB A B))
      | (refine RQ.st fun A B hA hB => ?_; simp [FF, FE, FD, Sm.cs, hx, hy, hz, ho, kS, hnx, hop, onW_t, onW_f, onV_s]; first | (refine hA _ _ _ ?_ (by first | exact .inl rfl | exact .inr (by decide)) ?_; (focus (first | (simp [FF, FE, FD, Sm.cs, hx, hy, hz, ho, kS, hnx, hop]; done) | (simp [FF, FE, FD, Sm.cs, hx, hy, hz, ho, kS, hnx, hop]; omega))); clear hA hB A B) | (refine hB ?_; clear hA hB A B) | (refine onV_if ?_ ?_; (focus (first | omega | (refine ⟨?_, ?_⟩ <;> omega))); simp only [onV_s]; refine hA _ _ _ ?_ (by first | exact .inl rfl | exact .inr (by decide)) ?_; (focus (first | (simp [FF, FE, FD, Sm.cs, hx, hy, hz, ho, kS, hnx, hop]; done) | (simp [FF, FE, FD, Sm.cs, hx, hy, hz, ho, kS, hnx, hop]; omega))); clear hA hB A B))
      | refine WP.sr fun k hk => ?_ | refine WP.r fun k hk => ?_
      | (refine WP.swK [s.nx] ?_ fun k hk => ?_; (focus (decide))) | (refine WP.wK [s.nx] ?_ fun k hk => ?_; (focus (decide))) | refine WP.sd _ rfl fun k hk => ?_ | refine WP.d _ rfl fun k hk => ?_
      | (refine WP.cc fun A B hA hB => ?_; simp [FF, FE, FD, Sm.cs, hx, hy, hz, ho, kS, hnx, hop, onB_t, onB_f]; first | (refine hA ?_; clear hA hB A B) | (refine hB ?_; clear hA hB A B) | (refine onB_if (fun h => hA ?_) (fun h => hB ?_) <;> clear hA hB A B))
      | refine WP.q ?_ | refine WP.b ?_)
    simp [mayB, fitS, bareS, hnx, hop]
    try (rw [Bool.eq_iff_iff]; simp)
set_option maxHeartbeats 4000000 in
theorem ft_May3 (hG : GW K gw) (x y z o : Str) (n a b : Int) (hx : x.length < LIM) (hy : y.length < LIM) (hz : z.length < LIM) (ho : o.length < LIM) : FT (env K gw) NoW 16 [.agg (Sm.mk 3 x y z o n a b).cs] s (.bool (mayB ⟨3, x, y, z, o, n, a, b⟩)) s := by
  refine FT.pure (fn := Tryd.f16) (FF_ok hG) mixed Tryd.func16 (by kernel_rfl) (by rfl) rfl rfl (by simp) rfl fun μ w => ?_
  cases hnx : nameB x <;> cases hny : nameB y
  all_goals
    repeat' (first
      | refine WP.t ?_ | refine WP.k ?_ | refine WP.e ?_ | refine Qn ?_ | refine Qr ?_ | refine Qe ?_ | refine Bn ?_ | refine Br ?_ | refine Be ?_ | refine Bx (by decide) ?_
      | (refine RS.nl ?_; refine hk _ _ ?_; clear hk k)
      | (refine RS.st fun A B hA hB => ?_; simp [FF, FE, FD, Sm.cs, hx, hy, hz, ho, kS, hnx, hny, onW_t, onW_f, onV_s]; first | (refine hA _ _ _ ?_ ?_; (focus (first | (simp [FF, FE, FD, Sm.cs, hx, hy, hz, ho, kS, hnx, hny]; done) | (simp [FF, FE, FD, Sm.cs, hx, hy, hz, ho, kS, hnx, hny]; omega))); clear hA hB A B) | (refine hB ?_; clear hA hB A B) | (refine onV_if ?_ ?_; (focus (first | omega | (refine ⟨?_, ?_⟩ <;> omega))); simp only [onV_s]; refine hA _ _ _ ?_ ?_; (focus (first | (simp [FF, FE, FD, Sm.cs, hx, hy, hz, ho, kS, hnx, hny]; done) | (simp [FF, FE, FD, Sm.cs, hx, hy, hz, ho, kS, hnx, hny]; omega))); clear hA hB A B))
      | (refine RQ.nl ?_; refine hk _ _ ?_; clear hk k)
      | (refine RW.nl ?_ ?_; (focus (first | (simp [FF, FE, FD, Sm.cs, hx, hy, hz, ho, kS, hnx, hny]; done) | (simp [FF, FE, FD, Sm.cs, hx, hy, hz, ho, kS, hnx, hny]; omega))); refine hk _ _ ?_; clear hk k)
      | (refine RW.st ?_ fun A B hA hB => ?_; (focus (first | exact .inl (by decide) | (refine .inr ?_; first | (simp [FF, FE, FD, Sm.cs, hx, hy, hz, ho, kS, hnx, hny]; done) | (simp [FF, FE, FD, Sm.cs, hx, hy, hz, ho, kS, hnx, hny]; omega)))); simp [FF, FE, FD, Sm.cs, hx, hy, hz, ho, kS, hnx, hny, onW_t, onW_f, onV_s]; first | (refine hA _ _ _ ?_ ?_ ?_ ?_; (focus (first | (simp [FF, FE, FD, Sm.cs, hx, hy, hz, ho, kS, hnx, hny]; done) | (simp [FF, FE, FD, Sm.cs, hx, hy, hz, ho, kS, hnx, hny]; omega))); (focus (first | exact .inl (by decide) | exact .inr (.inl rfl) | exact .inr (.inr rfl))); (focus (first | exact .inl (by decide) | exact .inr (.inl (by decide)) | (refine .inr (.inr fun s2 hs2 => ?_); have hs2n := hs2.nx; simp only [Keep_cons, Keep_nil] at hs2; simp [FF, FE, FD, Sm.cs, hx, hy, hz, ho, kS, hnx, hny, hs2, hs2n]; done))); clear hA hB A B) | (refine hB ?_; clear hA hB A B))
      | (refine RQ.st fun A B hA hB => ?_; simp [FF, FE, FD, Sm.cs, hx, hy, hz, ho, kS, hnx, hny, onW_t, onW_f, onV_s]; first | (refine hA _ _ _ ?_ (by first | exact .inl rfl | exact .inr (by decide)) ?_; (focus (first | (simp [FF, FE, FD, Sm.cs, hx, hy, hz, ho, kS, hnx, hny]; done) | (simp [FF, FE, FD, Sm.cs, hx, hy, hz, ho, kS, hnx, hny]; omega))); clear hA hB A B) | (refine hB ?_; clear hA hB A B) | (refine onV_if ?_ ?_; (focus (first | omega | (refine ⟨?_, ?_⟩ <;> omega))); simp only [onV_s]; refine hA _ _ _ ?_ (by first | exact .inl rfl | exact .inr (by decide)) ?_; (focus (first | (simp [FF, FE, FD, Sm.cs, hx, hy, hz, ho, kS, hnx, hny]; done) | (simp [FF, FE, FD, Sm.cs, hx, hy, hz, ho, kS, hnx, hny]; omega))); clear hA hB A B))
      | refine WP.sr fun k hk => ?_ | refine WP.r fun k hk => ?_
      | (refine WP.swK [s.nx] ?_ fun k hk => ?_; (focus (decide))) | (refine WP.wK [s.nx] ?_ fun k hk => ?_; (focus (decide))) | refine WP.sd _ rfl fun k hk => ?_ | refine WP.d _ rfl fun k hk => ?_
      | (refine WP.cc fun A B hA hB => ?_; simp [FF, FE, FD, Sm.cs, hx, hy, hz, ho, kS, hnx, hny, onB_t, onB_f]; first | (refine hA ?_; clear hA hB A B) | (refine hB ?_; clear hA hB A B) | (refine onB_if (fun h => hA ?_) (fun h => hB ?_) <;> clear hA hB A B))
      | refine WP.q ?_ | refine WP.b ?_)
    simp [mayB, fitS, bareS, hnx, hny]
    try (rw [Bool.eq_iff_iff]; simp)
set_option maxHeartbeats 4000000 in
theorem ft_May4 (hG : GW K gw) (x y z o : Str) (n a b : Int) (hx : x.length < LIM) (hy : y.length < LIM) (hz : z.length < LIM) (ho : o.length < LIM) : FT (env K gw) NoW 16 [.agg (Sm.mk 4 x y z o n a b).cs] s (.bool (mayB ⟨4, x, y, z, o, n, a, b⟩)) s := by
  refine FT.pure (fn := Tryd.f16) (FF_ok hG) mixed Tryd.func16 (by kernel_rfl) (by rfl) rfl rfl (by simp) rfl fun μ w => ?_
  cases hnx : nameB x
  all_goals
    repeat' (first
      | refine WP.t ?_ | refine WP.k ?_ | refine WP.e ?_ | refine Qn ?_ | refine Qr ?_ | refine Qe ?_ | refine Bn ?_ | refine Br ?_ | refine Be ?_ | refine Bx (by decide) ?_
      | (refine RS.nl ?_; refine hk _ _ ?_; clear hk k)
      | (refine RS.st fun A B hA hB => ?_; simp [FF, FE, FD, Sm.cs, hx, hy, hz, ho, kS, hnx, onW_t, onW_f, onV_s]; first | (refine hA _ _ _ ?_ ?_; (focus (first | (simp [FF, FE, FD, Sm.cs, hx, hy, hz, ho, kS, hnx]; done) | (simp [FF, FE, FD, Sm.cs, hx, hy, hz, ho, kS, hnx]; omega))); clear hA hB A B) | (refine hB ?_; clear hA hB A B) | (refine onV_if ?_ ?_; (focus (first | omega | (refine ⟨?_, ?_⟩ <;> omega))); simp only [onV_s]; refine hA _ _ _ ?_ ?_; (focus (first | (simp [FF, FE, FD, Sm.cs, hx, hy, hz, ho, kS, hnx]; done) | (simp [FF, FE, FD, Sm.cs, hx, hy, hz, ho, kS, hnx]; omega))); clear hA hB A B))
      | (refine RQ.nl ?_; refine hk _ _ ?_; clear hk k)
      | (refine RW.nl ?_ ?_; (focus (first | (simp [FF, FE, FD, Sm.cs, hx, hy, hz, ho, kS, hnx]; done) | (simp [FF, FE, FD, Sm.cs, hx, hy, hz, ho, kS, hnx]; omega))); refine hk _ _ ?_; clear hk k)
      | (refine RW.st ?_ fun A B hA hB => ?_; (focus (first | exact .inl (by decide) | (refine .inr ?_; first | (simp [FF, FE, FD, Sm.cs, hx, hy, hz, ho, kS, hnx]; done) | (simp [FF, FE, FD, Sm.cs, hx, hy, hz, ho, kS, hnx]; omega)))); simp [FF, FE, FD, Sm.cs, hx, hy, hz, ho, kS, hnx, onW_t, onW_f, onV_s]; first | (refine hA _ _ _ ?_ ?_ ?_ ?_; (focus (first | (simp [FF, FE, FD, Sm.cs, hx, hy, hz, ho, kS, hnx]; done) | (simp [FF, FE, FD, Sm.cs, hx, hy, hz, ho, kS, hnx]; omega))); (focus (first | exact .inl (by decide) | exact .inr (.inl rfl) | exact .inr (.inr rfl))); (focus (first | exact .inl (by decide) | exact .inr (.inl (by decide)) | (refine .inr (.inr fun s2 hs2 => ?_); have hs2n := hs2.nx; simp only [Keep_cons, Keep_nil] at hs2; simp [FF, FE, FD, Sm.cs, hx, hy, hz, ho, kS, hnx, hs2, hs2n]; done))); clear hA hB A B) | (refine hB ?_; clear hA hB A B))
      | (refine RQ.st fun A B hA hB => ?_; simp [FF, FE, FD, Sm.cs, hx, hy, hz, ho, kS, hnx, onW_t, onW_f, onV_s]; first | (refine hA _ _ _ ?_ (by first | exact .inl rfl | exact .inr (by decide)) ?_; (focus (first | (simp [FF, FE, FD, Sm.cs, hx, hy, hz, ho, kS, hnx]; done) | (simp [FF, FE, FD, Sm.cs, hx, hy, hz, ho, kS, hnx]; omega))); clear hA hB A B) | (refine hB ?_; clear hA hB A B) | (refine onV_if ?_ ?_; (focus (first | omega | (refine ⟨?_, ?_⟩ <;> omega))); simp only [onV_s]; refine hA _ _ _ ?_ (by first | exact .inl rfl | exact .inr (by decide)) ?_; (focus (first | (simp [FF, FE, FD, Sm.cs, hx, hy, hz, ho, kS, hnx]; done) | (simp [FF, FE, FD, Sm.cs, hx, hy, hz, ho, kS, hnx]; omega))); clear hA hB A B))
      | refine WP.sr fun k hk => ?_ | refine WP.r fun k hk => ?_
      | (refine WP.swK [s.nx] ?_ fun k hk => ?_; (focus (decide))) | (refine WP.wK [s.nx] ?_ fun k hk => ?_; (focus (decide))) | refine WP.sd _ rfl fun k hk => ?_ | refine WP.d _ rfl fun k hk => ?_
      | (refine WP.cc fun A B hA hB => ?_; simp [FF, FE, FD, Sm.cs, hx, hy, hz, ho, kS, hnx, onB_t, onB_f]; first | (refine hA ?_; clear hA hB A B) | (refine hB ?_; clear hA hB A B) | (refine onB_if (fun h => hA ?_) (fun h => hB ?_) <;> clear hA hB A B))
      | refine WP.q ?_ | refine WP.b ?_)
    simp [mayB, fitS, bareS, hnx]
    try (rw [Bool.eq_iff_iff]; simp)
set_option maxHeartbeats 4000000 in
theorem ft_May5 (hG : GW K gw) (x y z o : Str) (n a b : Int) (hx : x.length < LIM) (hy : y.length < LIM) (hz : z.length < LIM) (ho : o.length < LIM) : FT (env K gw) NoW 16 [.agg (Sm.mk 5 x y z o n a b).cs] s (.bool (mayB ⟨5, x, y, z, o, n, a, b⟩)) s := by
  refine FT.pure (fn := Tryd.f16) (FF_ok hG) mixed Tryd.func16 (by kernel_rfl) (by rfl) rfl rfl (by simp) rfl fun μ w => ?_
  cases hnx : nameB x <;> cases hny : nameB y
  all_goals
    repeat' (first
      | refine WP.t ?_ | refine WP.k ?_ | refine WP.e ?_ | refine Qn ?_ | refine Qr ?_ | refine Qe ?_ | refine Bn ?_ | refine Br ?_ | refine Be ?_ | refine Bx (by decide) ?_
      | (refine RS.nl ?_; refine hk _ _ ?_; clear hk k)
      | (refine RS.st fun A B hA hB => ?_; simp [FF, FE, FD, Sm.cs, hx, hy, hz, ho, kS, hnx, hny, onW_t, onW_f, onV_s]; first | (refine hA _ _ _ ?_ ?_; (focus (first | (simp [FF, FE, FD, Sm.cs, hx, hy, hz, ho, kS, hnx, hny]; done) | (simp [FF, FE, FD, Sm.cs, hx, hy, hz, ho, kS, hnx, hny]; omega))); clear hA hB A B) | (refine hB ?_; clear hA hB A B) | (refine onV_if ?_ ?_; (focus (first | omega | (refine ⟨?_, ?_⟩ <;> omega))); simp only [onV_s]; refine hA _ _ _ ?_ ?_; (focus (first | (simp [FF, FE, FD, Sm.cs, hx, hy, hz, ho, kS, hnx, hny]; done) | (simp [FF, FE, FD, Sm.cs, hx, hy, hz, ho, kS, hnx, hny]; omega))); clear hA hB A B))
      | (refine RQ.nl ?_; refine hk _ _ ?_; clear hk k)
      | (refine RW.nl ?_ ?_; (focus (first | (simp [FF, FE, FD, Sm.cs, hx, hy, hz, ho, kS, hnx, hny]; done) | (simp [FF, FE, FD, Sm.cs, hx, hy, hz, ho, kS, hnx, hny]; omega))); refine hk _ _ ?_; clear hk k)
      | (refine RW.st ?_ fun A B hA hB => ?_; (focus (first | exact .inl (by decide) | (refine .inr ?_; first | (simp [FF, FE, FD, Sm.cs, hx, hy, hz, ho, kS, hnx, hny]; done) | (simp [FF, FE, FD, Sm.cs, hx, hy, hz, ho, kS, hnx, hny]; omega)))); simp [FF, FE, FD, Sm.cs, hx, hy, hz, ho, kS, hnx, hny, onW_t, onW_f, onV_s]; first | (refine hA _ _ _ ?_ ?_ ?_ ?_; (focus (first | (simp [FF, FE, FD, Sm.cs, hx, hy, hz, ho, kS, hnx, hny]; done) | (simp [FF, FE, FD, Sm.cs, hx, hy, hz, ho, kS, hnx, hny]; omega))); (focus (first | exact .inl (by decide) | exact .inr (.inl rfl) | exact .inr (.inr rfl))); (focus (first | exact .inl (by decide) | exact .inr (.inl (by decide)) | (refine .inr (.inr fun s2 hs2 => ?_); have hs2n := hs2.nx; simp only [Keep_cons, Keep_nil] at hs2; simp [FF, FE, FD, Sm.cs, hx, hy, hz, ho, kS, hnx, hny, hs2, hs2n]; done))); clear hA hB A B) | (refine hB ?_; clear hA hB A B))
      | (refine RQ.st fun A B hA hB => ?_; simp [FF, FE, FD, Sm.cs, hx, hy, hz, ho, kS, hnx, hny, onW_t, onW_f, onV_s]; first | (refine hA _ _ _ ?_ (by first | exact .inl rfl | exact .inr (by decide)) ?_; (focus (first | (simp [FF, FE, FD, Sm.cs, hx, hy, hz, ho, kS, hnx, hny]; done) | (simp [FF, FE, FD, Sm.cs, hx, hy, hz, ho, kS, hnx, hny]; omega))); clear hA hB A B) | (refine hB ?_; clear hA hB A B) | (refine onV_if ?_ ?_; (focus (first | omega | (refine ⟨?_, ?_⟩ <;> omega))); simp only [onV_s]; refine hA _ _ _ ?_ (by first | exact .inl rfl | exact .inr (by decide)) ?_; (focus (first | (simp [FF, FE, FD, Sm.cs, hx, hy, hz, ho, kS, hnx, hny]; done) | (simp [FF, FE, FD, Sm.cs, hx, hy, hz, ho, kS, hnx, hny]; omega))); clear hA hB A B))
      | refine WP.sr fun k hk => ?_ | refine WP.r fun k hk => ?_
      | (refine WP.swK [s.nx] ?_ fun k hk => ?_; (focus (decide))) | (refine WP.wK [s.nx] ?_ fun k hk => ?_; (focus (decide))) | refine WP.sd _ rfl fun k hk => ?_ | refine WP.d _ rfl fun k hk => ?_
      | (refine WP.cc fun A B hA hB => ?_; simp [FF, FE, FD, Sm.cs, hx, hy, hz, ho, kS, hnx, hny, onB_t, onB_f]; first | (refine hA ?_; clear hA hB A B) | (refine hB ?_; clear hA hB A B) | (refine onB_if (fun h => hA ?_) (fun h => hB ?_) <;> clear hA hB A B))
      | refine WP.q ?_ | refine WP.b ?_)
    simp [mayB, fitS, bareS, hnx, hny]
    try (rw [Bool.eq_iff_iff]; simp)
set_option maxHeartbeats 4000000 in
theorem ft_May6 (hG : GW K gw) (x y z o : Str) (n a b : Int) (hx : x.length < LIM) (hy : y.length < LIM) (hz : z.length < LIM) (ho : o.length < LIM) : FT (env K gw) NoW 16 [.agg (Sm.mk 6 x y z o n a b).cs] s (.bool (mayB ⟨6, x, y, z, o, n, a, b⟩)) s := by
  refine FT.pure (fn := Tryd.f16) (FF_ok hG) mixed Tryd.func16 (by kernel_rfl) (by rfl) rfl rfl (by simp) rfl fun μ w => ?_
  cases hny : nameB y
  all_goals
    repeat' (first
      | refine WP.t ?_ | refine WP.k ?_ | refine WP.e ?_ | refine Qn ?_ | refine Qr ?_ | refine Qe ?_ | refine Bn ?_ | refine Br ?_ | refine Be ?_ | refine Bx (by decide) ?_
      | (refine RS.nl ?_; refine hk _ _ ?_; clear hk k)
      | (refine RS.st fun A B hA hB => ?_; simp [FF, FE, FD, Sm.cs, hx, hy, hz, ho, kS, hny, onW_t, onW_f, onV_s]; first | (refine hA _ _ _ ?_ ?_; (focus (first | (simp [FF, FE, FD, Sm.cs, hx, hy, hz, ho, kS, hny]; done) | (simp [FF, FE, FD, Sm.cs, hx, hy, hz, ho, kS, hny]; omega))); clear hA hB A B) | (refine hB ?_; clear hA hB A B) | (refine onV_if ?_ ?_; (focus (first | omega | (refine ⟨?_, ?_⟩ <;> omega))); simp only [onV_s]; refine hA _ _ _ ?_ ?_; (focus (first | (simp [FF, FE, FD, Sm.cs, hx, hy, hz, ho, kS, hny]; done) | (simp [FF, FE, FD, Sm.cs, hx, hy, hz, ho, kS, hny]; omega))); clear hA hB A B))
      | (refine RQ.nl ?_; refine hk _ _ ?_; clear hk k)
      | (refine RW.nl ?_ ?_; (focus (first | (simp [FF, FE, FD, Sm.cs, hx, hy, hz, ho, kS, hny]; done) | (simp [FF, FE, FD, Sm.cs, hx, hy, hz, ho, kS, hny]; omega))); refine hk _ _ ?_; clear hk k)
      | (refine RW.st ?_ fun A B hA hB => ?_; (focus (first | exact .inl (by decide) | (refine .inr ?_; first | (simp [FF, FE, FD, Sm.cs, hx, hy, hz, ho, kS, hny]; done) | (simp [FF, FE, FD, Sm.cs, hx, hy, hz, ho, kS, hny]; omega)))); simp [FF, FE, FD, Sm.cs, hx, hy, hz, ho, kS, hny, onW_t, onW_f, onV_s]; first | (refine hA _ _ _ ?_ ?_ ?_ ?_; (focus (first | (simp [FF, FE, FD, Sm.cs, hx, hy, hz, ho, kS, hny]; done) | (simp [FF, FE, FD, Sm.cs, hx, hy, hz, ho, kS, hny]; omega))); (focus (first | exact .inl (by decide) | exact .inr (.inl rfl) | exact .inr (.inr rfl))); (focus (first | exact .inl (by decide) | exact .inr (.inl (by decide)) | (refine .inr (.inr fun s2 hs2 => ?_); have hs2n := hs2.nx; simp only [Keep_cons, Keep_nil] at hs2; simp [FF, FE, FD, Sm.cs, hx, hy, hz, ho, kS, hny, hs2, hs2n]; done))); clear hA hB A B) | (refine hB ?_; clear hA hB A B))
      | (refine RQ.st fun A B hA hB => ?_; simp [FF, FE, FD, Sm.cs, hx, hy, hz, ho, kS, hny, onW_t, onW_f, onV_s]; first | (refine hA _ _ _ ?_ (by first | exact .inl rfl | exact .inr (by decide)) ?_; (focus (first | (simp [FF, FE, FD, Sm.cs, hx, hy, hz, ho, kS, hny]; done) | (simp [FF, FE, FD, Sm.cs, hx, hy, hz, ho, kS, hny]; omega))); clear hA hB A B) | (refine hB ?_; clear hA hB A B) | (refine onV_if ?_ ?_; (focus (first | omega | (refine ⟨?_, ?_⟩ <;> omega))); simp only [onV_s]; refine hA _ _ _ ?_ (by first | exact .inl rfl | exact .inr (by decide)) ?_; (focus (first | (simp [FF, FE, FD, Sm.cs, hx, hy, hz, ho, kS, hny]; done) | (simp [FF, FE, FD, Sm.cs, hx, hy, hz, ho, kS, hny]; omega))); clear hA hB A B))
      | refine WP.sr fun k hk => ?_ | refine WP.r fun k hk => ?_
      | (refine WP.swK [s.nx] ?_ fun k hk => ?_; (focus (decide))) | (refine WP.wK [s.nx] ?_ fun k hk => ?_; (focus (decide))) | refine WP.sd _ rfl fun k hk => ?_ | refine WP.d _ rfl fun k hk => ?_
      | (refine WP.cc fun A B hA hB => ?_; simp [FF, FE, FD, Sm.cs, hx, hy, hz, ho, kS, hny, onB_t, onB_f]; first | (refine hA ?_; clear hA hB A B) | (refine hB ?_; clear hA hB A B) | (refine onB_if (fun h => hA ?_) (fun h => hB ?_) <;> clear hA hB A B))
      | refine WP.q ?_ | refine WP.b ?_)
    simp [mayB, fitS, bareS, hny]
    try (rw [Bool.eq_iff_iff]; simp)
set_option maxHeartbeats 4000000 in
theorem ft_May7 (hG : GW K gw) (x y z o : Str) (n a b : Int) (hx : x.length < LIM) (hy : y.length < LIM) (hz : z.length < LIM) (ho : o.length < LIM) : FT (env K gw) NoW 16 [.agg (Sm.mk 7 x y z o n a b).cs] s (.bool (mayB ⟨7, x, y, z, o, n, a, b⟩)) s := by
  refine FT.pure (fn := Tryd.f16) (FF_ok hG) mixed Tryd.func16 (by kernel_rfl) (by rfl) rfl rfl (by simp) rfl fun μ w => ?_
  cases hny : nameB y <;> cases hna : nodeB a <;> cases hnb : nodeB b
  all_goals
    repeat' (first
      | refine WP.t ?_ | refine WP.k ?_ | refine WP.e ?_ | refine Qn ?_ | refine Qr ?_ | refine Qe ?_ | refine Bn ?_ | refine Br ?_ | refine Be ?_ | refine Bx (by decide) ?_
      | (refine RS.nl ?_; refine hk _ _ ?_; clear hk k)
      | (refine RS.st fun A B hA hB => ?_; simp [FF, FE, FD, Sm.cs, hx, hy, hz, ho, kS, hny, hna, hnb, onW_t, onW_f, onV_s]; first | (refine hA _ _ _ ?_ ?_; (focus (first | (simp [FF, FE, FD, Sm.cs, hx, hy, hz, ho, kS, hny, hna, hnb]; done) | (simp [FF, FE, FD, Sm.cs, hx, hy, hz, ho, kS, hny, hna, hnb]; omega))); clear hA hB A B) | (refine hB ?_; clear hA hB A B) | (refine onV_if ?_ ?_; (focus (first | omega | (refine ⟨?_, ?_⟩ <;> omega))); simp only [onV_s]; refine hA _ _ _ ?_ ?_; (focus (first | (simp [FF, FE, FD, Sm.cs, hx, hy, hz, ho, kS, hny, hna, hnb]; done) | (simp [FF, FE, FD, Sm.cs, hx, hy, hz, ho, kS, hny, hna, hnb]; omega))); clear hA hB A B))
      | (refine RQ.nl ?_; refine hk _ _ ?_; clear hk k)
      | (refine RW.nl ?_ ?_; (focus (first | (simp [FF, FE, FD, Sm.cs, hx, hy, hz, ho, kS, hny, hna, hnb]; done) | (simp [FF, FE, FD, Sm.cs, hx, hy, hz, ho, kS, hny, hna, hnb]; omega))); refine hk _ _ ?_; clear hk k)
      | (refine RW.st ?_ fun A B hA hB => ?_; (focus (first | exact .inl (by decide) | (refine .inr ?_; first | (simp [FF, FE, FD, Sm.cs, hx, hy, hz, ho, kS, hny, hna, hnb]; done) | (simp [FF, FE, FD, Sm.cs, hx, hy, hz, ho, kS, hny, hna, hnb]; omega)))); simp [FF, FE, FD, Sm.cs, hx, hy, hz, ho, kS, hny, hna, hnb, onW_t, onW_f, onV_s]; first | (refine hA _ _ _ ?_ ?_ ?_ ?_; (focus (first | (simp [FF, FE, FD, Sm.cs, hx, hy, hz, ho, kS, hny, hna, hnb]; done) | (simp [FF, FE, FD, Sm.cs, hx, hy, hz, ho, kS, hny, hna, hnb]; omega))); (focus (first | exact .inl (by decide) | exact .inr (.inl rfl) | exact .inr (.inr rfl))); (focus (first | exact .inl (by decide) | exact .inr (.inl (by decide)) | (refine .inr (.inr fun s2 hs2 => ?_); have hs2n := hs2.nx; simp only [Keep_cons, Keep_nil] at hs2; simp [FF, FE, FD, Sm.cs, hx, hy, hz, ho, kS, hny, hna, hnb, hs2, hs2n]; done))); clear hA hB A B) | (refine hB ?_; clear hA hB A B))
      | (refine RQ.st fun A B hA hB => ?_; simp [FF, FE, FD, Sm.cs, hx, hy, hz, ho, kS, hny, hna, hnb, onW_t, onW_f, onV_s]; first | (refine hA _ _ _ ?_ (by first | exact .inl rfl | exact .inr (by decide)) ?_; (focus (first | (simp [FF, FE, FD, Sm.cs, hx, hy, hz, ho, kS, hny, hna, hnb]; done) | (simp [FF, FE, FD, Sm.cs, hx, hy, hz, ho, kS, hny, hna, hnb]; omega))); clear hA hB A B) | (refine hB ?_; clear hA hB A B) | (refine onV_if ?_ ?_; (focus (first | omega | (refine ⟨?_, ?_⟩ <;> omega))); simp only [onV_s]; refine hA _ _ _ ?_ (by first | exact .inl rfl | exact .inr (by decide)) ?_; (focus (first | (simp [FF, FE, FD, Sm.cs, hx, hy, hz, ho, kS, hny, hna, hnb]; done) | (simp [FF, FE, FD, Sm.cs, hx, hy, hz, ho, kS, hny, hna, hnb]; omega))); clear hA hB A B))
      | refine WP.sr fun k hk => ?_ | refine WP.r fun k hk => ?_
      | (refine WP.swK [s.nx] ?_ fun k hk => ?_; (focus (decide))) | (refine WP.wK [s.nx] ?_ fun k hk => ?_; (focus (decide))) | refine WP.sd _ rfl fun k hk => ?_ | refine WP.d _ rfl fun k hk => ?_
      | (refine WP.cc fun A B hA hB => ?_; simp [FF, FE, FD, Sm.cs, hx, hy, hz, ho, kS, hny, hna, hnb, onB_t, onB_f]; first | (refine hA ?_; clear hA hB A B) | (refine hB ?_; clear hA hB A B) | (refine onB_if (fun h => hA ?_) (fun h => hB ?_) <;> clear hA hB A B))
      | refine WP.q ?_ | refine WP.b ?_)
    simp [mayB, fitS, bareS, hny, hna, hnb]
    try (rw [Bool.eq_iff_iff]; simp)
set_option maxHeartbeats 4000000 in
theorem ft_May8 (hG : GW K gw) (x y z o : Str) (n a b : Int) (hx : x.length < LIM) (hy : y.length < LIM) (hz : z.length < LIM) (ho : o.length < LIM) : FT (env K gw) NoW 16 [.agg (Sm.mk 8 x y z o n a b).cs] s (.bool (mayB ⟨8, x, y, z, o, n, a, b⟩)) s := by
  refine FT.pure (fn := Tryd.f16) (FF_ok hG) mixed Tryd.func16 (by kernel_rfl) (by rfl) rfl rfl (by simp) rfl fun μ w => ?_
  cases hna : nodeB a
  all_goals
    repeat' (first
      | refine WP.t ?_ | refine WP.k ?_ | refine WP.e ?_ | refine Qn ?_ | refine Qr ?_ | refine Qe ?_ | refine Bn ?_ | refine Br ?_ | refine Be ?_ | refine Bx (by decide) ?_
      | (refine RS.nl ?_; refine hk _ _ ?_; clear hk k)
      | (refine RS.st fun A B hA hB => ?_; simp [FF, FE, FD, Sm.cs, hx, hy, hz, ho, kS, hna, onW_t, onW_f, onV_s]; first | (refine hA _ _ _ ?_ ?_; (focus (first | (simp [FF, FE, FD, Sm.cs, hx, hy, hz, ho, kS, hna]; done) | (simp [FF, FE, FD, Sm.cs, hx, hy, hz, ho, kS, hna]; omega))); clear hA hB A B) | (refine hB ?_; clear hA hB A B) | (refine onV_if ?_ ?_; (focus (first | omega | (refine ⟨?_, ?_⟩ <;> omega))); simp only [onV_s]; refine hA _ _ _ ?_ ?_; (focus (first | (simp [FF, FE, FD, Sm.cs, hx, hy, hz, ho, kS, hna]; done) | (simp [FF, FE, FD, Sm.cs, hx, hy, hz, ho, kS, hna]; omega))); clear hA hB A B))
      | (refine RQ.nl ?_; refine hk _ _ ?_; clear hk k)
      | (refine RW.nl ?_ ?_; (focus (first | (simp [FF, FE, FD, Sm.cs, hx, hy, hz, ho, kS, hna]; done) | (simp [FF, FE, FD, Sm.cs, hx, hy, hz, ho, kS, hna]; omega))); refine hk _ _ ?_; clear hk k)
      | (refine RW.st ?_ fun A B hA hB => ?_; (focus (first | exact .inl (by decide) | (refine .inr ?_; first | (simp [FF, FE, FD, Sm.cs, hx, hy, hz, ho, kS, hna]; done) | (simp [FF, FE, FD, Sm.cs, hx, hy, hz, ho, kS, hna]; omega)))); simp [FF, FE, FD, Sm.cs, hx, hy, hz, ho, kS, hna, onW_t, onW_f, onV_s]; first | (refine hA _ _ _ ?_ ?_ ?_ ?_; (focus (first | (simp [FF, FE, FD, Sm.cs, hx, hy, hz, ho, kS, hna]; done) | (simp [FF, FE, FD, Sm.cs, hx, hy, hz, ho, kS, hna]; omega))); (focus (first | exact .inl (by decide) | exact .inr (.inl rfl) | exact .inr (.inr rfl))); (focus (first | exact .inl (by decide) | exact .inr (.inl (by decide)) | (refine .inr (.inr fun s2 hs2 => ?_); have hs2n := hs2.nx; simp only [Keep_cons, Keep_nil] at hs2; simp [FF, FE, FD, Sm.cs, hx, hy, hz, ho, kS, hna, hs2, hs2n]; done))); clear hA hB A B) | (refine hB ?_; clear hA hB A B))
      | (refine RQ.st fun A B hA hB => ?_; simp [FF, FE, FD, Sm.cs, hx, hy, hz, ho, kS, hna, onW_t, onW_f, onV_s]; first | (refine hA _ _ _ ?_ (by first | exact .inl rfl | exact .inr (by decide)) ?_; (focus (first | (simp [FF, FE, FD, Sm.cs, hx, hy, hz, ho, kS, hna]; done) | (simp [FF, FE, FD, Sm.cs, hx, hy, hz, ho, kS, hna]; omega))); clear hA hB A B) | (refine hB ?_; clear hA hB A B) | (refine onV_if ?_ ?_; (focus (first | omega | (refine ⟨?_, ?_⟩ <;> omega))); simp only [onV_s]; refine hA _ _ _ ?_ (by first | exact .inl rfl | exact .inr (by decide)) ?_; (focus (first | (simp [FF, FE, FD, Sm.cs, hx, hy, hz, ho, kS, hna]; done) | (simp [FF, FE, FD, Sm.cs, hx, hy, hz, ho, kS, hna]; omega))); clear hA hB A B))
      | refine WP.sr fun k hk => ?_ | refine WP.r fun k hk => ?_
      | (refine WP.swK [s.nx] ?_ fun k hk => ?_; (focus (decide))) | (refine WP.wK [s.nx] ?_ fun k hk => ?_; (focus (decide))) | refine WP.sd _ rfl fun k hk => ?_ | refine WP.d _ rfl fun k hk => ?_
      | (refine WP.cc fun A B hA hB => ?_; simp [FF, FE, FD, Sm.cs, hx, hy, hz, ho, kS, hna, onB_t, onB_f]; first | (refine hA ?_; clear hA hB A B) | (refine hB ?_; clear hA hB A B) | (refine onB_if (fun h => hA ?_) (fun h => hB ?_) <;> clear hA hB A B))
      | refine WP.q ?_ | refine WP.b ?_)
    simp [mayB, fitS, bareS, hna]
    try (rw [Bool.eq_iff_iff]; simp)
set_option maxHeartbeats 4000000 in
theorem ft_May9 (hG : GW K gw) (x y z o : Str) (n a b : Int) (hx : x.length < LIM) (hy : y.length < LIM) (hz : z.length < LIM) (ho : o.length < LIM) : FT (env K gw) NoW 16 [.agg (Sm.mk 9 x y z o n a b).cs] s (.bool (mayB ⟨9, x, y, z, o, n, a, b⟩)) s := by
  refine FT.pure (fn := Tryd.f16) (FF_ok hG) mixed Tryd.func16 (by kernel_rfl) (by rfl) rfl rfl (by simp) rfl fun μ w => ?_
  repeat' (first
    | refine WP.t ?_ | refine WP.k ?_ | refine WP.e ?_ | refine Qn ?_ | refine Qr ?_ | refine Qe ?_ | refine Bn ?_ | refine Br ?_ | refine Be ?_ | refine Bx (by decide) ?_
    | (refine RS.nl ?_; refine hk _ _ ?_; clear hk k)
    | (refine RS.st fun A B hA hB => ?_; simp [FF, FE, FD, Sm.cs, hx, hy, hz, ho, kS, onW_t, onW_f, onV_s]; first | (refine hA _ _ _ ?_ ?_; (focus (first | (simp [FF, FE, FD, Sm.cs, hx, hy, hz, ho, kS]; done) | (simp [FF, FE, FD, Sm.cs, hx, hy, hz, ho, kS]; omega))); clear hA hB A B) | (refine hB ?_; clear hA hB A B) | (refine onV_if ?_ ?_; (focus (first | omega | (refine ⟨?_, ?_⟩ <;> omega))); simp only [onV_s]; refine hA _ _ _ ?_ ?_; (focus (first | (simp [FF, FE, FD, Sm.cs, hx, hy, hz, ho, kS]; done) | (simp [FF, FE, FD, Sm.cs, hx, hy, hz, ho, kS]; omega))); clear hA hB A B))
    | (refine RQ.nl ?_; refine hk _ _ ?_; clear hk k)
    | (refine RW.nl ?_ ?_; (focus (first | (simp [FF, FE, FD, Sm.cs, hx, hy, hz, ho, kS]; done) | (simp [FF, FE, FD, Sm.cs, hx, hy, hz, ho, kS]; omega))); refine hk _ _ ?_; clear hk k)
    | (refine RW.st ?_ fun A B hA hB => ?_; (focus (first | exact .inl (by decide) | (refine .inr ?_; first | (simp [FF, FE, FD, Sm.cs, hx, hy, hz, ho, kS]; done) | (simp [FF, FE, FD, Sm.cs, hx, hy, hz, ho, kS]; omega)))); simp [FF, FE, FD, Sm.cs, hx, hy, hz, ho, kS, onW_t, onW_f, onV_s]; first | (refine hA _ _ _ ?_ ?_ ?_ ?_; (focus (first | (simp [FF, FE, FD, Sm.cs, hx, hy, hz, ho, kS]; done) | (simp [FF, FE, FD, Sm.cs, hx, hy, hz, ho, kS]; omega))); (focus (first | exact .inl (by decide) | exact .inr (.inl rfl) | exact .inr (.inr rfl))); (focus (first | exact .inl (by decide) | exact .inr (.inl (by decide)) | (refine .inr (.inr fun s2 hs2 => ?_); have hs2n := hs2.nx; simp only [Keep_cons, Keep_nil] at hs2; simp [FF, FE, FD, Sm.cs, hx, hy, hz, ho, kS, hs2, hs2n]; done))); clear hA hB A B) | (refine hB ?_; clear hA hB A B))
    | (refine RQ.st fun A B hA hB => ?_; simp [FF, FE, FD, Sm.cs, hx, hy, hz, ho, kS, onW_t, onW_f, onV_s]; first | (refine hA _ _ _ ?_ (by first | exact .inl rfl | exact .inr (by decide)) ?_; (focus (first | (simp [FF, FE, FD, Sm.cs, hx, hy, hz, ho, kS]; done) | (simp [FF, FE, FD, Sm.cs, hx, hy, hz, ho, kS]; omega))); clear hA hB A B) | (refine hB ?_; clear hA hB A B) | (refine onV_if ?_ ?_; (focus (first | omega | (refine ⟨?_, ?_⟩ <;> omega))); simp only [onV_s]; refine hA _ _ _ ?_ (by first | exact .inl rfl | exact .inr (by decide)) ?_; (focus (first | (simp [FF, FE, FD, Sm.cs, hx, hy, hz, ho, kS]; done) | (simp [FF, FE, FD, Sm.cs, hx, hy, hz, ho, kS]; omega))); clear hA hB A B))
    | refine WP.sr fun k hk => ?_ | refine WP.r fun k hk => ?_
    | (refine WP.swK [s.nx] ?_ fun k hk => ?_; (focus (decide))) | (refine WP.wK [s.nx] ?_ fun k hk => ?_; (focus (decide))) | refine WP.sd _ rfl fun k hk => ?_ | refine WP.d _ rfl fun k hk => ?_
    | (refine WP.cc fun A B hA hB => ?_; simp [FF, FE, FD, Sm.cs, hx, hy, hz, ho, kS, onB_t, onB_f]; first | (refine hA ?_; clear hA hB A B) | (refine hB ?_; clear hA hB A B) | (refine onB_if (fun h => hA ?_) (fun h => hB ?_) <;> clear hA hB A B))
    | refine WP.q ?_ | refine WP.b ?_)
  simp [mayB, fitS, bareS]
  try (rw [Bool.eq_iff_iff]; simp)
set_option maxHeartbeats 4000000 in
theorem ft_May (hG : GW K gw) (m : Sm) (hm : okS m = true) : FT (env K gw) NoW 16 [.agg m.cs] s (.bool (mayB m)) s := by
  simp only [okS, Bool.and_eq_true, decide_eq_true_eq] at hm
  obtain ⟨⟨⟨hx, hy⟩, hz⟩, ho⟩ := hm
  obtain ⟨k, x, y, z, o, n, a, b⟩ := m
  simp only at hx hy hz ho
  by_cases h1 : k = 1
  · subst h1; exact ft_May1 hG x y z o n a b hx hy hz ho
  have q1 : (k == 1) = false := by simpa using h1
  by_cases h2 : k = 2
  · subst h2; exact ft_May2 hG x y z o n a b hx hy hz ho
  have q2 : (k == 2) = false := by simpa using h2
  by_cases h3 : k = 3
  · subst h3; exact ft_May3 hG x y z o n a b hx hy hz ho
  have q3 : (k == 3) = false := by simpa using h3
  by_cases h4 : k = 4
  · subst h4; exact ft_May4 hG x y z o n a b hx hy hz ho
  have q4 : (k == 4) = false := by simpa using h4
  by_cases h5 : k = 5
  · subst h5; exact ft_May5 hG x y z o n a b hx hy hz ho
  have q5 : (k == 5) = false := by simpa using h5
  by_cases h6 : k = 6
  · subst h6; exact ft_May6 hG x y z o n a b hx hy hz ho
  have q6 : (k == 6) = false := by simpa using h6
  by_cases h7 : k = 7
  · subst h7; exact ft_May7 hG x y z o n a b hx hy hz ho
  have q7 : (k == 7) = false := by simpa using h7
  by_cases h8 : k = 8
  · subst h8; exact ft_May8 hG x y z o n a b hx hy hz ho
  have q8 : (k == 8) = false := by simpa using h8
  by_cases h9 : k = 9
  · subst h9; exact ft_May9 hG x y z o n a b hx hy hz ho
  have q9 : (k == 9) = false := by simpa using h9
  refine FT.pure (fn := Tryd.f16) (FF_ok hG) mixed Tryd.func16 (by kernel_rfl) (by rfl) rfl rfl (by simp) rfl fun μ w => ?_
  repeat' (first
    | refine WP.t ?_ | refine WP.k ?_ | refine WP.e ?_ | refine Qn ?_ | refine Qr ?_ | refine Qe ?_ | refine Bn ?_ | refine Br ?_ | refine Be ?_ | refine Bx (by decide) ?_
    | (refine RS.nl ?_; refine hk _ _ ?_; clear hk k)
    | (refine RS.st fun A B hA hB => ?_; simp [FF, FE, FD, Sm.cs, hx, hy, hz, ho, kS, q1, q2, q3, q4, q5, q6, q7, q8, q9, onW_t, onW_f, onV_s]; first | (refine hA _ _ _ ?_ ?_; (focus (first | (simp [FF, FE, FD, Sm.cs, hx, hy, hz, ho, kS, q1, q2, q3, q4, q5, q6, q7, q8, q9]; done) | (simp [FF, FE, FD, Sm.cs, hx, hy, hz, ho, kS, q1, q2, q3, q4, q5, q6, q7, q8, q9]; omega))); clear hA hB A B) | (refine hB ?_; clear hA hB A B) | (refine onV_if ?_ ?_; (focus (first | omega | (refine ⟨?_, ?_⟩ <;> omega))); simp only [onV_s]; refine hA _ _ _ ?_ ?_; (focus (first | (simp [FF, FE, FD, Sm.cs, hx, hy, hz, ho, kS, q1, q2, q3, q4, q5, q6, q7, q8, q9]; done) | (simp [FF, FE, FD, Sm.cs, hx, hy, hz, ho, kS, q1, q2, q3, q4, q5, q6, q7, q8, q9]; omega))); clear hA hB A B))
    | (refine RQ.nl ?_; refine hk _ _ ?_; clear hk k)
    | (refine RW.nl ?_ ?_; (focus (first | (simp [FF, FE, FD, Sm.cs, hx, hy, hz, ho, kS, q1, q2, q3, q4, q5, q6, q7, q8, q9]; done) | (simp [FF, FE, FD, Sm.cs, hx, hy, hz, ho, kS, q1, q2, q3, q4, q5, q6, q7, q8, q9]; omega))); refine hk _ _ ?_; clear hk k)
    | (refine RW.st ?_ fun A B hA hB => ?_; (focus (first | exact .inl (by decide) | (refine .inr ?_; first | (simp [FF, FE, FD, Sm.cs, hx, hy, hz, ho, kS, q1, q2, q3, q4, q5, q6, q7, q8, q9]; done) | (simp [FF, FE, FD, Sm.cs, hx, hy, hz, ho, kS, q1, q2, q3, q4, q5, q6, q7, q8, q9]; omega)))); simp [FF, FE, FD, Sm.cs, hx, hy, hz, ho, kS, q1, q2, q3, q4, q5, q6, q7, q8, q9, onW_t, onW_f, onV_s]; first | (refine hA _ _ _ ?_ ?_ ?_ ?_; (focus (first | (simp [FF, FE, FD, Sm.cs, hx, hy, hz, ho, kS, q1, q2, q3, q4, q5, q6, q7, q8, q9]; done) | (simp [FF, FE, FD, Sm.cs, hx, hy, hz, ho, kS, q1, q2, q3, q4, q5, q6, q7, q8, q9]; omega))); (focus (first | exact .inl (by decide) | exact .inr (.inl rfl) | exact .inr (.inr rfl))); (focus (first | exact .inl (by decide) | exact .inr (.inl (by decide)) | (refine .inr (.inr fun s2 hs2 => ?_); have hs2n := hs2.nx; simp only [Keep_cons, Keep_nil] at hs2; simp [FF, FE, FD, Sm.cs, hx, hy, hz, ho, kS, q1, q2, q3, q4, q5, q6, q7, q8, q9, hs2, hs2n]; done))); clear hA hB A B) | (refine hB ?_; clear hA hB A B))
    | (refine RQ.st fun A B hA hB => ?_; simp [FF, FE, FD, Sm.cs, hx, hy, hz, ho, kS, q1, q2, q3, q4, q5, q6, q7, q8, q9, onW_t, onW_f, onV_s]; first | (refine hA _ _ _ ?_ (by first | exact .inl rfl | exact .inr (by decide)) ?_; (focus (first | (simp [FF, FE, FD, Sm.cs, hx, hy, hz, ho, kS, q1, q2, q3, q4, q5, q6, q7, q8, q9]; done) | (simp [FF, FE, FD, Sm.cs, hx, hy, hz, ho, kS, q1, q2, q3, q4, q5, q6, q7, q8, q9]; omega))); clear hA hB A B) | (refine hB ?_; clear hA hB A B) | (refine onV_if ?_ ?_; (focus (first | omega | (refine ⟨?_, ?_⟩ <;> omega))); simp only [onV_s]; refine hA _ _ _ ?_ (by first | exact .inl rfl | exact .inr (by decide)) ?_; (focus (first | (simp [FF, FE, FD, Sm.cs, hx, hy, hz, ho, kS, q1, q2, q3, q4, q5, q6, q7, q8, q9]; done) | (simp [FF, FE, FD, Sm.cs, hx, hy, hz, ho, kS, q1, q2, q3, q4, q5, q6, q7, q8, q9]; omega))); clear hA hB A B))
    | refine WP.sr fun k hk => ?_ | refine WP.r fun k hk => ?_
    | (refine WP.swK [s.nx] ?_ fun k hk => ?_; (focus (decide))) | (refine WP.wK [s.nx] ?_ fun k hk => ?_; (focus (decide))) | refine WP.sd _ rfl fun k hk => ?_ | refine WP.d _ rfl fun k hk => ?_
    | (refine WP.cc fun A B hA hB => ?_; simp [FF, FE, FD, Sm.cs, hx, hy, hz, ho, kS, q1, q2, q3, q4, q5, q6, q7, q8, q9, onB_t, onB_f]; first | (refine hA ?_; clear hA hB A B) | (refine hB ?_; clear hA hB A B) | (refine onB_if (fun h => hA ?_) (fun h => hB ?_) <;> clear hA hB A B))
    | refine WP.q ?_ | refine WP.b ?_)
  simp [mayB, fitS, h1, h2, h3, h4, h5, h6, h7, h8, h9]
end
end Go.Am
