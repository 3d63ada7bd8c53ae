/- Part of the proof: abstract values over the given model of Go (T15). Conditions: none of its own; see the statement in the seat's Rows text. -/
import Derived.Test.YtnpidlhooilddaaDoorAmT
import Derived.Test.YtnpidlhooilddaaDoorAmFour
import Derived.Shelf.Strings.Cut
import Derived.Shelf.Strings.Shaped
import Derived.Shelf.Strconv.AtoiAll
import Derived.Shelf.Strconv.ParseIntPublic10
import Derived.Lib.SmallJoins
set_option linter.unusedSimpArgs false
set_option linter.unusedVariables false
set_option linter.unusedSectionVars false
namespace Go.Proofs
open Go.Shelf
def Tryd.laysCut_ren : Go.Shelf.Ren := ⟨fun | 145 => 51 | 220 => 65 | 219 => 75 | 217 => 84 | 225 => 85 | 224 => 86 | 267 => 87 | 266 => 92 | 314 => 93 | n => n, fun | 9 => 9 | 4 => 4 | 59 => 75 | 3 => 3 | 5 => 5 | 46 => 99 | 146 => 116 | 51 => 97 | n => n, fun | 1 => 1 | n => n⟩
theorem Tryd.laysCut : Go.Proofs.Lays.n145 Tryd.prog Tryd.laysCut_ren := {
  mixed := by kernel_rfl
  f145 := Tryd.func51.trans (congrArg some (by kernel_rfl))
  f217 := Tryd.func84.trans (congrArg some (by kernel_rfl))
  f219 := Tryd.func75.trans (congrArg some (by kernel_rfl))
  f220 := Tryd.func65.trans (congrArg some (by kernel_rfl))
  f224 := Tryd.func86.trans (congrArg some (by kernel_rfl))
  f225 := Tryd.func85.trans (congrArg some (by kernel_rfl))
  f266 := Tryd.func92.trans (congrArg some (by kernel_rfl))
  f267 := Tryd.func87.trans (congrArg some (by kernel_rfl))
  f314 := Tryd.func93.trans (congrArg some (by kernel_rfl))
  t3 := Tryd.underlying3
  a3 := Tryd.isAgg3
  z3 := Tryd.sizeOf3
  v3 := Tryd.zeroValue3
  t4 := Tryd.underlying4
  a4 := Tryd.isAgg4
  z4 := Tryd.sizeOf4
  v4 := Tryd.zeroValue4
  t5 := Tryd.underlying5
  a5 := Tryd.isAgg5
  z5 := Tryd.sizeOf5
  v5 := Tryd.zeroValue5
  t9 := Tryd.underlying9
  a9 := Tryd.isAgg9
  z9 := Tryd.sizeOf9
  v9 := Tryd.zeroValue9
  t46 := Tryd.underlying99
  a46 := Tryd.isAgg99
  z46 := Tryd.sizeOf99
  v46 := Tryd.zeroValue99
  t51 := Tryd.underlying97
  a51 := Tryd.isAgg97
  z51 := Tryd.sizeOf97
  v51 := Tryd.zeroValue97
  t59 := Tryd.underlying75
  a59 := Tryd.isAgg75
  z59 := Tryd.sizeOf75
  v59 := Tryd.zeroValue75
  t146 := Tryd.underlying116
  a146 := Tryd.isAgg116
  z146 := Tryd.sizeOf116
  v146 := Tryd.zeroValue116
  g1 := by kernel_rfl }
def Tryd.laysCutM_ren : Go.Shelf.Ren := ⟨fun | 145 => 51 | 220 => 65 | 219 => 75 | 217 => 84 | 225 => 85 | 224 => 86 | 267 => 87 | 266 => 92 | 314 => 93 | n => n, fun | 9 => 9 | 4 => 4 | 59 => 75 | 3 => 3 | 5 => 5 | 46 => 99 | 146 => 116 | 51 => 97 | n => n, fun | 1 => 1 | n => n⟩
theorem Tryd.laysCutM : Go.Proofs.LaysM.n145 Tryd.prog Tryd.laysCutM_ren := {
  mixed := by kernel_rfl
  f145 := Tryd.func51.trans (congrArg some (by kernel_rfl))
  f217 := Tryd.func84.trans (congrArg some (by kernel_rfl))
  f219 := Tryd.func75.trans (congrArg some (by kernel_rfl))
  f220 := Tryd.func65.trans (congrArg some (by kernel_rfl))
  f224 := Tryd.func86.trans (congrArg some (by kernel_rfl))
  f225 := Tryd.func85.trans (congrArg some (by kernel_rfl))
  f266 := Tryd.func92.trans (congrArg some (by kernel_rfl))
  f267 := Tryd.func87.trans (congrArg some (by kernel_rfl))
  f314 := Tryd.func93.trans (congrArg some (by kernel_rfl))
  t3 := Tryd.underlying3
  a3 := Tryd.isAgg3
  z3 := Tryd.sizeOf3
  v3 := Tryd.zeroValue3
  t4 := Tryd.underlying4
  a4 := Tryd.isAgg4
  z4 := Tryd.sizeOf4
  v4 := Tryd.zeroValue4
  t5 := Tryd.underlying5
  a5 := Tryd.isAgg5
  z5 := Tryd.sizeOf5
  v5 := Tryd.zeroValue5
  t9 := Tryd.underlying9
  a9 := Tryd.isAgg9
  z9 := Tryd.sizeOf9
  v9 := Tryd.zeroValue9
  t46 := Tryd.underlying99
  a46 := Tryd.isAgg99
  z46 := Tryd.sizeOf99
  v46 := Tryd.zeroValue99
  t51 := Tryd.underlying97
  a51 := Tryd.isAgg97
  z51 := Tryd.sizeOf97
  v51 := Tryd.zeroValue97
  t59 := Tryd.underlying75
  a59 := Tryd.isAgg75
  z59 := Tryd.sizeOf75
  v59 := Tryd.zeroValue75
  t146 := Tryd.underlying116
  a146 := Tryd.isAgg116
  z146 := Tryd.sizeOf116
  v146 := Tryd.zeroValue116
  g1 := by kernel_rfl
  i3 := by kernel_rfl
  i4 := by kernel_rfl
  i5 := by kernel_rfl
  i9 := by kernel_rfl
  i46 := by kernel_rfl
  i51 := by kernel_rfl
  i59 := by kernel_rfl
  i146 := by kernel_rfl
  m1 := by kernel_rfl
  s1_3 := fun w h => Go.Proofs.cell_of_shapedOpen_int (zero := #[.int .i64 0]) (t := 3) h (of_decide_eq_true (by kernel_rfl)) (by kernel_rfl) rfl (by kernel_rfl) (by kernel_rfl) Tryd.underlying3 }
def Tryd.laysAtoi_ren : Go.Shelf.Ren := ⟨fun | 172 => 52 | 244 => 66 | 245 => 67 | 247 => 68 | 279 => 76 | 280 => 77 | 281 => 78 | 282 => 79 | 287 => 80 | 316 => 88 | 171 => 31 | 205 => 89 | 321 => 90 | 322 => 91 | 243 => 48 | 246 => 46 | 283 => 58 | 284 => 59 | 285 => 60 | 286 => 61 | 129 => 70 | 317 => 69 | 318 => 71 | 319 => 72 | 320 => 73 | 337 => 81 | 338 => 82 | n => n, fun | 9 => 9 | 3 => 3 | 75 => 57 | 76 => 58 | 4 => 4 | 5 => 5 | 167 => 101 | 37 => 52 | 0 => 0 | 85 => 78 | 2 => 2 | 168 => 102 | 53 => 84 | 175 => 105 | 46 => 99 | 210 => 111 | 127 => 73 | 145 => 120 | 143 => 118 | 21 => 21 | 171 => 83 | 173 => 87 | 212 => 96 | 51 => 97 | 20 => 20 | 213 => 98 | 232 => 114 | 233 => 115 | 80 => 61 | n => n, fun | 15 => 2 | 16 => 3 | 17 => 0 | 18 => 4 | 19 => 5 | n => n⟩
theorem Tryd.laysAtoi : Go.Proofs.LaysC.n172 Tryd.prog Tryd.laysAtoi_ren := {
  mixed := by kernel_rfl
  f129 := Tryd.func70.trans (congrArg some (by kernel_rfl))
  f171 := Tryd.func31.trans (congrArg some (by kernel_rfl))
  f172 := Tryd.func52.trans (congrArg some (by kernel_rfl))
  f205 := Tryd.func89.trans (congrArg some (by kernel_rfl))
  f243 := Tryd.func48.trans (congrArg some (by kernel_rfl))
  f244 := Tryd.func66.trans (congrArg some (by kernel_rfl))
  f245 := Tryd.func67.trans (congrArg some (by kernel_rfl))
  f246 := Tryd.func46.trans (congrArg some (by kernel_rfl))
  f247 := Tryd.func68.trans (congrArg some (by kernel_rfl))
  f279 := Tryd.func76.trans (congrArg some (by kernel_rfl))
  f280 := Tryd.func77.trans (congrArg some (by kernel_rfl))
  f281 := Tryd.func78.trans (congrArg some (by kernel_rfl))
  f282 := Tryd.func79.trans (congrArg some (by kernel_rfl))
  f283 := Tryd.func58.trans (congrArg some (by kernel_rfl))
  f284 := Tryd.func59.trans (congrArg some (by kernel_rfl))
  f285 := Tryd.func60.trans (congrArg some (by kernel_rfl))
  f286 := Tryd.func61.trans (congrArg some (by kernel_rfl))
  f287 := Tryd.func80.trans (congrArg some (by kernel_rfl))
  f316 := Tryd.func88.trans (congrArg some (by kernel_rfl))
  f317 := Tryd.func69.trans (congrArg some (by kernel_rfl))
  f318 := Tryd.func71.trans (congrArg some (by kernel_rfl))
  f319 := Tryd.func72.trans (congrArg some (by kernel_rfl))
  f320 := Tryd.func73.trans (congrArg some (by kernel_rfl))
  f321 := Tryd.func90.trans (congrArg some (by kernel_rfl))
  f322 := Tryd.func91.trans (congrArg some (by kernel_rfl))
  f337 := Tryd.func81.trans (congrArg some (by kernel_rfl))
  f338 := Tryd.func82.trans (congrArg some (by kernel_rfl))
  t0 := Tryd.underlying0
  a0 := Tryd.isAgg0
  z0 := Tryd.sizeOf0
  v0 := Tryd.zeroValue0
  t2 := Tryd.underlying2
  a2 := Tryd.isAgg2
  z2 := Tryd.sizeOf2
  v2 := Tryd.zeroValue2
  t3 := Tryd.underlying3
  a3 := Tryd.isAgg3
  z3 := Tryd.sizeOf3
  v3 := Tryd.zeroValue3
  t4 := Tryd.underlying4
  a4 := Tryd.isAgg4
  z4 := Tryd.sizeOf4
  v4 := Tryd.zeroValue4
  t5 := Tryd.underlying5
  a5 := Tryd.isAgg5
  z5 := Tryd.sizeOf5
  v5 := Tryd.zeroValue5
  t9 := Tryd.underlying9
  a9 := Tryd.isAgg9
  z9 := Tryd.sizeOf9
  v9 := Tryd.zeroValue9
  t20 := Tryd.underlying20
  a20 := Tryd.isAgg20
  z20 := Tryd.sizeOf20
  v20 := Tryd.zeroValue20
  t21 := Tryd.underlying21
  a21 := Tryd.isAgg21
  z21 := Tryd.sizeOf21
  v21 := Tryd.zeroValue21
  t37 := Tryd.underlying52
  a37 := Tryd.isAgg52
  z37 := Tryd.sizeOf52
  v37 := Tryd.zeroValue52
  t46 := Tryd.underlying99
  a46 := Tryd.isAgg99
  z46 := Tryd.sizeOf99
  v46 := Tryd.zeroValue99
  t51 := Tryd.underlying97
  a51 := Tryd.isAgg97
  z51 := Tryd.sizeOf97
  v51 := Tryd.zeroValue97
  t53 := Tryd.underlying84
  a53 := Tryd.isAgg84
  z53 := Tryd.sizeOf84
  v53 := Tryd.zeroValue84
  t75 := Tryd.underlying57
  a75 := Tryd.isAgg57
  z75 := Tryd.sizeOf57
  v75 := Tryd.zeroValue57
  t76 := Tryd.underlying58
  a76 := Tryd.isAgg58
  z76 := Tryd.sizeOf58
  v76 := Tryd.zeroValue58
  t85 := Tryd.underlying78
  a85 := Tryd.isAgg78
  z85 := Tryd.sizeOf78
  v85 := Tryd.zeroValue78
  t127 := Tryd.underlying73
  a127 := Tryd.isAgg73
  z127 := Tryd.sizeOf73
  v127 := Tryd.zeroValue73
  t143 := Tryd.underlying118
  a143 := Tryd.isAgg118
  z143 := Tryd.sizeOf118
  v143 := Tryd.zeroValue118
  t145 := Tryd.underlying120
  a145 := Tryd.isAgg120
  z145 := Tryd.sizeOf120
  v145 := Tryd.zeroValue120
  t167 := Tryd.underlying101
  a167 := Tryd.isAgg101
  z167 := Tryd.sizeOf101
  v167 := Tryd.zeroValue101
  t168 := Tryd.underlying102
  a168 := Tryd.isAgg102
  z168 := Tryd.sizeOf102
  v168 := Tryd.zeroValue102
  t171 := Tryd.underlying83
  a171 := Tryd.isAgg83
  z171 := Tryd.sizeOf83
  v171 := Tryd.zeroValue83
  t173 := Tryd.underlying87
  a173 := Tryd.isAgg87
  z173 := Tryd.sizeOf87
  v173 := Tryd.zeroValue87
  t175 := Tryd.underlying105
  a175 := Tryd.isAgg105
  z175 := Tryd.sizeOf105
  v175 := Tryd.zeroValue105
  t210 := Tryd.underlying111
  a210 := Tryd.isAgg111
  z210 := Tryd.sizeOf111
  v210 := Tryd.zeroValue111
  t212 := Tryd.underlying96
  a212 := Tryd.isAgg96
  z212 := Tryd.sizeOf96
  v212 := Tryd.zeroValue96
  t213 := Tryd.underlying98
  a213 := Tryd.isAgg98
  z213 := Tryd.sizeOf98
  t232 := Tryd.underlying114
  a232 := Tryd.isAgg114
  z232 := Tryd.sizeOf114
  v232 := Tryd.zeroValue114
  t233 := Tryd.underlying115
  a233 := Tryd.isAgg115
  z233 := Tryd.sizeOf115
  v233 := Tryd.zeroValue115
  g15 := by kernel_rfl
  g16 := by kernel_rfl
  g17 := by kernel_rfl
  g18 := by kernel_rfl
  g19 := by kernel_rfl
  t80 := Tryd.underlying61
  a80 := Tryd.isAgg61
  z80 := Tryd.sizeOf61
  v80 := Tryd.zeroValue61
  i0 := by kernel_rfl
  i2 := by kernel_rfl
  i3 := by kernel_rfl
  i4 := by kernel_rfl
  i5 := by kernel_rfl
  i9 := by kernel_rfl
  i20 := by kernel_rfl
  i21 := by kernel_rfl
  i37 := by kernel_rfl
  i46 := by kernel_rfl
  i51 := by kernel_rfl
  i53 := by kernel_rfl
  i75 := by kernel_rfl
  i76 := by kernel_rfl
  i80 := by kernel_rfl
  i85 := by kernel_rfl
  i127 := by kernel_rfl
  i143 := by kernel_rfl
  i145 := by kernel_rfl
  i167 := by kernel_rfl
  i168 := by kernel_rfl
  i171 := by kernel_rfl
  i173 := by kernel_rfl
  i175 := by kernel_rfl
  i210 := by kernel_rfl
  i212 := by kernel_rfl
  i232 := by kernel_rfl
  i233 := by kernel_rfl
  m15 := by kernel_rfl
  m16 := by kernel_rfl
  m17 := by kernel_rfl
  m18 := by kernel_rfl
  m19 := by kernel_rfl
  c0 := by kernel_rfl
  c2 := by kernel_rfl
  c3 := by kernel_rfl
  c4 := by kernel_rfl
  c5 := by kernel_rfl
  c9 := by kernel_rfl
  c20 := by kernel_rfl
  c21 := by kernel_rfl
  c37 := by kernel_rfl
  c46 := by kernel_rfl
  c51 := by kernel_rfl
  c53 := by kernel_rfl
  c75 := by kernel_rfl
  c76 := by kernel_rfl
  c80 := by kernel_rfl
  c85 := by kernel_rfl
  c127 := by kernel_rfl
  c143 := by kernel_rfl
  c145 := by kernel_rfl
  c167 := by kernel_rfl
  c168 := by kernel_rfl
  c171 := by kernel_rfl
  c173 := by kernel_rfl
  c175 := by kernel_rfl
  c210 := by kernel_rfl
  c212 := by kernel_rfl
  c213 := by kernel_rfl
  c232 := by kernel_rfl
  c233 := by kernel_rfl }
def Tryd.laysParse_ren : Go.Shelf.Ren := ⟨fun | 174 => 54 | 247 => 68 | 245 => 67 | 287 => 80 | 279 => 76 | 280 => 77 | 281 => 78 | 282 => 79 | 321 => 90 | 322 => 91 | 316 => 88 | 171 => 31 | 205 => 89 | 243 => 48 | 246 => 46 | 283 => 58 | 284 => 59 | 285 => 60 | 286 => 61 | 129 => 70 | 317 => 69 | 318 => 71 | 319 => 72 | 320 => 73 | 337 => 81 | 338 => 82 | n => n, fun | 9 => 9 | 3 => 3 | 2 => 2 | 75 => 57 | 85 => 78 | 4 => 4 | 167 => 101 | 5 => 5 | 53 => 84 | 175 => 105 | 46 => 99 | 168 => 102 | 37 => 52 | 0 => 0 | 210 => 111 | 21 => 21 | 127 => 73 | 145 => 120 | 143 => 118 | 171 => 83 | 173 => 87 | 212 => 96 | 51 => 97 | 20 => 20 | 213 => 98 | 232 => 114 | 233 => 115 | 80 => 61 | n => n, fun | 15 => 2 | 16 => 3 | 17 => 0 | 18 => 4 | 19 => 5 | n => n⟩
theorem Tryd.laysParse : Go.Proofs.LaysC.n174 Tryd.prog Tryd.laysParse_ren := {
  mixed := by kernel_rfl
  f129 := Tryd.func70.trans (congrArg some (by kernel_rfl))
  f171 := Tryd.func31.trans (congrArg some (by kernel_rfl))
  f174 := Tryd.func54.trans (congrArg some (by kernel_rfl))
  f205 := Tryd.func89.trans (congrArg some (by kernel_rfl))
  f243 := Tryd.func48.trans (congrArg some (by kernel_rfl))
  f245 := Tryd.func67.trans (congrArg some (by kernel_rfl))
  f246 := Tryd.func46.trans (congrArg some (by kernel_rfl))
  f247 := Tryd.func68.trans (congrArg some (by kernel_rfl))
  f279 := Tryd.func76.trans (congrArg some (by kernel_rfl))
  f280 := Tryd.func77.trans (congrArg some (by kernel_rfl))
  f281 := Tryd.func78.trans (congrArg some (by kernel_rfl))
  f282 := Tryd.func79.trans (congrArg some (by kernel_rfl))
  f283 := Tryd.func58.trans (congrArg some (by kernel_rfl))
  f284 := Tryd.func59.trans (congrArg some (by kernel_rfl))
  f285 := Tryd.func60.trans (congrArg some (by kernel_rfl))
  f286 := Tryd.func61.trans (congrArg some (by kernel_rfl))
  f287 := Tryd.func80.trans (congrArg some (by kernel_rfl))
  f316 := Tryd.func88.trans (congrArg some (by kernel_rfl))
  f317 := Tryd.func69.trans (congrArg some (by kernel_rfl))
  f318 := Tryd.func71.trans (congrArg some (by kernel_rfl))
  f319 := Tryd.func72.trans (congrArg some (by kernel_rfl))
  f320 := Tryd.func73.trans (congrArg some (by kernel_rfl))
  f321 := Tryd.func90.trans (congrArg some (by kernel_rfl))
  f322 := Tryd.func91.trans (congrArg some (by kernel_rfl))
  f337 := Tryd.func81.trans (congrArg some (by kernel_rfl))
  f338 := Tryd.func82.trans (congrArg some (by kernel_rfl))
  t0 := Tryd.underlying0
  a0 := Tryd.isAgg0
  z0 := Tryd.sizeOf0
  v0 := Tryd.zeroValue0
  t2 := Tryd.underlying2
  a2 := Tryd.isAgg2
  z2 := Tryd.sizeOf2
  v2 := Tryd.zeroValue2
  t3 := Tryd.underlying3
  a3 := Tryd.isAgg3
  z3 := Tryd.sizeOf3
  v3 := Tryd.zeroValue3
  t4 := Tryd.underlying4
  a4 := Tryd.isAgg4
  z4 := Tryd.sizeOf4
  v4 := Tryd.zeroValue4
  t5 := Tryd.underlying5
  a5 := Tryd.isAgg5
  z5 := Tryd.sizeOf5
  v5 := Tryd.zeroValue5
  t9 := Tryd.underlying9
  a9 := Tryd.isAgg9
  z9 := Tryd.sizeOf9
  v9 := Tryd.zeroValue9
  t20 := Tryd.underlying20
  a20 := Tryd.isAgg20
  z20 := Tryd.sizeOf20
  v20 := Tryd.zeroValue20
  t21 := Tryd.underlying21
  a21 := Tryd.isAgg21
  z21 := Tryd.sizeOf21
  v21 := Tryd.zeroValue21
  t37 := Tryd.underlying52
  a37 := Tryd.isAgg52
  z37 := Tryd.sizeOf52
  v37 := Tryd.zeroValue52
  t46 := Tryd.underlying99
  a46 := Tryd.isAgg99
  z46 := Tryd.sizeOf99
  v46 := Tryd.zeroValue99
  t51 := Tryd.underlying97
  a51 := Tryd.isAgg97
  z51 := Tryd.sizeOf97
  v51 := Tryd.zeroValue97
  t53 := Tryd.underlying84
  a53 := Tryd.isAgg84
  z53 := Tryd.sizeOf84
  v53 := Tryd.zeroValue84
  t75 := Tryd.underlying57
  a75 := Tryd.isAgg57
  z75 := Tryd.sizeOf57
  v75 := Tryd.zeroValue57
  t85 := Tryd.underlying78
  a85 := Tryd.isAgg78
  z85 := Tryd.sizeOf78
  v85 := Tryd.zeroValue78
  t127 := Tryd.underlying73
  a127 := Tryd.isAgg73
  z127 := Tryd.sizeOf73
  v127 := Tryd.zeroValue73
  t143 := Tryd.underlying118
  a143 := Tryd.isAgg118
  z143 := Tryd.sizeOf118
  v143 := Tryd.zeroValue118
  t145 := Tryd.underlying120
  a145 := Tryd.isAgg120
  z145 := Tryd.sizeOf120
  v145 := Tryd.zeroValue120
  t167 := Tryd.underlying101
  a167 := Tryd.isAgg101
  z167 := Tryd.sizeOf101
  v167 := Tryd.zeroValue101
  t168 := Tryd.underlying102
  a168 := Tryd.isAgg102
  z168 := Tryd.sizeOf102
  v168 := Tryd.zeroValue102
  t171 := Tryd.underlying83
  a171 := Tryd.isAgg83
  z171 := Tryd.sizeOf83
  v171 := Tryd.zeroValue83
  t173 := Tryd.underlying87
  a173 := Tryd.isAgg87
  z173 := Tryd.sizeOf87
  v173 := Tryd.zeroValue87
  t175 := Tryd.underlying105
  a175 := Tryd.isAgg105
  z175 := Tryd.sizeOf105
  v175 := Tryd.zeroValue105
  t210 := Tryd.underlying111
  a210 := Tryd.isAgg111
  z210 := Tryd.sizeOf111
  v210 := Tryd.zeroValue111
  t212 := Tryd.underlying96
  a212 := Tryd.isAgg96
  z212 := Tryd.sizeOf96
  v212 := Tryd.zeroValue96
  t213 := Tryd.underlying98
  a213 := Tryd.isAgg98
  z213 := Tryd.sizeOf98
  t232 := Tryd.underlying114
  a232 := Tryd.isAgg114
  z232 := Tryd.sizeOf114
  v232 := Tryd.zeroValue114
  t233 := Tryd.underlying115
  a233 := Tryd.isAgg115
  z233 := Tryd.sizeOf115
  v233 := Tryd.zeroValue115
  g15 := by kernel_rfl
  g16 := by kernel_rfl
  g17 := by kernel_rfl
  g18 := by kernel_rfl
  g19 := by kernel_rfl
  t80 := Tryd.underlying61
  a80 := Tryd.isAgg61
  z80 := Tryd.sizeOf61
  v80 := Tryd.zeroValue61
  i0 := by kernel_rfl
  i2 := by kernel_rfl
  i3 := by kernel_rfl
  i4 := by kernel_rfl
  i5 := by kernel_rfl
  i9 := by kernel_rfl
  i20 := by kernel_rfl
  i21 := by kernel_rfl
  i37 := by kernel_rfl
  i46 := by kernel_rfl
  i51 := by kernel_rfl
  i53 := by kernel_rfl
  i75 := by kernel_rfl
  i80 := by kernel_rfl
  i85 := by kernel_rfl
  i127 := by kernel_rfl
  i143 := by kernel_rfl
  i145 := by kernel_rfl
  i167 := by kernel_rfl
  i168 := by kernel_rfl
  i171 := by kernel_rfl
  i173 := by kernel_rfl
  i175 := by kernel_rfl
  i210 := by kernel_rfl
  i212 := by kernel_rfl
  i232 := by kernel_rfl
  i233 := by kernel_rfl
  m15 := by kernel_rfl
  m16 := by kernel_rfl
  m17 := by kernel_rfl
  m18 := by kernel_rfl
  m19 := by kernel_rfl
  c0 := by kernel_rfl
  c2 := by kernel_rfl
  c3 := by kernel_rfl
  c4 := by kernel_rfl
  c5 := by kernel_rfl
  c9 := by kernel_rfl
  c20 := by kernel_rfl
  c21 := by kernel_rfl
  c37 := by kernel_rfl
  c46 := by kernel_rfl
  c51 := by kernel_rfl
  c53 := by kernel_rfl
  c75 := by kernel_rfl
  c80 := by kernel_rfl
  c85 := by kernel_rfl
  c127 := by kernel_rfl
  c143 := by kernel_rfl
  c145 := by kernel_rfl
  c167 := by kernel_rfl
  c168 := by kernel_rfl
  c171 := by kernel_rfl
  c173 := by kernel_rfl
  c175 := by kernel_rfl
  c210 := by kernel_rfl
  c212 := by kernel_rfl
  c213 := by kernel_rfl
  c232 := by kernel_rfl
  c233 := by kernel_rfl }
end Go.Proofs
namespace Go.Am
open Go.Proofs Go.Shelf
section
variable {K : Nat} {gw : World} {s : St}
/-- What the library's variables hold. -/
structure Errs (gw : World) : Prop where
  max : ∃ m, gw.cell? ⟨1, 0, none⟩ = some (.int .i64 m)
  syn : ∃ te pe, gw.cell? ⟨2, 0, none⟩ = some (.iface te pe)
  rng : ∃ te pe, gw.cell? ⟨3, 0, none⟩ = some (.iface te pe)
theorem cell_gl {μ : Mu} {w : World} (hR : Rel (env K gw) μ s w) {g : Nat} (hg : g < K) : w.cell? ⟨g, 0, none⟩ = gw.cell? ⟨g, 0, none⟩ := World.cell?_block (hR.gl g hg)
theorem rd1 (h1 : Tryd.laysCut_ren.g 1 = 1) : True := trivial
theorem one_str {μ : Mu} {w : World} {x : List UInt8} {vs : Array Value} (hv : VRs μ s w [.str x] vs) : vs = #[.string ⟨x.toArray⟩] := by
  have hs : vs.size = 1 := by rw [← hv.1]; rfl
  obtain ⟨v, rfl⟩ : ∃ v, vs = #[v] := ⟨vs[0], Array.ext (by simpa using hs) (fun i h1 h2 => by simp at h2; subst h2; rfl)⟩
  have hx := hv.2 0 _ v rfl rfl
  cases hx
  rfl
theorem vr_str {μ : Mu} {w : World} (x : List UInt8) : VR μ s w (.str x) (.string ⟨x.toArray⟩) := .str ⟨x.toArray⟩
theorem vr_pair {μ : Mu} {w : World} {x y : AV} {u v : Value} (h1 : VR μ s w x u) (h2 : VR μ s w y v) : VR μ s w (.tup [x, y]) (.tuple #[u, v]) :=
  .tup _ _ rfl fun i a b ha hb => by
    match i, ha, hb with
    | 0, ha, hb => simp at ha hb; subst ha; subst hb; exact h1
    | 1, ha, hb => simp at ha hb; subst ha; subst hb; exact h2
theorem ft52 (hK : 3 < K) (hE : Errs gw) (x : List UInt8) (hl : x.length ≤ 100000000) : FT (env K gw) NoW 52 [.str x] s
    (.tup (match Lib.atoiAll x with
      | .ok v => [.int .i64 v, .nif]
      | .range => [.int .i64 (Lib.atoiSat x), .ifc 102 .junk]
      | _ => [.int .i64 0, .ifc 102 .junk])) s := by
  refine FT.below (fnOk env_P Tryd.func52 (by rfl) (by rfl)) fun μ w vs hR hv => ?_
  obtain rfl := one_str hv
  have hz : (⟨x.toArray⟩ : ByteArray).size ≤ 100000000 := by simpa [ByteArray.size] using hl
  cases hx : Lib.atoiAll x with
  | ok v =>
    refine Calls.mono (Any.strconv_Atoi_ok Tryd.laysAtoi ⟨x.toArray⟩ (by omega) v (by simpa using hx) w) fun e w' he => ?_
    obtain ⟨rfl, rfl | ⟨t, rfl⟩⟩ := he
    · exact ⟨_, rfl, vr_pair (.int _ _) .nif, Go.RowKit.Below.refl _ _⟩
    · exact ⟨_, rfl, vr_pair (.int _ _) .nif, Go.Joins.below_bytesWorld _ _ _ _ (Nat.le_refl _)⟩
  | range =>
    obtain ⟨te, pe, h2⟩ := hE.rng
    refine Calls.mono (Any.strconv_Atoi_range Tryd.laysAtoi ⟨x.toArray⟩ (by omega) (by simpa using hx) (.iface te pe) w ((cell_gl hR (g := 3) (by omega)).trans h2) (.inr ⟨_, _, rfl⟩)) fun e w' he => ?_
    obtain ⟨N, rfl, _, _, hb⟩ := he
    exact ⟨_, rfl, vr_pair (.int _ _) (.ifc _ _ _ (.junk _)), hb⟩
  | _ =>
    obtain ⟨te, pe, h2⟩ := hE.syn
    refine Calls.mono (Any.strconv_Atoi_syntax Tryd.laysAtoi ⟨x.toArray⟩ (by omega) (by simpa using hx) (.iface te pe) w ((cell_gl hR (g := 2) (by omega)).trans h2) (.inr ⟨_, _, rfl⟩)) fun e w' he => ?_
    obtain ⟨N, rfl, _, _, hb⟩ := he
    exact ⟨_, rfl, vr_pair (.int _ _) (.ifc _ _ _ (.junk _)), hb⟩
theorem three_args {μ : Mu} {w : World} {x : List UInt8} {m n : Int} {vs : Array Value} (hv : VRs μ s w [.str x, .int .i64 m, .int .i64 n] vs) : vs = #[.string ⟨x.toArray⟩, .int .i64 m, .int .i64 n] := by
  have hs : vs.size = 3 := by rw [← hv.1]; rfl
  obtain ⟨v0, v1, v2, rfl⟩ : ∃ v0 v1 v2, vs = #[v0, v1, v2] := ⟨vs[0], vs[1], vs[2], Array.ext (by simpa using hs) (fun i h1 h2 => by
    simp at h2
    match i, h2 with
    | 0, _ => rfl
    | 1, _ => rfl
    | 2, _ => rfl)⟩
  have h0 := hv.2 0 _ v0 rfl rfl
  have h1 := hv.2 1 _ v1 rfl rfl
  have h2 := hv.2 2 _ v2 rfl rfl
  cases h0; cases h1; cases h2
  rfl
theorem two_strs {μ : Mu} {w : World} {x y : List UInt8} {vs : Array Value} (hv : VRs μ s w [.str x, .str y] vs) : vs = #[.string ⟨x.toArray⟩, .string ⟨y.toArray⟩] := by
  have hs : vs.size = 2 := by rw [← hv.1]; rfl
  obtain ⟨v0, v1, rfl⟩ : ∃ v0 v1, vs = #[v0, v1] := ⟨vs[0], vs[1], Array.ext (by simpa using hs) (fun i h1 h2 => by
    simp at h2
    match i, h2 with
    | 0, _ => rfl
    | 1, _ => rfl)⟩
  have h0 := hv.2 0 _ v0 rfl rfl
  have h1 := hv.2 1 _ v1 rfl rfl
  cases h0; cases h1
  rfl
theorem ft54 (hK : 3 < K) (hE : Errs gw) (x : List UInt8) (hl : x.length ≤ 100000000) : FT (env K gw) NoW 54 [.str x, .int .i64 10, .int .i64 64] s
    (.tup (match Lib.parseIntB 64 x with
      | .ok v => [.int .i64 v, .nif]
      | .range => [.int .i64 (Lib.intSat 64 x), .ifc 102 .junk]
      | _ => [.int .i64 0, .ifc 102 .junk])) s := by
  refine FT.below (fnOk env_P Tryd.func54 (by rfl) (by rfl)) fun μ w vs hR hv => ?_
  obtain rfl := three_args hv
  have hz : (⟨x.toArray⟩ : ByteArray).size ≤ 100000000 := by simpa [ByteArray.size] using hl
  cases hx : Lib.parseIntB 64 x with
  | ok v =>
    refine Calls.mono (Any.strconv_ParseInt_10_at64_ok Tryd.laysParse ⟨x.toArray⟩ (by omega) v (by simpa using hx) w) fun e w' he => ?_
    obtain ⟨rfl, rfl | ⟨t, rfl⟩⟩ := he
    · exact ⟨_, rfl, vr_pair (.int _ _) .nif, Go.RowKit.Below.refl _ _⟩
    · exact ⟨_, rfl, vr_pair (.int _ _) .nif, Go.Joins.below_bytesWorld _ _ _ _ (Nat.le_refl _)⟩
  | range =>
    obtain ⟨te, pe, h2⟩ := hE.rng
    refine Calls.mono (Any.strconv_ParseInt_10_at64_range Tryd.laysParse ⟨x.toArray⟩ (by omega) (by simpa using hx) (.iface te pe) w ((cell_gl hR (g := 3) (by omega)).trans h2) (.inr ⟨_, _, rfl⟩)) fun e w' he => ?_
    obtain ⟨N, rfl, _, _, hb⟩ := he
    exact ⟨_, rfl, vr_pair (.int _ _) (.ifc _ _ _ (.junk _)), hb⟩
  | _ =>
    obtain ⟨te, pe, h2⟩ := hE.syn
    refine Calls.mono (Any.strconv_ParseInt_10_at64_syntax Tryd.laysParse ⟨x.toArray⟩ (by omega) (by simpa using hx) (.iface te pe) w ((cell_gl hR (g := 2) (by omega)).trans h2) (.inr ⟨_, _, rfl⟩)) fun e w' he => ?_
    obtain ⟨N, rfl, _, _, hb⟩ := he
    exact ⟨_, rfl, vr_pair (.int _ _) (.ifc _ _ _ (.junk _)), hb⟩
theorem ft51 (hK : 3 < K) (hE : Errs gw) (x y : List UInt8) (hl : x.length ≤ 100000000) : FT (env K gw) NoW 51 [.str x, .str y] s (.tup [.str (Lib.cut x y).1, .str (Lib.cut x y).2.1, .bool (Lib.cut x y).2.2]) s := by
  refine FT.below (fnOk env_P Tryd.func51 (by rfl) (by rfl)) fun μ w vs hR hv => ?_
  obtain rfl := two_strs hv
  have hz : (⟨x.toArray⟩ : ByteArray).size ≤ 100000000 := by simpa [ByteArray.size] using hl
  obtain ⟨m, hm⟩ := hE.max
  refine Calls.mono (Any.strings_Cut Tryd.laysCut ⟨x.toArray⟩ ⟨y.toArray⟩ m w (by omega) ((cell_gl hR (g := 1) (by omega)).trans hm)) fun e w' he => ?_
  obtain ⟨rfl, n, rfl⟩ := he
  refine ⟨_, rfl, .tup _ _ rfl fun i a b ha hb => ?_, ⟨rfl, rfl, rfl, Nat.le_refl _, fun _ _ => rfl⟩⟩
  match i, ha, hb with
  | 0, ha, hb => simp at ha hb; subst ha; subst hb; exact vr_str _
  | 1, ha, hb => simp at ha hb; subst ha; subst hb; exact vr_str _
  | 2, ha, hb => simp at ha hb; subst ha; subst hb; exact .bool _
def pCut : List AV → Option AV
  | [.str x, .str y] => if x.length ≤ 100000000 then some (.tup [.str (Lib.cut x y).1, .str (Lib.cut x y).2.1, .bool (Lib.cut x y).2.2]) else none
  | _ => none
def pAtoi : List AV → Option AV
  | [.str x] => if x.length ≤ 100000000 then some (.tup (match Lib.atoiAll x with
      | .ok v => [.int .i64 v, .nif]
      | .range => [.int .i64 (Lib.atoiSat x), .ifc 102 .junk]
      | _ => [.int .i64 0, .ifc 102 .junk])) else none
  | _ => none
def pParse : List AV → Option AV
  | [.str x, .int .i64 10, .int .i64 64] => if x.length ≤ 100000000 then some (.tup (match Lib.parseIntB 64 x with
      | .ok v => [.int .i64 v, .nif]
      | .range => [.int .i64 (Lib.intSat 64 x), .ifc 102 .junk]
      | _ => [.int .i64 0, .ifc 102 .junk])) else none
  | _ => none
def G1 : Fns := ((F13.addP 51 pCut).addP 52 pAtoi).addP 54 pParse
theorem G1_ok (hK : 3 < K) (hT : Tens gw) (hE : Errs gw) : FOk (env K gw) G1 := by
  refine (((F13_ok (by omega) hT).addP ?_).addP ?_).addP ?_
  · intro xs s r h; unfold pCut at h; split at h
    · split at h
      · cases h; exact ft51 hK hE _ _ ‹_›
      · cases h
    · cases h
  · intro xs s r h; unfold pAtoi at h; split at h
    · split at h
      · cases h; exact ft52 hK hE _ ‹_›
      · cases h
    · cases h
  · intro xs s r h; unfold pParse at h; split at h
    · split at h
      · cases h; exact ft54 hK hE _ ‹_›
      · cases h
    · cases h
end
end Go.Am
