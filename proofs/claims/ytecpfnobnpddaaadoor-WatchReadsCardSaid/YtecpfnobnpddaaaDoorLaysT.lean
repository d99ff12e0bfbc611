/-
  DERIVED: THE SHELF's CONTRACTS AT THIS DUMP, IN PLAIN WORDS (tools/lay-plain.mjs out of 'TrydLaysT.lean', which tools/lay-shelf.mjs wrote): THE SAME DECLARATIONS UNDER THE SAME NAMES: 'import', 'namespace', 'open', 'def', 'theorem' AND NOTHING ELSE: no command of the shelf's: FOR A HAND-IN. Each laying: the table of numbers ('.._ren') and one theorem, a field a fact of the dump's own or the kernel's comparison; each contract: ONE APPLICATION.
-/
import Derived.Shelf.SlIter.Nil
import Derived.Shelf.SortM.Plain
import Derived.Shelf.SortM.SortNone
import Derived.Shelf.SlMaps.Clone
import Derived.Ground.GgzProg
import Derived.Ground.SlgmProg
import Derived.Ground.SlmcProg
import Derived.Test.YtecpfnobnpddaaaDoorProg
namespace Go.Proofs
open Go.Shelf
def Tryd.keysT_ren : Go.Shelf.Ren := ⟨fun | 7 => 65 | 10 => 91 | n => n, fun | 23 => 71 | 26 => 9 | 3 => 30 | 28 => 111 | 0 => 0 | 27 => 110 | 33 => 44 | 4 => 4 | n => n, fun | n => n⟩
theorem Tryd.keysT : Go.Proofs.SlLaysZ.n7 Tryd.prog Tryd.keysT_ren := {
  mixed := by kernel_rfl
  f7 := ⟨Tryd.f65.name, by decide, Tryd.func65.trans (congrArg some (by kernel_rfl))⟩
  f10 := ⟨Tryd.f91.name, by decide, Tryd.func91.trans (congrArg some (by kernel_rfl))⟩
  t0 := Tryd.underlying0
  a0 := Tryd.isAgg0
  z0 := Tryd.sizeOf0
  v0 := Tryd.zeroValue0
  t4 := Tryd.underlying4
  a4 := Tryd.isAgg4
  z4 := Tryd.sizeOf4
  v4 := Tryd.zeroValue4
  t23 := Tryd.underlying71
  a23 := Tryd.isAgg71
  z23 := Tryd.sizeOf71
  v23 := Tryd.zeroValue71
  t26 := Tryd.underlying9
  a26 := Tryd.isAgg9
  z26 := Tryd.sizeOf9
  v26 := Tryd.zeroValue9
  t27 := Tryd.underlying110
  a27 := Tryd.isAgg110
  z27 := Tryd.sizeOf110
  v27 := Tryd.zeroValue110
  t28 := Tryd.underlying111
  a28 := Tryd.isAgg111
  z28 := Tryd.sizeOf111
  v28 := Tryd.zeroValue111
  t33 := Tryd.underlying44
  a33 := Tryd.isAgg44
  z33 := Tryd.sizeOf44
  v33 := Tryd.zeroValue44 }
def Tryd.sortedT_ren : Go.Shelf.Ren := ⟨fun | 6 => 64 | 8 => 90 | 9 => 89 | 11 => 117 | 13 => 88 | 12 => 116 | 23 => 114 | 24 => 115 | 14 => 133 | 15 => 134 | 16 => 135 | 17 => 136 | 18 => 137 | 19 => 138 | 20 => 139 | 21 => 140 | 22 => 141 | 25 => 152 | 26 => 129 | 27 => 130 | 28 => 153 | 29 => 154 | 30 => 104 | 31 => 162 | n => n, fun | 26 => 9 | 28 => 111 | 24 => 59 | 0 => 0 | 3 => 3 | 37 => 106 | 48 => 145 | 50 => 138 | 4 => 4 | 40 => 156 | 39 => 155 | 45 => 126 | 5 => 5 | 9 => 9 | 51 => 174 | 55 => 178 | 57 => 190 | 58 => 191 | 33 => 44 | n => n, fun | n => n⟩
theorem Tryd.sortedT : Go.Proofs.SlLaysZ.n6 Tryd.prog Tryd.sortedT_ren := {
  mixed := by kernel_rfl
  f6 := ⟨Tryd.f64.name, by decide, Tryd.func64.trans (congrArg some (by kernel_rfl))⟩
  f8 := ⟨Tryd.f90.name, by decide, Tryd.func90.trans (congrArg some (by kernel_rfl))⟩
  f11 := ⟨Tryd.f117.name, by decide, Tryd.func117.trans (congrArg some (by kernel_rfl))⟩
  t0 := Tryd.underlying0
  a0 := Tryd.isAgg0
  z0 := Tryd.sizeOf0
  v0 := Tryd.zeroValue0
  t24 := Tryd.underlying59
  a24 := Tryd.isAgg59
  z24 := Tryd.sizeOf59
  v24 := Tryd.zeroValue59
  t26 := Tryd.underlying9
  a26 := Tryd.isAgg9
  z26 := Tryd.sizeOf9
  v26 := Tryd.zeroValue9
  t28 := Tryd.underlying111
  a28 := Tryd.isAgg111
  z28 := Tryd.sizeOf111
  v28 := Tryd.zeroValue111
  i26 := by kernel_rfl }
def Tryd.sortT_ren : Go.Shelf.Ren := ⟨fun | 6 => 89 | 8 => 88 | 9 => 116 | 19 => 114 | 20 => 115 | 21 => 133 | 22 => 134 | 23 => 135 | 24 => 136 | 25 => 137 | 26 => 138 | 27 => 139 | 28 => 140 | 29 => 141 | 36 => 152 | 31 => 129 | 32 => 130 | 37 => 153 | 38 => 154 | 39 => 104 | 41 => 162 | n => n, fun | 27 => 59 | 29 => 9 | 3 => 3 | 32 => 106 | 26 => 59 | 0 => 0 | 44 => 145 | 46 => 138 | 4 => 4 | 36 => 156 | 35 => 155 | 41 => 126 | 5 => 5 | 9 => 9 | 53 => 174 | 57 => 178 | 63 => 190 | 64 => 191 | n => n, fun | n => n⟩
theorem Tryd.sortT : Go.Proofs.SlLaysM.n6 Tryd.prog Tryd.sortT_ren := {
  mixed := by kernel_rfl
  f6 := ⟨Tryd.f89.name, by decide, Tryd.func89.trans (congrArg some (by kernel_rfl))⟩
  f8 := Tryd.func88.trans (congrArg some (by kernel_rfl))
  f9 := ⟨Tryd.f116.name, by decide, Tryd.func116.trans (congrArg some (by kernel_rfl))⟩
  f19 := Tryd.func114.trans (congrArg some (by kernel_rfl))
  f20 := Tryd.func115.trans (congrArg some (by kernel_rfl))
  f21 := ⟨Tryd.f133.name, by decide, Tryd.func133.trans (congrArg some (by kernel_rfl))⟩
  f22 := ⟨Tryd.f134.name, by decide, Tryd.func134.trans (congrArg some (by kernel_rfl))⟩
  f23 := ⟨Tryd.f135.name, by decide, Tryd.func135.trans (congrArg some (by kernel_rfl))⟩
  f24 := ⟨Tryd.f136.name, by decide, Tryd.func136.trans (congrArg some (by kernel_rfl))⟩
  f25 := ⟨Tryd.f137.name, by decide, Tryd.func137.trans (congrArg some (by kernel_rfl))⟩
  f26 := ⟨Tryd.f138.name, by decide, Tryd.func138.trans (congrArg some (by kernel_rfl))⟩
  f27 := ⟨Tryd.f139.name, by decide, Tryd.func139.trans (congrArg some (by kernel_rfl))⟩
  f28 := ⟨Tryd.f140.name, by decide, Tryd.func140.trans (congrArg some (by kernel_rfl))⟩
  f29 := ⟨Tryd.f141.name, by decide, Tryd.func141.trans (congrArg some (by kernel_rfl))⟩
  f31 := Tryd.func129.trans (congrArg some (by kernel_rfl))
  f32 := Tryd.func130.trans (congrArg some (by kernel_rfl))
  f36 := ⟨Tryd.f152.name, by decide, Tryd.func152.trans (congrArg some (by kernel_rfl))⟩
  f37 := ⟨Tryd.f153.name, by decide, Tryd.func153.trans (congrArg some (by kernel_rfl))⟩
  f38 := ⟨Tryd.f154.name, by decide, Tryd.func154.trans (congrArg some (by kernel_rfl))⟩
  f39 := ⟨Tryd.f104.name, by decide, Tryd.func104.trans (congrArg some (by kernel_rfl))⟩
  f41 := ⟨Tryd.f162.name, by decide, Tryd.func162.trans (congrArg some (by kernel_rfl))⟩
  t0 := Tryd.underlying0
  a0 := Tryd.isAgg0
  z0 := Tryd.sizeOf0
  v0 := Tryd.zeroValue0
  t3 := Tryd.underlying3
  a3 := Tryd.isAgg3
  z3 := Tryd.sizeOf3
  v3 := Tryd.zeroValue3
  t4 := Tryd.underlying4
  a4 := Tryd.isAgg4
  z4 := Tryd.sizeOf4
  v4 := Tryd.zeroValue4
  t5 := Tryd.underlying5
  a5 := Tryd.isAgg5
  z5 := Tryd.sizeOf5
  v5 := Tryd.zeroValue5
  t9 := Tryd.underlying9
  a9 := Tryd.isAgg9
  z9 := Tryd.sizeOf9
  v9 := Tryd.zeroValue9
  t26 := Tryd.underlying59
  a26 := Tryd.isAgg59
  z26 := Tryd.sizeOf59
  v26 := Tryd.zeroValue59
  t27 := Tryd.underlying59
  a27 := Tryd.isAgg59
  z27 := Tryd.sizeOf59
  v27 := Tryd.zeroValue59
  t29 := Tryd.underlying9
  a29 := Tryd.isAgg9
  z29 := Tryd.sizeOf9
  v29 := Tryd.zeroValue9
  t32 := Tryd.underlying106
  a32 := Tryd.isAgg106
  z32 := Tryd.sizeOf106
  v32 := Tryd.zeroValue106
  t35 := Tryd.underlying155
  a35 := Tryd.isAgg155
  z35 := Tryd.sizeOf155
  v35 := Tryd.zeroValue155
  t36 := Tryd.underlying156
  a36 := Tryd.isAgg156
  z36 := Tryd.sizeOf156
  v36 := Tryd.zeroValue156
  t41 := Tryd.underlying126
  a41 := Tryd.isAgg126
  z41 := Tryd.sizeOf126
  v41 := Tryd.zeroValue126
  t44 := Tryd.underlying145
  a44 := Tryd.isAgg145
  z44 := Tryd.sizeOf145
  v44 := Tryd.zeroValue145
  t46 := Tryd.underlying138
  a46 := Tryd.isAgg138
  z46 := Tryd.sizeOf138
  v46 := Tryd.zeroValue138
  t53 := Tryd.underlying174
  a53 := Tryd.isAgg174
  z53 := Tryd.sizeOf174
  v53 := Tryd.zeroValue174
  t57 := Tryd.underlying178
  a57 := Tryd.isAgg178
  z57 := Tryd.sizeOf178
  v57 := Tryd.zeroValue178
  t63 := Tryd.underlying190
  a63 := Tryd.isAgg190
  z63 := Tryd.sizeOf190
  v63 := Tryd.zeroValue190
  t64 := Tryd.underlying191
  a64 := Tryd.isAgg191
  z64 := Tryd.sizeOf191
  v64 := Tryd.zeroValue191 }
end Go.Proofs
