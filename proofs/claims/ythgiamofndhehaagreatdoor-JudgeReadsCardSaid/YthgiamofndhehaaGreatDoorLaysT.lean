/-
  DERIVED: THE SHELF's CONTRACTS AT THIS DUMP, IN PLAIN WORDS (tools/lay-plain.mjs out of 'TryzLaysT.lean', which tools/lay-shelf.mjs wrote): THE SAME DECLARATIONS UNDER THE SAME NAMES: 'import', 'namespace', 'open', 'def', 'theorem' AND NOTHING ELSE: no command of the shelf's: FOR A HAND-IN. Each laying: the table of numbers ('.._ren') and one theorem, a field a fact of the dump's own or the kernel's comparison; each contract: ONE APPLICATION.
-/
import Derived.Shelf.SlIter.Nil
import Derived.Shelf.SortM.Plain
import Derived.Shelf.SortM.SortNone
import Derived.Shelf.SlMaps.Clone
import Derived.Ground.GgzProg
import Derived.Ground.SlgmProg
import Derived.Ground.SlmcProg
import Derived.Test.YthgiamofndhehaaGreatDoorProg
namespace Go.Proofs
open Go.Shelf
def Tryz.keysT_ren : Go.Shelf.Ren := ⟨fun | 7 => 135 | 10 => 172 | n => n, fun | 23 => 94 | 26 => 9 | 3 => 39 | 28 => 198 | 0 => 0 | 27 => 197 | 33 => 136 | 4 => 4 | n => n, fun | n => n⟩
theorem Tryz.keysT : Go.Proofs.SlLaysZ.n7 Tryz.prog Tryz.keysT_ren := {
  mixed := by kernel_rfl
  f7 := ⟨Tryz.f135.name, by decide, Tryz.func135.trans (congrArg some (by kernel_rfl))⟩
  f10 := ⟨Tryz.f172.name, by decide, Tryz.func172.trans (congrArg some (by kernel_rfl))⟩
  t0 := Tryz.underlying0
  a0 := Tryz.isAgg0
  z0 := Tryz.sizeOf0
  v0 := Tryz.zeroValue0
  t4 := Tryz.underlying4
  a4 := Tryz.isAgg4
  z4 := Tryz.sizeOf4
  v4 := Tryz.zeroValue4
  t23 := Tryz.underlying94
  a23 := Tryz.isAgg94
  z23 := Tryz.sizeOf94
  v23 := Tryz.zeroValue94
  t26 := Tryz.underlying9
  a26 := Tryz.isAgg9
  z26 := Tryz.sizeOf9
  v26 := Tryz.zeroValue9
  t27 := Tryz.underlying197
  a27 := Tryz.isAgg197
  z27 := Tryz.sizeOf197
  v27 := Tryz.zeroValue197
  t28 := Tryz.underlying198
  a28 := Tryz.isAgg198
  z28 := Tryz.sizeOf198
  v28 := Tryz.zeroValue198
  t33 := Tryz.underlying136
  a33 := Tryz.isAgg136
  z33 := Tryz.sizeOf136
  v33 := Tryz.zeroValue136 }
def Tryz.sortedT_ren : Go.Shelf.Ren := ⟨fun | 6 => 134 | 8 => 171 | 9 => 42 | 11 => 189 | 13 => 79 | 12 => 78 | 23 => 119 | 24 => 120 | 14 => 110 | 15 => 111 | 16 => 112 | 17 => 113 | 18 => 114 | 19 => 115 | 20 => 116 | 21 => 117 | 22 => 118 | 25 => 144 | 26 => 145 | 27 => 146 | 28 => 147 | 29 => 148 | 30 => 149 | 31 => 178 | n => n, fun | 26 => 9 | 28 => 198 | 24 => 26 | 0 => 0 | 3 => 3 | 37 => 140 | 48 => 180 | 50 => 130 | 4 => 4 | 40 => 173 | 39 => 172 | 45 => 177 | 5 => 5 | 9 => 9 | 51 => 206 | 55 => 210 | 57 => 234 | 58 => 235 | 33 => 136 | n => n, fun | n => n⟩
theorem Tryz.sortedT : Go.Proofs.SlLaysZ.n6 Tryz.prog Tryz.sortedT_ren := {
  mixed := by kernel_rfl
  f6 := ⟨Tryz.f134.name, by decide, Tryz.func134.trans (congrArg some (by kernel_rfl))⟩
  f8 := ⟨Tryz.f171.name, by decide, Tryz.func171.trans (congrArg some (by kernel_rfl))⟩
  f11 := ⟨Tryz.f189.name, by decide, Tryz.func189.trans (congrArg some (by kernel_rfl))⟩
  t0 := Tryz.underlying0
  a0 := Tryz.isAgg0
  z0 := Tryz.sizeOf0
  v0 := Tryz.zeroValue0
  t24 := Tryz.underlying26
  a24 := Tryz.isAgg26
  z24 := Tryz.sizeOf26
  v24 := Tryz.zeroValue26
  t26 := Tryz.underlying9
  a26 := Tryz.isAgg9
  z26 := Tryz.sizeOf9
  v26 := Tryz.zeroValue9
  t28 := Tryz.underlying198
  a28 := Tryz.isAgg198
  z28 := Tryz.sizeOf198
  v28 := Tryz.zeroValue198
  i26 := by kernel_rfl }
def Tryz.sortT_ren : Go.Shelf.Ren := ⟨fun | 6 => 42 | 8 => 79 | 9 => 78 | 19 => 119 | 20 => 120 | 21 => 110 | 22 => 111 | 23 => 112 | 24 => 113 | 25 => 114 | 26 => 115 | 27 => 116 | 28 => 117 | 29 => 118 | 36 => 144 | 31 => 145 | 32 => 146 | 37 => 147 | 38 => 148 | 39 => 149 | 41 => 178 | n => n, fun | 27 => 26 | 29 => 9 | 3 => 3 | 32 => 140 | 26 => 26 | 0 => 0 | 44 => 180 | 46 => 130 | 4 => 4 | 36 => 173 | 35 => 172 | 41 => 177 | 5 => 5 | 9 => 9 | 53 => 206 | 57 => 210 | 63 => 234 | 64 => 235 | n => n, fun | n => n⟩
theorem Tryz.sortT : Go.Proofs.SlLaysM.n6 Tryz.prog Tryz.sortT_ren := {
  mixed := by kernel_rfl
  f6 := ⟨Tryz.f42.name, by decide, Tryz.func42.trans (congrArg some (by kernel_rfl))⟩
  f8 := Tryz.func79.trans (congrArg some (by kernel_rfl))
  f9 := ⟨Tryz.f78.name, by decide, Tryz.func78.trans (congrArg some (by kernel_rfl))⟩
  f19 := Tryz.func119.trans (congrArg some (by kernel_rfl))
  f20 := Tryz.func120.trans (congrArg some (by kernel_rfl))
  f21 := ⟨Tryz.f110.name, by decide, Tryz.func110.trans (congrArg some (by kernel_rfl))⟩
  f22 := ⟨Tryz.f111.name, by decide, Tryz.func111.trans (congrArg some (by kernel_rfl))⟩
  f23 := ⟨Tryz.f112.name, by decide, Tryz.func112.trans (congrArg some (by kernel_rfl))⟩
  f24 := ⟨Tryz.f113.name, by decide, Tryz.func113.trans (congrArg some (by kernel_rfl))⟩
  f25 := ⟨Tryz.f114.name, by decide, Tryz.func114.trans (congrArg some (by kernel_rfl))⟩
  f26 := ⟨Tryz.f115.name, by decide, Tryz.func115.trans (congrArg some (by kernel_rfl))⟩
  f27 := ⟨Tryz.f116.name, by decide, Tryz.func116.trans (congrArg some (by kernel_rfl))⟩
  f28 := ⟨Tryz.f117.name, by decide, Tryz.func117.trans (congrArg some (by kernel_rfl))⟩
  f29 := ⟨Tryz.f118.name, by decide, Tryz.func118.trans (congrArg some (by kernel_rfl))⟩
  f31 := Tryz.func145.trans (congrArg some (by kernel_rfl))
  f32 := Tryz.func146.trans (congrArg some (by kernel_rfl))
  f36 := ⟨Tryz.f144.name, by decide, Tryz.func144.trans (congrArg some (by kernel_rfl))⟩
  f37 := ⟨Tryz.f147.name, by decide, Tryz.func147.trans (congrArg some (by kernel_rfl))⟩
  f38 := ⟨Tryz.f148.name, by decide, Tryz.func148.trans (congrArg some (by kernel_rfl))⟩
  f39 := ⟨Tryz.f149.name, by decide, Tryz.func149.trans (congrArg some (by kernel_rfl))⟩
  f41 := ⟨Tryz.f178.name, by decide, Tryz.func178.trans (congrArg some (by kernel_rfl))⟩
  t0 := Tryz.underlying0
  a0 := Tryz.isAgg0
  z0 := Tryz.sizeOf0
  v0 := Tryz.zeroValue0
  t3 := Tryz.underlying3
  a3 := Tryz.isAgg3
  z3 := Tryz.sizeOf3
  v3 := Tryz.zeroValue3
  t4 := Tryz.underlying4
  a4 := Tryz.isAgg4
  z4 := Tryz.sizeOf4
  v4 := Tryz.zeroValue4
  t5 := Tryz.underlying5
  a5 := Tryz.isAgg5
  z5 := Tryz.sizeOf5
  v5 := Tryz.zeroValue5
  t9 := Tryz.underlying9
  a9 := Tryz.isAgg9
  z9 := Tryz.sizeOf9
  v9 := Tryz.zeroValue9
  t26 := Tryz.underlying26
  a26 := Tryz.isAgg26
  z26 := Tryz.sizeOf26
  v26 := Tryz.zeroValue26
  t27 := Tryz.underlying26
  a27 := Tryz.isAgg26
  z27 := Tryz.sizeOf26
  v27 := Tryz.zeroValue26
  t29 := Tryz.underlying9
  a29 := Tryz.isAgg9
  z29 := Tryz.sizeOf9
  v29 := Tryz.zeroValue9
  t32 := Tryz.underlying140
  a32 := Tryz.isAgg140
  z32 := Tryz.sizeOf140
  v32 := Tryz.zeroValue140
  t35 := Tryz.underlying172
  a35 := Tryz.isAgg172
  z35 := Tryz.sizeOf172
  v35 := Tryz.zeroValue172
  t36 := Tryz.underlying173
  a36 := Tryz.isAgg173
  z36 := Tryz.sizeOf173
  v36 := Tryz.zeroValue173
  t41 := Tryz.underlying177
  a41 := Tryz.isAgg177
  z41 := Tryz.sizeOf177
  v41 := Tryz.zeroValue177
  t44 := Tryz.underlying180
  a44 := Tryz.isAgg180
  z44 := Tryz.sizeOf180
  v44 := Tryz.zeroValue180
  t46 := Tryz.underlying130
  a46 := Tryz.isAgg130
  z46 := Tryz.sizeOf130
  v46 := Tryz.zeroValue130
  t53 := Tryz.underlying206
  a53 := Tryz.isAgg206
  z53 := Tryz.sizeOf206
  v53 := Tryz.zeroValue206
  t57 := Tryz.underlying210
  a57 := Tryz.isAgg210
  z57 := Tryz.sizeOf210
  v57 := Tryz.zeroValue210
  t63 := Tryz.underlying234
  a63 := Tryz.isAgg234
  z63 := Tryz.sizeOf234
  v63 := Tryz.zeroValue234
  t64 := Tryz.underlying235
  a64 := Tryz.isAgg235
  z64 := Tryz.sizeOf235
  v64 := Tryz.zeroValue235 }
def Tryz.cloneT_ren : Go.Shelf.Ren := ⟨fun | 5 => 102 | 7 => 140 | n => n, fun | 23 => 94 | 25 => 9 | 3 => 39 | 4 => 4 | 20 => 20 | n => n, fun | n => n⟩
theorem Tryz.cloneT : Go.Proofs.SlLaysW.n5 Tryz.prog Tryz.cloneT_ren := {
  mixed := by kernel_rfl
  f5 := ⟨Tryz.f102.name, by decide, Tryz.func102.trans (congrArg some (by kernel_rfl))⟩
  f7 := Tryz.func140.trans (congrArg some (by kernel_rfl))
  t4 := Tryz.underlying4
  a4 := Tryz.isAgg4
  z4 := Tryz.sizeOf4
  v4 := Tryz.zeroValue4
  t20 := Tryz.underlying20
  a20 := Tryz.isAgg20
  z20 := Tryz.sizeOf20
  v20 := Tryz.zeroValue20
  t23 := Tryz.underlying94
  a23 := Tryz.isAgg94
  z23 := Tryz.sizeOf94
  v23 := Tryz.zeroValue94 }
end Go.Proofs
