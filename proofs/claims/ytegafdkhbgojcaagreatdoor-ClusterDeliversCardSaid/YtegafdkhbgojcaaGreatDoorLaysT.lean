/-
  DERIVED: THE SHELF's CONTRACTS AT THIS DUMP, IN PLAIN WORDS (tools/lay-plain.mjs out of 'TryzLaysT.lean', which tools/lay-shelf.mjs wrote): THE SAME DECLARATIONS UNDER THE SAME NAMES: 'import', 'namespace', 'open', 'def', 'theorem' AND NOTHING ELSE: no command of the shelf's: FOR A HAND-IN. Each laying: the table of numbers ('.._ren') and one theorem, a field a fact of the dump's own or the kernel's comparison; each contract: ONE APPLICATION.
-/
import Derived.Shelf.SlIter.Nil
import Derived.Shelf.SortM.Plain
import Derived.Shelf.SortM.SortNone
import Derived.Shelf.SlMaps.Clone
import Derived.Ground.GgzProg
import Derived.Ground.SlgmProg
import Derived.Ground.SlmcProg
import Derived.Test.YtegafdkhbgojcaaGreatDoorProg
namespace Go.Proofs
open Go.Shelf
def Tryz.keysT_ren : Go.Shelf.Ren := ⟨fun | 7 => 305 | 10 => 355 | n => n, fun | 23 => 264 | 26 => 9 | 3 => 72 | 28 => 379 | 0 => 0 | 27 => 378 | 33 => 29 | 4 => 4 | n => n, fun | n => n⟩
theorem Tryz.keysT : Go.Proofs.SlLaysZ.n7 Tryz.prog Tryz.keysT_ren := {
  mixed := by kernel_rfl
  f7 := ⟨Tryz.f305.name, by decide, Tryz.func305.trans (congrArg some (by kernel_rfl))⟩
  f10 := ⟨Tryz.f355.name, by decide, Tryz.func355.trans (congrArg some (by kernel_rfl))⟩
  t0 := Tryz.underlying0
  a0 := Tryz.isAgg0
  z0 := Tryz.sizeOf0
  v0 := Tryz.zeroValue0
  t4 := Tryz.underlying4
  a4 := Tryz.isAgg4
  z4 := Tryz.sizeOf4
  v4 := Tryz.zeroValue4
  t23 := Tryz.underlying264
  a23 := Tryz.isAgg264
  z23 := Tryz.sizeOf264
  v23 := Tryz.zeroValue264
  t26 := Tryz.underlying9
  a26 := Tryz.isAgg9
  z26 := Tryz.sizeOf9
  v26 := Tryz.zeroValue9
  t27 := Tryz.underlying378
  a27 := Tryz.isAgg378
  z27 := Tryz.sizeOf378
  v27 := Tryz.zeroValue378
  t28 := Tryz.underlying379
  a28 := Tryz.isAgg379
  z28 := Tryz.sizeOf379
  v28 := Tryz.zeroValue379
  t33 := Tryz.underlying29
  a33 := Tryz.isAgg29
  z33 := Tryz.sizeOf29
  v33 := Tryz.zeroValue29 }
def Tryz.sortedT_ren : Go.Shelf.Ren := ⟨fun | 6 => 304 | 8 => 354 | 9 => 175 | 11 => 391 | 13 => 229 | 12 => 228 | 23 => 291 | 24 => 292 | 14 => 282 | 15 => 283 | 16 => 284 | 17 => 285 | 18 => 286 | 19 => 287 | 20 => 288 | 21 => 289 | 22 => 290 | 25 => 335 | 26 => 336 | 27 => 337 | 28 => 338 | 29 => 339 | 30 => 340 | 31 => 380 | n => n, fun | 26 => 9 | 28 => 379 | 24 => 73 | 0 => 0 | 3 => 3 | 37 => 171 | 48 => 250 | 50 => 174 | 4 => 4 | 40 => 360 | 39 => 359 | 45 => 279 | 5 => 5 | 9 => 9 | 51 => 400 | 55 => 404 | 57 => 439 | 58 => 350 | 33 => 29 | n => n, fun | n => n⟩
theorem Tryz.sortedT : Go.Proofs.SlLaysZ.n6 Tryz.prog Tryz.sortedT_ren := {
  mixed := by kernel_rfl
  f6 := ⟨Tryz.f304.name, by decide, Tryz.func304.trans (congrArg some (by kernel_rfl))⟩
  f8 := ⟨Tryz.f354.name, by decide, Tryz.func354.trans (congrArg some (by kernel_rfl))⟩
  f11 := ⟨Tryz.f391.name, by decide, Tryz.func391.trans (congrArg some (by kernel_rfl))⟩
  t0 := Tryz.underlying0
  a0 := Tryz.isAgg0
  z0 := Tryz.sizeOf0
  v0 := Tryz.zeroValue0
  t24 := Tryz.underlying73
  a24 := Tryz.isAgg73
  z24 := Tryz.sizeOf73
  v24 := Tryz.zeroValue73
  t26 := Tryz.underlying9
  a26 := Tryz.isAgg9
  z26 := Tryz.sizeOf9
  v26 := Tryz.zeroValue9
  t28 := Tryz.underlying379
  a28 := Tryz.isAgg379
  z28 := Tryz.sizeOf379
  v28 := Tryz.zeroValue379
  i26 := by kernel_rfl }
def Tryz.sortT_ren : Go.Shelf.Ren := ⟨fun | 6 => 175 | 8 => 229 | 9 => 228 | 19 => 291 | 20 => 292 | 21 => 282 | 22 => 283 | 23 => 284 | 24 => 285 | 25 => 286 | 26 => 287 | 27 => 288 | 28 => 289 | 29 => 290 | 36 => 335 | 31 => 336 | 32 => 337 | 37 => 338 | 38 => 339 | 39 => 340 | 41 => 380 | n => n, fun | 27 => 73 | 29 => 9 | 3 => 3 | 32 => 171 | 26 => 73 | 0 => 0 | 44 => 250 | 46 => 174 | 4 => 4 | 36 => 360 | 35 => 359 | 41 => 279 | 5 => 5 | 9 => 9 | 53 => 400 | 57 => 404 | 63 => 439 | 64 => 350 | n => n, fun | n => n⟩
theorem Tryz.sortT : Go.Proofs.SlLaysM.n6 Tryz.prog Tryz.sortT_ren := {
  mixed := by kernel_rfl
  f6 := ⟨Tryz.f175.name, by decide, Tryz.func175.trans (congrArg some (by kernel_rfl))⟩
  f8 := Tryz.func229.trans (congrArg some (by kernel_rfl))
  f9 := ⟨Tryz.f228.name, by decide, Tryz.func228.trans (congrArg some (by kernel_rfl))⟩
  f19 := Tryz.func291.trans (congrArg some (by kernel_rfl))
  f20 := Tryz.func292.trans (congrArg some (by kernel_rfl))
  f21 := ⟨Tryz.f282.name, by decide, Tryz.func282.trans (congrArg some (by kernel_rfl))⟩
  f22 := ⟨Tryz.f283.name, by decide, Tryz.func283.trans (congrArg some (by kernel_rfl))⟩
  f23 := ⟨Tryz.f284.name, by decide, Tryz.func284.trans (congrArg some (by kernel_rfl))⟩
  f24 := ⟨Tryz.f285.name, by decide, Tryz.func285.trans (congrArg some (by kernel_rfl))⟩
  f25 := ⟨Tryz.f286.name, by decide, Tryz.func286.trans (congrArg some (by kernel_rfl))⟩
  f26 := ⟨Tryz.f287.name, by decide, Tryz.func287.trans (congrArg some (by kernel_rfl))⟩
  f27 := ⟨Tryz.f288.name, by decide, Tryz.func288.trans (congrArg some (by kernel_rfl))⟩
  f28 := ⟨Tryz.f289.name, by decide, Tryz.func289.trans (congrArg some (by kernel_rfl))⟩
  f29 := ⟨Tryz.f290.name, by decide, Tryz.func290.trans (congrArg some (by kernel_rfl))⟩
  f31 := Tryz.func336.trans (congrArg some (by kernel_rfl))
  f32 := Tryz.func337.trans (congrArg some (by kernel_rfl))
  f36 := ⟨Tryz.f335.name, by decide, Tryz.func335.trans (congrArg some (by kernel_rfl))⟩
  f37 := ⟨Tryz.f338.name, by decide, Tryz.func338.trans (congrArg some (by kernel_rfl))⟩
  f38 := ⟨Tryz.f339.name, by decide, Tryz.func339.trans (congrArg some (by kernel_rfl))⟩
  f39 := ⟨Tryz.f340.name, by decide, Tryz.func340.trans (congrArg some (by kernel_rfl))⟩
  f41 := ⟨Tryz.f380.name, by decide, Tryz.func380.trans (congrArg some (by kernel_rfl))⟩
  t0 := Tryz.underlying0
  a0 := Tryz.isAgg0
  z0 := Tryz.sizeOf0
  v0 := Tryz.zeroValue0
  t3 := Tryz.underlying3
  a3 := Tryz.isAgg3
  z3 := Tryz.sizeOf3
  v3 := Tryz.zeroValue3
  t4 := Tryz.underlying4
  a4 := Tryz.isAgg4
  z4 := Tryz.sizeOf4
  v4 := Tryz.zeroValue4
  t5 := Tryz.underlying5
  a5 := Tryz.isAgg5
  z5 := Tryz.sizeOf5
  v5 := Tryz.zeroValue5
  t9 := Tryz.underlying9
  a9 := Tryz.isAgg9
  z9 := Tryz.sizeOf9
  v9 := Tryz.zeroValue9
  t26 := Tryz.underlying73
  a26 := Tryz.isAgg73
  z26 := Tryz.sizeOf73
  v26 := Tryz.zeroValue73
  t27 := Tryz.underlying73
  a27 := Tryz.isAgg73
  z27 := Tryz.sizeOf73
  v27 := Tryz.zeroValue73
  t29 := Tryz.underlying9
  a29 := Tryz.isAgg9
  z29 := Tryz.sizeOf9
  v29 := Tryz.zeroValue9
  t32 := Tryz.underlying171
  a32 := Tryz.isAgg171
  z32 := Tryz.sizeOf171
  v32 := Tryz.zeroValue171
  t35 := Tryz.underlying359
  a35 := Tryz.isAgg359
  z35 := Tryz.sizeOf359
  v35 := Tryz.zeroValue359
  t36 := Tryz.underlying360
  a36 := Tryz.isAgg360
  z36 := Tryz.sizeOf360
  v36 := Tryz.zeroValue360
  t41 := Tryz.underlying279
  a41 := Tryz.isAgg279
  z41 := Tryz.sizeOf279
  v41 := Tryz.zeroValue279
  t44 := Tryz.underlying250
  a44 := Tryz.isAgg250
  z44 := Tryz.sizeOf250
  v44 := Tryz.zeroValue250
  t46 := Tryz.underlying174
  a46 := Tryz.isAgg174
  z46 := Tryz.sizeOf174
  v46 := Tryz.zeroValue174
  t53 := Tryz.underlying400
  a53 := Tryz.isAgg400
  z53 := Tryz.sizeOf400
  v53 := Tryz.zeroValue400
  t57 := Tryz.underlying404
  a57 := Tryz.isAgg404
  z57 := Tryz.sizeOf404
  v57 := Tryz.zeroValue404
  t63 := Tryz.underlying439
  a63 := Tryz.isAgg439
  z63 := Tryz.sizeOf439
  v63 := Tryz.zeroValue439
  t64 := Tryz.underlying350
  a64 := Tryz.isAgg350
  z64 := Tryz.sizeOf350
  v64 := Tryz.zeroValue350 }
def Tryz.cloneT_ren : Go.Shelf.Ren := ⟨fun | 5 => 267 | 7 => 189 | n => n, fun | 23 => 264 | 25 => 9 | 3 => 72 | 4 => 4 | 20 => 20 | n => n, fun | n => n⟩
theorem Tryz.cloneT : Go.Proofs.SlLaysW.n5 Tryz.prog Tryz.cloneT_ren := {
  mixed := by kernel_rfl
  f5 := ⟨Tryz.f267.name, by decide, Tryz.func267.trans (congrArg some (by kernel_rfl))⟩
  f7 := Tryz.func189.trans (congrArg some (by kernel_rfl))
  t4 := Tryz.underlying4
  a4 := Tryz.isAgg4
  z4 := Tryz.sizeOf4
  v4 := Tryz.zeroValue4
  t20 := Tryz.underlying20
  a20 := Tryz.isAgg20
  z20 := Tryz.sizeOf20
  v20 := Tryz.zeroValue20
  t23 := Tryz.underlying264
  a23 := Tryz.isAgg264
  z23 := Tryz.sizeOf264
  v23 := Tryz.zeroValue264 }
end Go.Proofs
