/- The statement ClusterDelivers with 0 letters: states behind the ticks. No condition. -/
import Derived.Test.YtegafdkhbgojcaaGreatDoorCDS0
set_option linter.unusedVariables false
set_option maxRecDepth 100000
namespace Go.Proofs.YtegafdkhbgojcaaGreatDoor.Ek
open Go.Proofs.YtegafdkhbgojcaaGreatDoor.Ex
noncomputable def cdHP0 (dl : AV) : List (Nat × AB) := [(17, .c [.sn, dl, .i .i64 (.ofNat 0), .sl 52218 0 3 1 none, .sl 52225 0 3 1 none, .sn, .i .i64 (.ofNat 0), .i .i64 (.ofNat 0)]),
  (32, .m [] 0),
  (33, .m [] 0),
  (34, .m [] 0),
  (36, .c [.i .i64 (.ofNat 262), .m 32, .sn, .m 33, .m 34, .i .i64 (.negSucc 0), .b false]),
  (87, .m [] 0),
  (88, .m [] 0),
  (90, .c [.p 36 0, .p 99 0, .p 580 0, .p 1680 0, .i .i64 (.ofNat 1), .i .i64 (.ofNat 3), .i .i64 (.ofNat 0), .i .i64 (.ofNat 0), .any, .mn, .mn, .mn, .i .i64 (.ofNat 0), .i .i64 (.ofNat 0), .m 87, .i .i64 (.ofNat 0), .i .i64 (.ofNat 0), .i .i64 (.ofNat 0), .sn, .m 88, .b false, .i .i64 (.ofNat 0), .i .i64 (.ofNat 0), .any, .sn, .i .i64 (.ofNat 0)]),
  (99, .c [.p 36 0, .i .i64 (.ofNat 0), .i .i64 (.ofNat 0), .i .i64 (.ofNat 0), .i .i64 (.ofNat 1), .i .i64 (.ofNat 0)]),
  (580, .c [.p 36 0, .i .i64 (.ofNat 2), .i .i64 (.negSucc 0), .i .i64 (.ofNat 0), .i .i64 (.ofNat 0), .i .i64 (.ofNat 0), .sn]),
  (1678, .m [] 0),
  (1680, .c [.p 36 0, .i .i64 (.ofNat 134), .i .i64 (.ofNat 64), .i .i64 (.ofNat 1), .sn, .m 1678]),
  (17066, .m [] 0),
  (17067, .m [] 0),
  (17069, .c [.p 90 0, .p 17288 0, .any, .m 17066, .m 17067]),
  (17268, .m [(.s 1 47, .ag [.s 0 0, .i .i64 (.ofNat 0), .i .i64 (.ofNat 0), .i .i64 (.ofNat 0), .i .i64 (.ofNat 0), .i .i64 (.ofNat 0), .i .i64 (.ofNat 0)], 0)] 1),
  (17273, .c [.m 17268]),
  (17277, .m [] 0),
  (17279, .c [.m 17277]),
  (17283, .m [] 0),
  (17285, .c [.sn, .sn, .m 17283]),
  (17288, .c [.p 17273 0, .p 17279 0, .p 17285 0, .i .i64 (.ofNat 0)]),
  (17437, .m [] 0),
  (17438, .m [] 0),
  (17439, .m [] 0),
  (17441, .c [.i .i64 (.ofNat 262), .m 17437, .sn, .m 17438, .m 17439, .i .i64 (.negSucc 0), .b false]),
  (17492, .m [] 0),
  (17493, .m [] 0),
  (17495, .c [.p 17441 0, .p 17504 0, .p 17985 0, .p 19085 0, .i .i64 (.ofNat 2), .i .i64 (.ofNat 3), .i .i64 (.ofNat 0), .i .i64 (.ofNat 0), .any, .mn, .mn, .mn, .i .i64 (.ofNat 0), .i .i64 (.ofNat 0), .m 17492, .i .i64 (.ofNat 0), .i .i64 (.ofNat 0), .i .i64 (.ofNat 0), .sn, .m 17493, .b false, .i .i64 (.ofNat 0), .i .i64 (.ofNat 0), .any, .sn, .i .i64 (.ofNat 0)]),
  (17504, .c [.p 17441 0, .i .i64 (.ofNat 0), .i .i64 (.ofNat 0), .i .i64 (.ofNat 0), .i .i64 (.ofNat 1), .i .i64 (.ofNat 0)]),
  (17985, .c [.p 17441 0, .i .i64 (.ofNat 2), .i .i64 (.negSucc 0), .i .i64 (.ofNat 0), .i .i64 (.ofNat 0), .i .i64 (.ofNat 0), .sn]),
  (19083, .m [] 0),
  (19085, .c [.p 17441 0, .i .i64 (.ofNat 134), .i .i64 (.ofNat 64), .i .i64 (.ofNat 1), .sn, .m 19083]),
  (34471, .m [] 0),
  (34472, .m [] 0),
  (34474, .c [.p 17495 0, .p 34693 0, .any, .m 34471, .m 34472]),
  (34673, .m [(.s 1 47, .ag [.s 0 0, .i .i64 (.ofNat 0), .i .i64 (.ofNat 0), .i .i64 (.ofNat 0), .i .i64 (.ofNat 0), .i .i64 (.ofNat 0), .i .i64 (.ofNat 0)], 0)] 1),
  (34678, .c [.m 34673]),
  (34682, .m [] 0),
  (34684, .c [.m 34682]),
  (34688, .m [] 0),
  (34690, .c [.sn, .sn, .m 34688]),
  (34693, .c [.p 34678 0, .p 34684 0, .p 34690 0, .i .i64 (.ofNat 0)]),
  (34842, .m [] 0),
  (34843, .m [] 0),
  (34844, .m [] 0),
  (34846, .c [.i .i64 (.ofNat 262), .m 34842, .sn, .m 34843, .m 34844, .i .i64 (.negSucc 0), .b false]),
  (34897, .m [] 0),
  (34898, .m [] 0),
  (34900, .c [.p 34846 0, .p 34909 0, .p 35390 0, .p 36490 0, .i .i64 (.ofNat 3), .i .i64 (.ofNat 3), .i .i64 (.ofNat 0), .i .i64 (.ofNat 0), .any, .mn, .mn, .mn, .i .i64 (.ofNat 0), .i .i64 (.ofNat 0), .m 34897, .i .i64 (.ofNat 0), .i .i64 (.ofNat 0), .i .i64 (.ofNat 0), .sn, .m 34898, .b false, .i .i64 (.ofNat 0), .i .i64 (.ofNat 0), .any, .sn, .i .i64 (.ofNat 0)]),
  (34909, .c [.p 34846 0, .i .i64 (.ofNat 0), .i .i64 (.ofNat 0), .i .i64 (.ofNat 0), .i .i64 (.ofNat 1), .i .i64 (.ofNat 0)]),
  (35390, .c [.p 34846 0, .i .i64 (.ofNat 2), .i .i64 (.negSucc 0), .i .i64 (.ofNat 0), .i .i64 (.ofNat 0), .i .i64 (.ofNat 0), .sn]),
  (36488, .m [] 0),
  (36490, .c [.p 34846 0, .i .i64 (.ofNat 134), .i .i64 (.ofNat 64), .i .i64 (.ofNat 1), .sn, .m 36488]),
  (51876, .m [] 0),
  (51877, .m [] 0),
  (51879, .c [.p 34900 0, .p 52098 0, .any, .m 51876, .m 51877]),
  (52078, .m [(.s 1 47, .ag [.s 0 0, .i .i64 (.ofNat 0), .i .i64 (.ofNat 0), .i .i64 (.ofNat 0), .i .i64 (.ofNat 0), .i .i64 (.ofNat 0), .i .i64 (.ofNat 0)], 0)] 1),
  (52083, .c [.m 52078]),
  (52087, .m [] 0),
  (52089, .c [.m 52087]),
  (52093, .m [] 0),
  (52095, .c [.sn, .sn, .m 52093]),
  (52098, .c [.p 52083 0, .p 52089 0, .p 52095 0, .i .i64 (.ofNat 0)]),
  (52218, .c [.p 36 0, .p 17441 0, .p 34846 0]),
  (52225, .c [.p 17069 0, .p 34474 0, .p 51879 0])]
def cdIP0 : List LIt := [.c [false,true,true,true,true,true,true,true,true,true,true,true], .c [true,true,true,true,true,true,true,true,true,true,true,true]]
def cdGa0d0 : LE := [(0, .any), (1, .x 8), (7, .p 17 0), (11, .i .i64 (.ofNat 0)), (51, .b false), (9, .any), (29, .any), (2, .i .i64 (.ofNat 0)), (8, .i .i64 (.ofNat 0)), (48, .b false), (6, .b false), (10, .i .i64 (.ofNat 0)), (26, .any), (14, .any)]
def cdGa0d1 : LE := [(0, .any), (1, .x 8), (7, .p 17 0), (11, .i .i64 (.ofNat 1)), (51, .b false), (9, .any), (29, .any), (2, .i .i64 (.ofNat 1)), (8, .i .i64 (.ofNat 0)), (48, .b false), (6, .b false), (10, .i .i64 (.ofNat 0)), (26, .any), (14, .any)]
def cdGa0d2 : LE := [(0, .any), (1, .x 8), (7, .p 17 0), (11, .i .i64 (.ofNat 2)), (51, .b false), (9, .any), (29, .any), (2, .i .i64 (.ofNat 2)), (8, .i .i64 (.ofNat 0)), (48, .b false), (6, .b false), (10, .i .i64 (.ofNat 0)), (26, .any), (14, .any)]
def cdGa0d3 : LE := [(0, .any), (1, .x 8), (7, .p 17 0), (11, .i .i64 (.ofNat 3)), (51, .b false), (9, .any), (29, .any), (2, .i .i64 (.ofNat 3)), (8, .i .i64 (.ofNat 0)), (48, .b false), (6, .b false), (10, .i .i64 (.ofNat 0)), (26, .any), (14, .any)]
def cdGP0 (dl : AV) : LE := [(0, .any), (1, .x 8), (7, .p 17 0), (11, .any), (51, .any), (9, .any), (29, .any), (2, dl), (8, .i .i64 (.ofNat 0)), (48, .any), (6, .b false), (10, .i .i64 (.ofNat 0)), (26, .any), (14, .any)]
noncomputable def cdVh0j0 (d : Nat) : List (Nat × AB) := [(17, .c [.sn, .i .i64 (.ofNat d), .i .i64 (.ofNat 0), .sl 52218 0 3 1 none, .sl 52225 0 3 1 none, .sn, .i .i64 (.ofNat 0), .i .i64 (.ofNat 0)]),
  (32, .m [] 0),
  (33, .m [] 0),
  (34, .m [] 0),
  (36, .c [.i .i64 (.ofNat 262), .m 32, .sn, .m 33, .m 34, .i .i64 (.negSucc 0), .b false]),
  (87, .m [] 0),
  (88, .m [] 0),
  (90, .c [.p 36 0, .p 99 0, .p 580 0, .p 1680 0, .i .i64 (.ofNat 1), .i .i64 (.ofNat 3), .i .i64 (.ofNat 0), .i .i64 (.ofNat 0), .any, .mn, .mn, .mn, .i .i64 (.ofNat 0), .i .i64 (.ofNat 0), .m 87, .i .i64 (.ofNat 0), .i .i64 (.ofNat 0), .i .i64 (.ofNat 0), .sn, .m 88, .b false, .i .i64 (.ofNat 0), .i .i64 (.ofNat 0), .any, .sn, .i .i64 (.ofNat 0)]),
  (99, .c [.p 36 0, .i .i64 (.ofNat 0), .i .i64 (.ofNat 0), .i .i64 (.ofNat 0), .i .i64 (.ofNat 1), .i .i64 (.ofNat 0)]),
  (580, .c [.p 36 0, .i .i64 (.ofNat 2), .i .i64 (.negSucc 0), .i .i64 (.ofNat 0), .i .i64 (.ofNat 0), .i .i64 (.ofNat 0), .sn]),
  (1678, .m [] 0),
  (1680, .c [.p 36 0, .i .i64 (.ofNat 134), .i .i64 (.ofNat 64), .i .i64 (.ofNat 1), .sn, .m 1678]),
  (17066, .m [] 0),
  (17067, .m [] 0),
  (17069, .c [.p 90 0, .p 17288 0, .any, .m 17066, .m 17067]),
  (17268, .m [(.s 1 47, .ag [.s 0 0, .i .i64 (.ofNat 0), .i .i64 (.ofNat 0), .i .i64 (.ofNat 0), .i .i64 (.ofNat 0), .i .i64 (.ofNat 0), .i .i64 (.ofNat 0)], 0)] 1),
  (17273, .c [.m 17268]),
  (17277, .m [] 0),
  (17279, .c [.m 17277]),
  (17283, .m [] 0),
  (17285, .c [.sn, .sn, .m 17283]),
  (17288, .c [.p 17273 0, .p 17279 0, .p 17285 0, .i .i64 (.ofNat 0)]),
  (17437, .m [] 0),
  (17438, .m [] 0),
  (17439, .m [] 0),
  (17441, .c [.i .i64 (.ofNat 262), .m 17437, .sn, .m 17438, .m 17439, .i .i64 (.negSucc 0), .b false]),
  (17492, .m [] 0),
  (17493, .m [] 0),
  (17495, .c [.p 17441 0, .p 17504 0, .p 17985 0, .p 19085 0, .i .i64 (.ofNat 2), .i .i64 (.ofNat 3), .i .i64 (.ofNat 0), .i .i64 (.ofNat 0), .any, .mn, .mn, .mn, .i .i64 (.ofNat 0), .i .i64 (.ofNat 0), .m 17492, .i .i64 (.ofNat 0), .i .i64 (.ofNat 0), .i .i64 (.ofNat 0), .sn, .m 17493, .b false, .i .i64 (.ofNat 0), .i .i64 (.ofNat 0), .any, .sn, .i .i64 (.ofNat 0)]),
  (17504, .c [.p 17441 0, .i .i64 (.ofNat 0), .i .i64 (.ofNat 0), .i .i64 (.ofNat 0), .i .i64 (.ofNat 1), .i .i64 (.ofNat 0)]),
  (17985, .c [.p 17441 0, .i .i64 (.ofNat 2), .i .i64 (.negSucc 0), .i .i64 (.ofNat 0), .i .i64 (.ofNat 0), .i .i64 (.ofNat 0), .sn]),
  (19083, .m [] 0),
  (19085, .c [.p 17441 0, .i .i64 (.ofNat 134), .i .i64 (.ofNat 64), .i .i64 (.ofNat 1), .sn, .m 19083]),
  (34471, .m [] 0),
  (34472, .m [] 0),
  (34474, .c [.p 17495 0, .p 34693 0, .any, .m 34471, .m 34472]),
  (34673, .m [(.s 1 47, .ag [.s 0 0, .i .i64 (.ofNat 0), .i .i64 (.ofNat 0), .i .i64 (.ofNat 0), .i .i64 (.ofNat 0), .i .i64 (.ofNat 0), .i .i64 (.ofNat 0)], 0)] 1),
  (34678, .c [.m 34673]),
  (34682, .m [] 0),
  (34684, .c [.m 34682]),
  (34688, .m [] 0),
  (34690, .c [.sn, .sn, .m 34688]),
  (34693, .c [.p 34678 0, .p 34684 0, .p 34690 0, .i .i64 (.ofNat 0)]),
  (34842, .m [] 0),
  (34843, .m [] 0),
  (34844, .m [] 0),
  (34846, .c [.i .i64 (.ofNat 262), .m 34842, .sn, .m 34843, .m 34844, .i .i64 (.negSucc 0), .b false]),
  (34897, .m [] 0),
  (34898, .m [] 0),
  (34900, .c [.p 34846 0, .p 34909 0, .p 35390 0, .p 36490 0, .i .i64 (.ofNat 3), .i .i64 (.ofNat 3), .i .i64 (.ofNat 0), .i .i64 (.ofNat 0), .any, .mn, .mn, .mn, .i .i64 (.ofNat 0), .i .i64 (.ofNat 0), .m 34897, .i .i64 (.ofNat 0), .i .i64 (.ofNat 0), .i .i64 (.ofNat 0), .sn, .m 34898, .b false, .i .i64 (.ofNat 0), .i .i64 (.ofNat 0), .any, .sn, .i .i64 (.ofNat 0)]),
  (34909, .c [.p 34846 0, .i .i64 (.ofNat 0), .i .i64 (.ofNat 0), .i .i64 (.ofNat 0), .i .i64 (.ofNat 1), .i .i64 (.ofNat 0)]),
  (35390, .c [.p 34846 0, .i .i64 (.ofNat 2), .i .i64 (.negSucc 0), .i .i64 (.ofNat 0), .i .i64 (.ofNat 0), .i .i64 (.ofNat 0), .sn]),
  (36488, .m [] 0),
  (36490, .c [.p 34846 0, .i .i64 (.ofNat 134), .i .i64 (.ofNat 64), .i .i64 (.ofNat 1), .sn, .m 36488]),
  (51876, .m [] 0),
  (51877, .m [] 0),
  (51879, .c [.p 34900 0, .p 52098 0, .any, .m 51876, .m 51877]),
  (52078, .m [(.s 1 47, .ag [.s 0 0, .i .i64 (.ofNat 0), .i .i64 (.ofNat 0), .i .i64 (.ofNat 0), .i .i64 (.ofNat 0), .i .i64 (.ofNat 0), .i .i64 (.ofNat 0)], 0)] 1),
  (52083, .c [.m 52078]),
  (52087, .m [] 0),
  (52089, .c [.m 52087]),
  (52093, .m [] 0),
  (52095, .c [.sn, .sn, .m 52093]),
  (52098, .c [.p 52083 0, .p 52089 0, .p 52095 0, .i .i64 (.ofNat 0)]),
  (52218, .c [.p 36 0, .p 17441 0, .p 34846 0]),
  (52225, .c [.p 17069 0, .p 34474 0, .p 51879 0])]
noncomputable def cdV0j0 (d : Nat) (mo : AV) : LSt := .mk 54 [.c [false,false,false,false,false,true,true], .c [true,false,false,false,false,true,true], .c [true,false,false,false,true,true], .l [false,false,false,true,true], .b 0, .c [true,true,true]] [(0, .p 17 0), (1, mo), (7, .i .i64 (.ofNat 0)), (2, .i .i64 (.ofNat 5)), (6, .i .i64 (.ofNat 0))] (cdVh0j0 d) 69114 [.mk 10 [.c [true,true,true,true,true,true,true,true,true,true,true,true]] [(0, .any), (1, mo), (7, .p 17 0), (11, .any), (51, .any), (9, .any), (29, .any), (2, .i .i64 (.ofNat d)), (8, .i .i64 (.ofNat 0)), (48, .any), (6, .b false), (10, .i .i64 (.ofNat 0)), (26, .any), (14, .any)] [(59, mo), (58, .p 17 0)] [false,true,true,true,true,true,true,true,true,true,true,true] 2 none]
theorem d00a : cdK (exX 9 (.ofNat 0)) (cdGW0 (cI 0)) (cdGW0 (.x 9)) (cdHW0 (cI 0)) (cdHW0 (.x 9)) 68974 68974 = true := by kernel_rfl
theorem d00b : cdQ (.mk 10 cdIP0 cdGa0d0 (cdHP0 (cI 0)) 68999 []) (cdWs0 (cI 0)) 28 = true := by kernel_rfl
theorem d00c : cdK exAny (cdGP0 (cI 0)) cdGa0d0 (cdHP0 (cI 0)) (cdHP0 (cI 0)) 69109 68999 = true := by kernel_rfl
theorem d00e : cdQ (cdV0j0 0 (.x 8)) (.mk 10 cdIP0 (cdGP0 (cI 0)) (cdHP0 (cI 0)) 69109 []) 10 = true := by kernel_rfl
theorem d00l0 : cdE 0 (cdV0j0 0) = true := by kernel_rfl
theorem d00 {X : Nat → Value} (hX : XOk X) {m : Nat} (h8 : X 8 = .int .i64 (Int.ofNat m)) (hm : m < 8) (h9 : X 9 = .int .i64 (Int.ofNat 0)) : GD X (cdWs0 (.x 9)) := by
  have g0 : 0 ≤ m → GD X (cdV0j0 0 (.x 8)) := fun h => gd_vlast hX h8 hm h d00l0
  exact gd_hold (tells_exX h9) d00a (gd_run hX d00b (gd_hold tells_any d00c (gd_run hX d00e (g0 (Nat.zero_le _)))))
theorem d01a : cdK (exX 9 (.ofNat 1)) (cdGW0 (cI 1)) (cdGW0 (.x 9)) (cdHW0 (cI 1)) (cdHW0 (.x 9)) 68974 68974 = true := by kernel_rfl
theorem d01b : cdQ (.mk 10 cdIP0 cdGa0d1 (cdHP0 (cI 1)) 69069 []) (cdWs0 (cI 1)) 86 = true := by kernel_rfl
theorem d01c : cdK exAny (cdGP0 (cI 1)) cdGa0d1 (cdHP0 (cI 1)) (cdHP0 (cI 1)) 69109 69069 = true := by kernel_rfl
theorem d01e : cdQ (cdV0j0 1 (.x 8)) (.mk 10 cdIP0 (cdGP0 (cI 1)) (cdHP0 (cI 1)) 69109 []) 10 = true := by kernel_rfl
theorem d01l0 : cdE 0 (cdV0j0 1) = true := by kernel_rfl
theorem d01 {X : Nat → Value} (hX : XOk X) {m : Nat} (h8 : X 8 = .int .i64 (Int.ofNat m)) (hm : m < 8) (h9 : X 9 = .int .i64 (Int.ofNat 1)) : GD X (cdWs0 (.x 9)) := by
  have g0 : 0 ≤ m → GD X (cdV0j0 1 (.x 8)) := fun h => gd_vlast hX h8 hm h d01l0
  exact gd_hold (tells_exX h9) d01a (gd_run hX d01b (gd_hold tells_any d01c (gd_run hX d01e (g0 (Nat.zero_le _)))))
theorem d02a : cdK (exX 9 (.ofNat 2)) (cdGW0 (cI 2)) (cdGW0 (.x 9)) (cdHW0 (cI 2)) (cdHW0 (.x 9)) 68974 68974 = true := by kernel_rfl
theorem d02b : cdQ (.mk 10 cdIP0 cdGa0d2 (cdHP0 (cI 2)) 69089 []) (cdWs0 (cI 2)) 102 = true := by kernel_rfl
theorem d02c : cdK exAny (cdGP0 (cI 2)) cdGa0d2 (cdHP0 (cI 2)) (cdHP0 (cI 2)) 69109 69089 = true := by kernel_rfl
theorem d02e : cdQ (cdV0j0 2 (.x 8)) (.mk 10 cdIP0 (cdGP0 (cI 2)) (cdHP0 (cI 2)) 69109 []) 10 = true := by kernel_rfl
theorem d02l0 : cdE 0 (cdV0j0 2) = true := by kernel_rfl
theorem d02 {X : Nat → Value} (hX : XOk X) {m : Nat} (h8 : X 8 = .int .i64 (Int.ofNat m)) (hm : m < 8) (h9 : X 9 = .int .i64 (Int.ofNat 2)) : GD X (cdWs0 (.x 9)) := by
  have g0 : 0 ≤ m → GD X (cdV0j0 2 (.x 8)) := fun h => gd_vlast hX h8 hm h d02l0
  exact gd_hold (tells_exX h9) d02a (gd_run hX d02b (gd_hold tells_any d02c (gd_run hX d02e (g0 (Nat.zero_le _)))))
theorem d03a : cdK (exX 9 (.ofNat 3)) (cdGW0 (cI 3)) (cdGW0 (.x 9)) (cdHW0 (cI 3)) (cdHW0 (.x 9)) 68974 68974 = true := by kernel_rfl
theorem d03b : cdQ (.mk 10 cdIP0 cdGa0d3 (cdHP0 (cI 3)) 69109 []) (cdWs0 (cI 3)) 118 = true := by kernel_rfl
theorem d03c : cdK exAny (cdGP0 (cI 3)) cdGa0d3 (cdHP0 (cI 3)) (cdHP0 (cI 3)) 69109 69109 = true := by kernel_rfl
theorem d03e : cdQ (cdV0j0 3 (.x 8)) (.mk 10 cdIP0 (cdGP0 (cI 3)) (cdHP0 (cI 3)) 69109 []) 10 = true := by kernel_rfl
theorem d03l0 : cdE 0 (cdV0j0 3) = true := by kernel_rfl
theorem d03 {X : Nat → Value} (hX : XOk X) {m : Nat} (h8 : X 8 = .int .i64 (Int.ofNat m)) (hm : m < 8) (h9 : X 9 = .int .i64 (Int.ofNat 3)) : GD X (cdWs0 (.x 9)) := by
  have g0 : 0 ≤ m → GD X (cdV0j0 3 (.x 8)) := fun h => gd_vlast hX h8 hm h d03l0
  exact gd_hold (tells_exX h9) d03a (gd_run hX d03b (gd_hold tells_any d03c (gd_run hX d03e (g0 (Nat.zero_le _)))))

end Go.Proofs.YtegafdkhbgojcaaGreatDoor.Ek
