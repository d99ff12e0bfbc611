/- The statement ClusterDelivers: the first ticks, as they were written down. No condition. -/
import Derived.Test.YtegafdkhbgojcaaGreatDoorCD0
set_option linter.unusedVariables false
set_option maxRecDepth 100000
namespace Go.Proofs.YtegafdkhbgojcaaGreatDoor.Ek
open Go.Proofs.YtegafdkhbgojcaaGreatDoor.Ex
def cdIA : List LIt := [.c [false,false,false,false,true,false,true,true,true,true,true,true,true], .c [true,false,false,false,true,false,true,true,true,true,true,true,true], .c [true,false,false,true,false,true,true,true,true,true,true,true], .l [false,false,true,false,true,true,true,true,true,true,true], .b 0, .c [true,true,true,true,true,true,true,true]]
def cdIB : List LIt := [.c [true,false,false,true,false,true,true,true,true,true,true,true], .l [false,false,true,false,true,true,true,true,true,true,true], .b 0, .c [true,true,true,true,true,true,true,true]]
def cdIX : List LIt := [.c [true,true,true,true,true,true,true,true]]
noncomputable def cdHp0 (dl : AV) (p0 p1 p2 : Nat) : List (Nat × AB) := [(17, .c [.sn, .i .i64 (.ofNat 0), .i .i64 (.ofNat 0), .sl 52218 0 3 1 none, .sl 52225 0 3 1 none, .sn, .i .i64 (.ofNat 0), .i .i64 (.ofNat 0)]),
  (32, .m [] 0),
  (33, .m [] 0),
  (34, .m [] 0),
  (36, .c [.i .i64 (.ofNat 262), .m 32, .sn, .m 33, .m 34, .i .i64 (.negSucc 0), .b false]),
  (87, .m [] 0),
  (88, .m [] 0),
  (90, .c [.p 36 0, .p 99 0, .p 580 0, .p 1680 0, .i .i64 (.ofNat 1), .i .i64 (.ofNat 3), .i .i64 (.ofNat 0), .i .i64 (.ofNat 0), .i .i64 (.ofNat p0), .mn, .mn, .mn, .i .i64 (.ofNat 0), .i .i64 (.ofNat 0), .m 87, .i .i64 (.ofNat 0), .i .i64 (.ofNat 0), .i .i64 (.ofNat 0), .sn, .m 88, .b false, .i .i64 (.ofNat 0), .i .i64 (.ofNat 0), .i .i64 (.ofNat p0), .sn, .i .i64 (.ofNat 0)]),
  (99, .c [.p 36 0, .i .i64 (.ofNat 0), .i .i64 (.ofNat 0), .i .i64 (.ofNat 0), .i .i64 (.ofNat 1), .i .i64 (.ofNat 0)]),
  (580, .c [.p 36 0, .i .i64 (.ofNat 2), .i .i64 (.negSucc 0), .i .i64 (.ofNat 0), .i .i64 (.ofNat 0), .i .i64 (.ofNat 0), .sn]),
  (1678, .m [] 0),
  (1680, .c [.p 36 0, .i .i64 (.ofNat 134), .i .i64 (.ofNat 64), .i .i64 (.ofNat 1), .sn, .m 1678]),
  (17066, .m [] 0),
  (17067, .m [] 0),
  (17069, .c [.p 90 0, .p 17288 0, .i .i64 (.ofNat p0), .m 17066, .m 17067]),
  (17268, .m [(.s 1 47, .ag [.s 0 0, .i .i64 (.ofNat 0), .i .i64 (.ofNat 0), .i .i64 (.ofNat 0), .i .i64 (.ofNat 0), .i .i64 (.ofNat 0), .i .i64 (.ofNat 0)], 0)] 1),
  (17273, .c [.m 17268]),
  (17277, .m [] 0),
  (17279, .c [.m 17277]),
  (17283, .m [] 0),
  (17285, .c [.sn, .sn, .m 17283]),
  (17288, .c [.p 17273 0, .p 17279 0, .p 17285 0, .i .i64 (.ofNat 0)]),
  (17437, .m [] 0),
  (17438, .m [] 0),
  (17439, .m [] 0),
  (17441, .c [.i .i64 (.ofNat 262), .m 17437, .sn, .m 17438, .m 17439, .i .i64 (.negSucc 0), .b false]),
  (17492, .m [] 0),
  (17493, .m [] 0),
  (17495, .c [.p 17441 0, .p 17504 0, .p 17985 0, .p 19085 0, .i .i64 (.ofNat 2), .i .i64 (.ofNat 3), .i .i64 (.ofNat 0), .i .i64 (.ofNat 0), .i .i64 (.ofNat p1), .mn, .mn, .mn, .i .i64 (.ofNat 0), .i .i64 (.ofNat 0), .m 17492, .i .i64 (.ofNat 0), .i .i64 (.ofNat 0), .i .i64 (.ofNat 0), .sn, .m 17493, .b false, .i .i64 (.ofNat 0), .i .i64 (.ofNat 0), .i .i64 (.ofNat p1), .sn, .i .i64 (.ofNat 0)]),
  (17504, .c [.p 17441 0, .i .i64 (.ofNat 0), .i .i64 (.ofNat 0), .i .i64 (.ofNat 0), .i .i64 (.ofNat 1), .i .i64 (.ofNat 0)]),
  (17985, .c [.p 17441 0, .i .i64 (.ofNat 2), .i .i64 (.negSucc 0), .i .i64 (.ofNat 0), .i .i64 (.ofNat 0), .i .i64 (.ofNat 0), .sn]),
  (19083, .m [] 0),
  (19085, .c [.p 17441 0, .i .i64 (.ofNat 134), .i .i64 (.ofNat 64), .i .i64 (.ofNat 1), .sn, .m 19083]),
  (34471, .m [] 0),
  (34472, .m [] 0),
  (34474, .c [.p 17495 0, .p 34693 0, .i .i64 (.ofNat p1), .m 34471, .m 34472]),
  (34673, .m [(.s 1 47, .ag [.s 0 0, .i .i64 (.ofNat 0), .i .i64 (.ofNat 0), .i .i64 (.ofNat 0), .i .i64 (.ofNat 0), .i .i64 (.ofNat 0), .i .i64 (.ofNat 0)], 0)] 1),
  (34678, .c [.m 34673]),
  (34682, .m [] 0),
  (34684, .c [.m 34682]),
  (34688, .m [] 0),
  (34690, .c [.sn, .sn, .m 34688]),
  (34693, .c [.p 34678 0, .p 34684 0, .p 34690 0, .i .i64 (.ofNat 0)]),
  (34842, .m [] 0),
  (34843, .m [] 0),
  (34844, .m [] 0),
  (34846, .c [.i .i64 (.ofNat 262), .m 34842, .sn, .m 34843, .m 34844, .i .i64 (.negSucc 0), .b false]),
  (34897, .m [] 0),
  (34898, .m [] 0),
  (34900, .c [.p 34846 0, .p 34909 0, .p 35390 0, .p 36490 0, .i .i64 (.ofNat 3), .i .i64 (.ofNat 3), .i .i64 (.ofNat 0), .i .i64 (.ofNat 0), .i .i64 (.ofNat p2), .mn, .mn, .mn, .i .i64 (.ofNat 0), .i .i64 (.ofNat 0), .m 34897, .i .i64 (.ofNat 0), .i .i64 (.ofNat 0), .i .i64 (.ofNat 0), .sn, .m 34898, .b false, .i .i64 (.ofNat 0), .i .i64 (.ofNat 0), .i .i64 (.ofNat p2), .sn, .i .i64 (.ofNat 0)]),
  (34909, .c [.p 34846 0, .i .i64 (.ofNat 0), .i .i64 (.ofNat 0), .i .i64 (.ofNat 0), .i .i64 (.ofNat 1), .i .i64 (.ofNat 0)]),
  (35390, .c [.p 34846 0, .i .i64 (.ofNat 2), .i .i64 (.negSucc 0), .i .i64 (.ofNat 0), .i .i64 (.ofNat 0), .i .i64 (.ofNat 0), .sn]),
  (36488, .m [] 0),
  (36490, .c [.p 34846 0, .i .i64 (.ofNat 134), .i .i64 (.ofNat 64), .i .i64 (.ofNat 1), .sn, .m 36488]),
  (51876, .m [] 0),
  (51877, .m [] 0),
  (51879, .c [.p 34900 0, .p 52098 0, .i .i64 (.ofNat p2), .m 51876, .m 51877]),
  (52078, .m [(.s 1 47, .ag [.s 0 0, .i .i64 (.ofNat 0), .i .i64 (.ofNat 0), .i .i64 (.ofNat 0), .i .i64 (.ofNat 0), .i .i64 (.ofNat 0), .i .i64 (.ofNat 0)], 0)] 1),
  (52083, .c [.m 52078]),
  (52087, .m [] 0),
  (52089, .c [.m 52087]),
  (52093, .m [] 0),
  (52095, .c [.sn, .sn, .m 52093]),
  (52098, .c [.p 52083 0, .p 52089 0, .p 52095 0, .i .i64 (.ofNat 0)]),
  (52218, .c [.p 36 0, .p 17441 0, .p 34846 0]),
  (52225, .c [.p 17069 0, .p 34474 0, .p 51879 0])]
noncomputable def cdHW0 (dl : AV) : List (Nat × AB) := [(17, .c [.sn, .i .i64 (.ofNat 0), .i .i64 (.ofNat 0), .sl 52218 0 3 1 none, .sl 52225 0 3 1 none, .sn, .i .i64 (.ofNat 0), .i .i64 (.ofNat 0)]),
  (32, .m [] 0),
  (33, .m [] 0),
  (34, .m [] 0),
  (36, .c [.i .i64 (.ofNat 262), .m 32, .sn, .m 33, .m 34, .i .i64 (.negSucc 0), .b false]),
  (87, .m [] 0),
  (88, .m [] 0),
  (90, .c [.p 36 0, .p 99 0, .p 580 0, .p 1680 0, .i .i64 (.ofNat 1), .i .i64 (.ofNat 3), .i .i64 (.ofNat 0), .i .i64 (.ofNat 0), .any, .mn, .mn, .mn, .i .i64 (.ofNat 0), .i .i64 (.ofNat 0), .m 87, .i .i64 (.ofNat 0), .i .i64 (.ofNat 0), .i .i64 (.ofNat 0), .sn, .m 88, .b false, .i .i64 (.ofNat 0), .i .i64 (.ofNat 0), .any, .sn, .i .i64 (.ofNat 0)]),
  (99, .c [.p 36 0, .i .i64 (.ofNat 0), .i .i64 (.ofNat 0), .i .i64 (.ofNat 0), .i .i64 (.ofNat 1), .i .i64 (.ofNat 0)]),
  (580, .c [.p 36 0, .i .i64 (.ofNat 2), .i .i64 (.negSucc 0), .i .i64 (.ofNat 0), .i .i64 (.ofNat 0), .i .i64 (.ofNat 0), .sn]),
  (1678, .m [] 0),
  (1680, .c [.p 36 0, .i .i64 (.ofNat 134), .i .i64 (.ofNat 64), .i .i64 (.ofNat 1), .sn, .m 1678]),
  (17066, .m [] 0),
  (17067, .m [] 0),
  (17069, .c [.p 90 0, .p 17288 0, .any, .m 17066, .m 17067]),
  (17268, .m [(.s 1 47, .ag [.s 0 0, .i .i64 (.ofNat 0), .i .i64 (.ofNat 0), .i .i64 (.ofNat 0), .i .i64 (.ofNat 0), .i .i64 (.ofNat 0), .i .i64 (.ofNat 0)], 0)] 1),
  (17273, .c [.m 17268]),
  (17277, .m [] 0),
  (17279, .c [.m 17277]),
  (17283, .m [] 0),
  (17285, .c [.sn, .sn, .m 17283]),
  (17288, .c [.p 17273 0, .p 17279 0, .p 17285 0, .i .i64 (.ofNat 0)]),
  (17437, .m [] 0),
  (17438, .m [] 0),
  (17439, .m [] 0),
  (17441, .c [.i .i64 (.ofNat 262), .m 17437, .sn, .m 17438, .m 17439, .i .i64 (.negSucc 0), .b false]),
  (17492, .m [] 0),
  (17493, .m [] 0),
  (17495, .c [.p 17441 0, .p 17504 0, .p 17985 0, .p 19085 0, .i .i64 (.ofNat 2), .i .i64 (.ofNat 3), .i .i64 (.ofNat 0), .i .i64 (.ofNat 0), .any, .mn, .mn, .mn, .i .i64 (.ofNat 0), .i .i64 (.ofNat 0), .m 17492, .i .i64 (.ofNat 0), .i .i64 (.ofNat 0), .i .i64 (.ofNat 0), .sn, .m 17493, .b false, .i .i64 (.ofNat 0), .i .i64 (.ofNat 0), .any, .sn, .i .i64 (.ofNat 0)]),
  (17504, .c [.p 17441 0, .i .i64 (.ofNat 0), .i .i64 (.ofNat 0), .i .i64 (.ofNat 0), .i .i64 (.ofNat 1), .i .i64 (.ofNat 0)]),
  (17985, .c [.p 17441 0, .i .i64 (.ofNat 2), .i .i64 (.negSucc 0), .i .i64 (.ofNat 0), .i .i64 (.ofNat 0), .i .i64 (.ofNat 0), .sn]),
  (19083, .m [] 0),
  (19085, .c [.p 17441 0, .i .i64 (.ofNat 134), .i .i64 (.ofNat 64), .i .i64 (.ofNat 1), .sn, .m 19083]),
  (34471, .m [] 0),
  (34472, .m [] 0),
  (34474, .c [.p 17495 0, .p 34693 0, .any, .m 34471, .m 34472]),
  (34673, .m [(.s 1 47, .ag [.s 0 0, .i .i64 (.ofNat 0), .i .i64 (.ofNat 0), .i .i64 (.ofNat 0), .i .i64 (.ofNat 0), .i .i64 (.ofNat 0), .i .i64 (.ofNat 0)], 0)] 1),
  (34678, .c [.m 34673]),
  (34682, .m [] 0),
  (34684, .c [.m 34682]),
  (34688, .m [] 0),
  (34690, .c [.sn, .sn, .m 34688]),
  (34693, .c [.p 34678 0, .p 34684 0, .p 34690 0, .i .i64 (.ofNat 0)]),
  (34842, .m [] 0),
  (34843, .m [] 0),
  (34844, .m [] 0),
  (34846, .c [.i .i64 (.ofNat 262), .m 34842, .sn, .m 34843, .m 34844, .i .i64 (.negSucc 0), .b false]),
  (34897, .m [] 0),
  (34898, .m [] 0),
  (34900, .c [.p 34846 0, .p 34909 0, .p 35390 0, .p 36490 0, .i .i64 (.ofNat 3), .i .i64 (.ofNat 3), .i .i64 (.ofNat 0), .i .i64 (.ofNat 0), .any, .mn, .mn, .mn, .i .i64 (.ofNat 0), .i .i64 (.ofNat 0), .m 34897, .i .i64 (.ofNat 0), .i .i64 (.ofNat 0), .i .i64 (.ofNat 0), .sn, .m 34898, .b false, .i .i64 (.ofNat 0), .i .i64 (.ofNat 0), .any, .sn, .i .i64 (.ofNat 0)]),
  (34909, .c [.p 34846 0, .i .i64 (.ofNat 0), .i .i64 (.ofNat 0), .i .i64 (.ofNat 0), .i .i64 (.ofNat 1), .i .i64 (.ofNat 0)]),
  (35390, .c [.p 34846 0, .i .i64 (.ofNat 2), .i .i64 (.negSucc 0), .i .i64 (.ofNat 0), .i .i64 (.ofNat 0), .i .i64 (.ofNat 0), .sn]),
  (36488, .m [] 0),
  (36490, .c [.p 34846 0, .i .i64 (.ofNat 134), .i .i64 (.ofNat 64), .i .i64 (.ofNat 1), .sn, .m 36488]),
  (51876, .m [] 0),
  (51877, .m [] 0),
  (51879, .c [.p 34900 0, .p 52098 0, .any, .m 51876, .m 51877]),
  (52078, .m [(.s 1 47, .ag [.s 0 0, .i .i64 (.ofNat 0), .i .i64 (.ofNat 0), .i .i64 (.ofNat 0), .i .i64 (.ofNat 0), .i .i64 (.ofNat 0), .i .i64 (.ofNat 0)], 0)] 1),
  (52083, .c [.m 52078]),
  (52087, .m [] 0),
  (52089, .c [.m 52087]),
  (52093, .m [] 0),
  (52095, .c [.sn, .sn, .m 52093]),
  (52098, .c [.p 52083 0, .p 52089 0, .p 52095 0, .i .i64 (.ofNat 0)]),
  (52218, .c [.p 36 0, .p 17441 0, .p 34846 0]),
  (52225, .c [.p 17069 0, .p 34474 0, .p 51879 0])]
def cdG0 (dl v : AV) : LE := [(0, v), (1, .x 8), (7, .p 17 0), (9, .i .i64 (.ofNat 0)), (2, dl), (8, .i .i64 (.ofNat 0)), (6, .b false), (26, .b false), (14, .b false)]
noncomputable def cdA0 (dl v : AV) : LSt := .mk 10 cdIA (cdG0 dl v) (cdHp0 dl 0 0 0) 52276 []
def cdGX0 (dl : AV) : LE := [(0, cI 0), (1, .x 8), (7, .p 17 0), (9, .i .i64 (.ofNat 0)), (2, dl), (8, .i .i64 (.ofNat 0)), (6, .b false), (26, .b false), (14, .b false), (29, .b false)]
noncomputable def cdX0 (dl : AV) : LSt := .mk 10 cdIX (cdGX0 dl) (cdHp0 dl 0 0 0) 52279 []
def cdGB0 (dl : AV) : LE := [(0, .x 7), (1, .x 8), (7, .p 17 0), (9, .i .i64 (.ofNat 0)), (29, .b true), (2, dl), (8, .i .i64 (.ofNat 0)), (6, .b false), (26, .b false), (14, .b false)]
noncomputable def cdB0 (dl : AV) : LSt := .mk 10 cdIB (cdGB0 dl) (cdHp0 dl 0 0 0) 52279 []
def cdG1 (dl v : AV) : LE := [(0, v), (1, .x 8), (7, .p 17 0), (9, .i .i64 (.ofNat 1)), (29, .b true), (2, dl), (8, .i .i64 (.ofNat 0)), (6, .b false), (26, .b false), (14, .b false)]
noncomputable def cdA1 (dl v : AV) : LSt := .mk 10 cdIA (cdG1 dl v) (cdHp0 dl 1 0 0) 52753 []
def cdGX1 (dl : AV) : LE := [(0, cI 1), (1, .x 8), (7, .p 17 0), (9, .i .i64 (.ofNat 1)), (29, .b false), (2, dl), (8, .i .i64 (.ofNat 0)), (6, .b false), (26, .b false), (14, .b false)]
noncomputable def cdX1 (dl : AV) : LSt := .mk 10 cdIX (cdGX1 dl) (cdHp0 dl 1 0 0) 52756 []
def cdGB1 (dl : AV) : LE := [(0, .x 7), (1, .x 8), (7, .p 17 0), (9, .i .i64 (.ofNat 1)), (29, .b true), (2, dl), (8, .i .i64 (.ofNat 0)), (6, .b false), (26, .b false), (14, .b false)]
noncomputable def cdB1 (dl : AV) : LSt := .mk 10 cdIB (cdGB1 dl) (cdHp0 dl 1 0 0) 52756 []
def cdG2 (dl v : AV) : LE := [(0, v), (1, .x 8), (7, .p 17 0), (9, .i .i64 (.ofNat 2)), (29, .b true), (2, dl), (8, .i .i64 (.ofNat 0)), (6, .b false), (26, .b false), (14, .b false)]
noncomputable def cdA2 (dl v : AV) : LSt := .mk 10 cdIA (cdG2 dl v) (cdHp0 dl 1 1 0) 53230 []
def cdGX2 (dl : AV) : LE := [(0, cI 2), (1, .x 8), (7, .p 17 0), (9, .i .i64 (.ofNat 2)), (29, .b false), (2, dl), (8, .i .i64 (.ofNat 0)), (6, .b false), (26, .b false), (14, .b false)]
noncomputable def cdX2 (dl : AV) : LSt := .mk 10 cdIX (cdGX2 dl) (cdHp0 dl 1 1 0) 53233 []
def cdGB2 (dl : AV) : LE := [(0, .x 7), (1, .x 8), (7, .p 17 0), (9, .i .i64 (.ofNat 2)), (29, .b true), (2, dl), (8, .i .i64 (.ofNat 0)), (6, .b false), (26, .b false), (14, .b false)]
noncomputable def cdB2 (dl : AV) : LSt := .mk 10 cdIB (cdGB2 dl) (cdHp0 dl 1 1 0) 53233 []
def cdG3 (dl v : AV) : LE := [(0, v), (1, .x 8), (7, .p 17 0), (9, .i .i64 (.ofNat 3)), (29, .b true), (2, dl), (8, .i .i64 (.ofNat 0)), (6, .b false), (26, .b false), (14, .b false)]
noncomputable def cdA3 (dl v : AV) : LSt := .mk 10 cdIA (cdG3 dl v) (cdHp0 dl 1 1 1) 53707 []
def cdGX3 (dl : AV) : LE := [(0, cI 3), (1, .x 8), (7, .p 17 0), (9, .i .i64 (.ofNat 3)), (29, .b false), (2, dl), (8, .i .i64 (.ofNat 0)), (6, .b false), (26, .b false), (14, .b false)]
noncomputable def cdX3 (dl : AV) : LSt := .mk 10 cdIX (cdGX3 dl) (cdHp0 dl 1 1 1) 53710 []
def cdGB3 (dl : AV) : LE := [(0, .x 7), (1, .x 8), (7, .p 17 0), (9, .i .i64 (.ofNat 3)), (29, .b true), (2, dl), (8, .i .i64 (.ofNat 0)), (6, .b false), (26, .b false), (14, .b false)]
noncomputable def cdB3 (dl : AV) : LSt := .mk 10 cdIB (cdGB3 dl) (cdHp0 dl 1 1 1) 53710 []
def cdG4 (dl v : AV) : LE := [(0, v), (1, .x 8), (7, .p 17 0), (9, .i .i64 (.ofNat 4)), (29, .b true), (2, dl), (8, .i .i64 (.ofNat 0)), (6, .b false), (26, .b false), (14, .b false)]
noncomputable def cdA4 (dl v : AV) : LSt := .mk 10 cdIA (cdG4 dl v) (cdHp0 dl 2 1 1) 54184 []
def cdGX4 (dl : AV) : LE := [(0, cI 4), (1, .x 8), (7, .p 17 0), (9, .i .i64 (.ofNat 4)), (29, .b false), (2, dl), (8, .i .i64 (.ofNat 0)), (6, .b false), (26, .b false), (14, .b false)]
noncomputable def cdX4 (dl : AV) : LSt := .mk 10 cdIX (cdGX4 dl) (cdHp0 dl 2 1 1) 54187 []
def cdGB4 (dl : AV) : LE := [(0, .x 7), (1, .x 8), (7, .p 17 0), (9, .i .i64 (.ofNat 4)), (29, .b true), (2, dl), (8, .i .i64 (.ofNat 0)), (6, .b false), (26, .b false), (14, .b false)]
noncomputable def cdB4 (dl : AV) : LSt := .mk 10 cdIB (cdGB4 dl) (cdHp0 dl 2 1 1) 54187 []
def cdG5 (dl v : AV) : LE := [(0, v), (1, .x 8), (7, .p 17 0), (9, .i .i64 (.ofNat 5)), (29, .b true), (2, dl), (8, .i .i64 (.ofNat 0)), (6, .b false), (26, .b false), (14, .b false)]
noncomputable def cdA5 (dl v : AV) : LSt := .mk 10 cdIA (cdG5 dl v) (cdHp0 dl 2 2 1) 54661 []
def cdGX5 (dl : AV) : LE := [(0, cI 5), (1, .x 8), (7, .p 17 0), (9, .i .i64 (.ofNat 5)), (29, .b false), (2, dl), (8, .i .i64 (.ofNat 0)), (6, .b false), (26, .b false), (14, .b false)]
noncomputable def cdX5 (dl : AV) : LSt := .mk 10 cdIX (cdGX5 dl) (cdHp0 dl 2 2 1) 54664 []
def cdGB5 (dl : AV) : LE := [(0, .x 7), (1, .x 8), (7, .p 17 0), (9, .i .i64 (.ofNat 5)), (29, .b true), (2, dl), (8, .i .i64 (.ofNat 0)), (6, .b false), (26, .b false), (14, .b false)]
noncomputable def cdB5 (dl : AV) : LSt := .mk 10 cdIB (cdGB5 dl) (cdHp0 dl 2 2 1) 54664 []
def cdG6 (dl v : AV) : LE := [(0, v), (1, .x 8), (7, .p 17 0), (9, .i .i64 (.ofNat 6)), (29, .b true), (2, dl), (8, .i .i64 (.ofNat 0)), (6, .b false), (26, .b false), (14, .b false)]
noncomputable def cdA6 (dl v : AV) : LSt := .mk 10 cdIA (cdG6 dl v) (cdHp0 dl 2 2 2) 55138 []
def cdGX6 (dl : AV) : LE := [(0, cI 6), (1, .x 8), (7, .p 17 0), (9, .i .i64 (.ofNat 6)), (29, .b false), (2, dl), (8, .i .i64 (.ofNat 0)), (6, .b false), (26, .b false), (14, .b false)]
noncomputable def cdX6 (dl : AV) : LSt := .mk 10 cdIX (cdGX6 dl) (cdHp0 dl 2 2 2) 55141 []
def cdGB6 (dl : AV) : LE := [(0, .x 7), (1, .x 8), (7, .p 17 0), (9, .i .i64 (.ofNat 6)), (29, .b true), (2, dl), (8, .i .i64 (.ofNat 0)), (6, .b false), (26, .b false), (14, .b false)]
noncomputable def cdB6 (dl : AV) : LSt := .mk 10 cdIB (cdGB6 dl) (cdHp0 dl 2 2 2) 55141 []
def cdG7 (dl v : AV) : LE := [(0, v), (1, .x 8), (7, .p 17 0), (9, .i .i64 (.ofNat 7)), (29, .b true), (2, dl), (8, .i .i64 (.ofNat 0)), (6, .b false), (26, .b false), (14, .b false)]
noncomputable def cdA7 (dl v : AV) : LSt := .mk 10 cdIA (cdG7 dl v) (cdHp0 dl 3 2 2) 55615 []
def cdGX7 (dl : AV) : LE := [(0, cI 7), (1, .x 8), (7, .p 17 0), (9, .i .i64 (.ofNat 7)), (29, .b false), (2, dl), (8, .i .i64 (.ofNat 0)), (6, .b false), (26, .b false), (14, .b false)]
noncomputable def cdX7 (dl : AV) : LSt := .mk 10 cdIX (cdGX7 dl) (cdHp0 dl 3 2 2) 55618 []
def cdGB7 (dl : AV) : LE := [(0, .x 7), (1, .x 8), (7, .p 17 0), (9, .i .i64 (.ofNat 7)), (29, .b true), (2, dl), (8, .i .i64 (.ofNat 0)), (6, .b false), (26, .b false), (14, .b false)]
noncomputable def cdB7 (dl : AV) : LSt := .mk 10 cdIB (cdGB7 dl) (cdHp0 dl 3 2 2) 55618 []
def cdG8 (dl v : AV) : LE := [(0, v), (1, .x 8), (7, .p 17 0), (9, .i .i64 (.ofNat 8)), (29, .b true), (2, dl), (8, .i .i64 (.ofNat 0)), (6, .b false), (26, .b false), (14, .b false)]
noncomputable def cdA8 (dl v : AV) : LSt := .mk 10 cdIA (cdG8 dl v) (cdHp0 dl 3 3 2) 56092 []
def cdGX8 (dl : AV) : LE := [(0, cI 8), (1, .x 8), (7, .p 17 0), (9, .i .i64 (.ofNat 8)), (29, .b false), (2, dl), (8, .i .i64 (.ofNat 0)), (6, .b false), (26, .b false), (14, .b false)]
noncomputable def cdX8 (dl : AV) : LSt := .mk 10 cdIX (cdGX8 dl) (cdHp0 dl 3 3 2) 56095 []
def cdGB8 (dl : AV) : LE := [(0, .x 7), (1, .x 8), (7, .p 17 0), (9, .i .i64 (.ofNat 8)), (29, .b true), (2, dl), (8, .i .i64 (.ofNat 0)), (6, .b false), (26, .b false), (14, .b false)]
noncomputable def cdB8 (dl : AV) : LSt := .mk 10 cdIB (cdGB8 dl) (cdHp0 dl 3 3 2) 56095 []
def cdG9 (dl v : AV) : LE := [(0, v), (1, .x 8), (7, .p 17 0), (9, .i .i64 (.ofNat 9)), (29, .b true), (2, dl), (8, .i .i64 (.ofNat 0)), (6, .b false), (26, .b false), (14, .b false)]
noncomputable def cdA9 (dl v : AV) : LSt := .mk 10 cdIA (cdG9 dl v) (cdHp0 dl 3 3 3) 56569 []
def cdGX9 (dl : AV) : LE := [(0, cI 9), (1, .x 8), (7, .p 17 0), (9, .i .i64 (.ofNat 9)), (29, .b false), (2, dl), (8, .i .i64 (.ofNat 0)), (6, .b false), (26, .b false), (14, .b false)]
noncomputable def cdX9 (dl : AV) : LSt := .mk 10 cdIX (cdGX9 dl) (cdHp0 dl 3 3 3) 56572 []
def cdGB9 (dl : AV) : LE := [(0, .x 7), (1, .x 8), (7, .p 17 0), (9, .i .i64 (.ofNat 9)), (29, .b true), (2, dl), (8, .i .i64 (.ofNat 0)), (6, .b false), (26, .b false), (14, .b false)]
noncomputable def cdB9 (dl : AV) : LSt := .mk 10 cdIB (cdGB9 dl) (cdHp0 dl 3 3 3) 56572 []
def cdG10 (dl v : AV) : LE := [(0, v), (1, .x 8), (7, .p 17 0), (9, .i .i64 (.ofNat 10)), (29, .b true), (2, dl), (8, .i .i64 (.ofNat 0)), (6, .b false), (26, .b false), (14, .b false)]
noncomputable def cdA10 (dl v : AV) : LSt := .mk 10 cdIA (cdG10 dl v) (cdHp0 dl 4 3 3) 57046 []
def cdGX10 (dl : AV) : LE := [(0, cI 10), (1, .x 8), (7, .p 17 0), (9, .i .i64 (.ofNat 10)), (29, .b false), (2, dl), (8, .i .i64 (.ofNat 0)), (6, .b false), (26, .b false), (14, .b false)]
noncomputable def cdX10 (dl : AV) : LSt := .mk 10 cdIX (cdGX10 dl) (cdHp0 dl 4 3 3) 57049 []
def cdGB10 (dl : AV) : LE := [(0, .x 7), (1, .x 8), (7, .p 17 0), (9, .i .i64 (.ofNat 10)), (29, .b true), (2, dl), (8, .i .i64 (.ofNat 0)), (6, .b false), (26, .b false), (14, .b false)]
noncomputable def cdB10 (dl : AV) : LSt := .mk 10 cdIB (cdGB10 dl) (cdHp0 dl 4 3 3) 57049 []
def cdG11 (dl v : AV) : LE := [(0, v), (1, .x 8), (7, .p 17 0), (9, .i .i64 (.ofNat 11)), (29, .b true), (2, dl), (8, .i .i64 (.ofNat 0)), (6, .b false), (26, .b false), (14, .b false)]
noncomputable def cdA11 (dl v : AV) : LSt := .mk 10 cdIA (cdG11 dl v) (cdHp0 dl 4 4 3) 57523 []
def cdGX11 (dl : AV) : LE := [(0, cI 11), (1, .x 8), (7, .p 17 0), (9, .i .i64 (.ofNat 11)), (29, .b false), (2, dl), (8, .i .i64 (.ofNat 0)), (6, .b false), (26, .b false), (14, .b false)]
noncomputable def cdX11 (dl : AV) : LSt := .mk 10 cdIX (cdGX11 dl) (cdHp0 dl 4 4 3) 57526 []
def cdGB11 (dl : AV) : LE := [(0, .x 7), (1, .x 8), (7, .p 17 0), (9, .i .i64 (.ofNat 11)), (29, .b true), (2, dl), (8, .i .i64 (.ofNat 0)), (6, .b false), (26, .b false), (14, .b false)]
noncomputable def cdB11 (dl : AV) : LSt := .mk 10 cdIB (cdGB11 dl) (cdHp0 dl 4 4 3) 57526 []
def cdG12 (dl v : AV) : LE := [(0, v), (1, .x 8), (7, .p 17 0), (9, .i .i64 (.ofNat 12)), (29, .b true), (2, dl), (8, .i .i64 (.ofNat 0)), (6, .b false), (26, .b false), (14, .b false)]
noncomputable def cdA12 (dl v : AV) : LSt := .mk 10 cdIA (cdG12 dl v) (cdHp0 dl 4 4 4) 58000 []
def cdGX12 (dl : AV) : LE := [(0, cI 12), (1, .x 8), (7, .p 17 0), (9, .i .i64 (.ofNat 12)), (29, .b false), (2, dl), (8, .i .i64 (.ofNat 0)), (6, .b false), (26, .b false), (14, .b false)]
noncomputable def cdX12 (dl : AV) : LSt := .mk 10 cdIX (cdGX12 dl) (cdHp0 dl 4 4 4) 58003 []
def cdGB12 (dl : AV) : LE := [(0, .x 7), (1, .x 8), (7, .p 17 0), (9, .i .i64 (.ofNat 12)), (29, .b true), (2, dl), (8, .i .i64 (.ofNat 0)), (6, .b false), (26, .b false), (14, .b false)]
noncomputable def cdB12 (dl : AV) : LSt := .mk 10 cdIB (cdGB12 dl) (cdHp0 dl 4 4 4) 58003 []
def cdG13 (dl v : AV) : LE := [(0, v), (1, .x 8), (7, .p 17 0), (9, .i .i64 (.ofNat 13)), (29, .b true), (2, dl), (8, .i .i64 (.ofNat 0)), (6, .b false), (26, .b false), (14, .b false)]
noncomputable def cdA13 (dl v : AV) : LSt := .mk 10 cdIA (cdG13 dl v) (cdHp0 dl 5 4 4) 58477 []
def cdGX13 (dl : AV) : LE := [(0, cI 13), (1, .x 8), (7, .p 17 0), (9, .i .i64 (.ofNat 13)), (29, .b false), (2, dl), (8, .i .i64 (.ofNat 0)), (6, .b false), (26, .b false), (14, .b false)]
noncomputable def cdX13 (dl : AV) : LSt := .mk 10 cdIX (cdGX13 dl) (cdHp0 dl 5 4 4) 58480 []
def cdGB13 (dl : AV) : LE := [(0, .x 7), (1, .x 8), (7, .p 17 0), (9, .i .i64 (.ofNat 13)), (29, .b true), (2, dl), (8, .i .i64 (.ofNat 0)), (6, .b false), (26, .b false), (14, .b false)]
noncomputable def cdB13 (dl : AV) : LSt := .mk 10 cdIB (cdGB13 dl) (cdHp0 dl 5 4 4) 58480 []
def cdG14 (dl v : AV) : LE := [(0, v), (1, .x 8), (7, .p 17 0), (9, .i .i64 (.ofNat 14)), (29, .b true), (2, dl), (8, .i .i64 (.ofNat 0)), (6, .b false), (26, .b false), (14, .b false)]
noncomputable def cdA14 (dl v : AV) : LSt := .mk 10 cdIA (cdG14 dl v) (cdHp0 dl 5 5 4) 58954 []
def cdGX14 (dl : AV) : LE := [(0, cI 14), (1, .x 8), (7, .p 17 0), (9, .i .i64 (.ofNat 14)), (29, .b false), (2, dl), (8, .i .i64 (.ofNat 0)), (6, .b false), (26, .b false), (14, .b false)]
noncomputable def cdX14 (dl : AV) : LSt := .mk 10 cdIX (cdGX14 dl) (cdHp0 dl 5 5 4) 58957 []
def cdGB14 (dl : AV) : LE := [(0, .x 7), (1, .x 8), (7, .p 17 0), (9, .i .i64 (.ofNat 14)), (29, .b true), (2, dl), (8, .i .i64 (.ofNat 0)), (6, .b false), (26, .b false), (14, .b false)]
noncomputable def cdB14 (dl : AV) : LSt := .mk 10 cdIB (cdGB14 dl) (cdHp0 dl 5 5 4) 58957 []
def cdG15 (dl v : AV) : LE := [(0, v), (1, .x 8), (7, .p 17 0), (9, .i .i64 (.ofNat 15)), (29, .b true), (2, dl), (8, .i .i64 (.ofNat 0)), (6, .b false), (26, .b false), (14, .b false)]
noncomputable def cdA15 (dl v : AV) : LSt := .mk 10 cdIA (cdG15 dl v) (cdHp0 dl 5 5 5) 59431 []
def cdGX15 (dl : AV) : LE := [(0, cI 15), (1, .x 8), (7, .p 17 0), (9, .i .i64 (.ofNat 15)), (29, .b false), (2, dl), (8, .i .i64 (.ofNat 0)), (6, .b false), (26, .b false), (14, .b false)]
noncomputable def cdX15 (dl : AV) : LSt := .mk 10 cdIX (cdGX15 dl) (cdHp0 dl 5 5 5) 59434 []
def cdGB15 (dl : AV) : LE := [(0, .x 7), (1, .x 8), (7, .p 17 0), (9, .i .i64 (.ofNat 15)), (29, .b true), (2, dl), (8, .i .i64 (.ofNat 0)), (6, .b false), (26, .b false), (14, .b false)]
noncomputable def cdB15 (dl : AV) : LSt := .mk 10 cdIB (cdGB15 dl) (cdHp0 dl 5 5 5) 59434 []
def cdG16 (dl v : AV) : LE := [(0, v), (1, .x 8), (7, .p 17 0), (9, .i .i64 (.ofNat 16)), (29, .b true), (2, dl), (8, .i .i64 (.ofNat 0)), (6, .b false), (26, .b false), (14, .b false)]
noncomputable def cdA16 (dl v : AV) : LSt := .mk 10 cdIA (cdG16 dl v) (cdHp0 dl 6 5 5) 59908 []
def cdGX16 (dl : AV) : LE := [(0, cI 16), (1, .x 8), (7, .p 17 0), (9, .i .i64 (.ofNat 16)), (29, .b false), (2, dl), (8, .i .i64 (.ofNat 0)), (6, .b false), (26, .b false), (14, .b false)]
noncomputable def cdX16 (dl : AV) : LSt := .mk 10 cdIX (cdGX16 dl) (cdHp0 dl 6 5 5) 59911 []
def cdGB16 (dl : AV) : LE := [(0, .x 7), (1, .x 8), (7, .p 17 0), (9, .i .i64 (.ofNat 16)), (29, .b true), (2, dl), (8, .i .i64 (.ofNat 0)), (6, .b false), (26, .b false), (14, .b false)]
noncomputable def cdB16 (dl : AV) : LSt := .mk 10 cdIB (cdGB16 dl) (cdHp0 dl 6 5 5) 59911 []
def cdG17 (dl v : AV) : LE := [(0, v), (1, .x 8), (7, .p 17 0), (9, .i .i64 (.ofNat 17)), (29, .b true), (2, dl), (8, .i .i64 (.ofNat 0)), (6, .b false), (26, .b false), (14, .b false)]
noncomputable def cdA17 (dl v : AV) : LSt := .mk 10 cdIA (cdG17 dl v) (cdHp0 dl 6 6 5) 60385 []
def cdGX17 (dl : AV) : LE := [(0, cI 17), (1, .x 8), (7, .p 17 0), (9, .i .i64 (.ofNat 17)), (29, .b false), (2, dl), (8, .i .i64 (.ofNat 0)), (6, .b false), (26, .b false), (14, .b false)]
noncomputable def cdX17 (dl : AV) : LSt := .mk 10 cdIX (cdGX17 dl) (cdHp0 dl 6 6 5) 60388 []
def cdGB17 (dl : AV) : LE := [(0, .x 7), (1, .x 8), (7, .p 17 0), (9, .i .i64 (.ofNat 17)), (29, .b true), (2, dl), (8, .i .i64 (.ofNat 0)), (6, .b false), (26, .b false), (14, .b false)]
noncomputable def cdB17 (dl : AV) : LSt := .mk 10 cdIB (cdGB17 dl) (cdHp0 dl 6 6 5) 60388 []
def cdG18 (dl v : AV) : LE := [(0, v), (1, .x 8), (7, .p 17 0), (9, .i .i64 (.ofNat 18)), (29, .b true), (2, dl), (8, .i .i64 (.ofNat 0)), (6, .b false), (26, .b false), (14, .b false)]
noncomputable def cdA18 (dl v : AV) : LSt := .mk 10 cdIA (cdG18 dl v) (cdHp0 dl 6 6 6) 60862 []
def cdGX18 (dl : AV) : LE := [(0, cI 18), (1, .x 8), (7, .p 17 0), (9, .i .i64 (.ofNat 18)), (29, .b false), (2, dl), (8, .i .i64 (.ofNat 0)), (6, .b false), (26, .b false), (14, .b false)]
noncomputable def cdX18 (dl : AV) : LSt := .mk 10 cdIX (cdGX18 dl) (cdHp0 dl 6 6 6) 60865 []
def cdGB18 (dl : AV) : LE := [(0, .x 7), (1, .x 8), (7, .p 17 0), (9, .i .i64 (.ofNat 18)), (29, .b true), (2, dl), (8, .i .i64 (.ofNat 0)), (6, .b false), (26, .b false), (14, .b false)]
noncomputable def cdB18 (dl : AV) : LSt := .mk 10 cdIB (cdGB18 dl) (cdHp0 dl 6 6 6) 60865 []
def cdG19 (dl v : AV) : LE := [(0, v), (1, .x 8), (7, .p 17 0), (9, .i .i64 (.ofNat 19)), (29, .b true), (2, dl), (8, .i .i64 (.ofNat 0)), (6, .b false), (26, .b false), (14, .b false)]
noncomputable def cdA19 (dl v : AV) : LSt := .mk 10 cdIA (cdG19 dl v) (cdHp0 dl 7 6 6) 61339 []
def cdGX19 (dl : AV) : LE := [(0, cI 19), (1, .x 8), (7, .p 17 0), (9, .i .i64 (.ofNat 19)), (29, .b false), (2, dl), (8, .i .i64 (.ofNat 0)), (6, .b false), (26, .b false), (14, .b false)]
noncomputable def cdX19 (dl : AV) : LSt := .mk 10 cdIX (cdGX19 dl) (cdHp0 dl 7 6 6) 61342 []
def cdGB19 (dl : AV) : LE := [(0, .x 7), (1, .x 8), (7, .p 17 0), (9, .i .i64 (.ofNat 19)), (29, .b true), (2, dl), (8, .i .i64 (.ofNat 0)), (6, .b false), (26, .b false), (14, .b false)]
noncomputable def cdB19 (dl : AV) : LSt := .mk 10 cdIB (cdGB19 dl) (cdHp0 dl 7 6 6) 61342 []
def cdG20 (dl v : AV) : LE := [(0, v), (1, .x 8), (7, .p 17 0), (9, .i .i64 (.ofNat 20)), (29, .b true), (2, dl), (8, .i .i64 (.ofNat 0)), (6, .b false), (26, .b false), (14, .b false)]
noncomputable def cdA20 (dl v : AV) : LSt := .mk 10 cdIA (cdG20 dl v) (cdHp0 dl 7 7 6) 61816 []
def cdGX20 (dl : AV) : LE := [(0, cI 20), (1, .x 8), (7, .p 17 0), (9, .i .i64 (.ofNat 20)), (29, .b false), (2, dl), (8, .i .i64 (.ofNat 0)), (6, .b false), (26, .b false), (14, .b false)]
noncomputable def cdX20 (dl : AV) : LSt := .mk 10 cdIX (cdGX20 dl) (cdHp0 dl 7 7 6) 61819 []
def cdGB20 (dl : AV) : LE := [(0, .x 7), (1, .x 8), (7, .p 17 0), (9, .i .i64 (.ofNat 20)), (29, .b true), (2, dl), (8, .i .i64 (.ofNat 0)), (6, .b false), (26, .b false), (14, .b false)]
noncomputable def cdB20 (dl : AV) : LSt := .mk 10 cdIB (cdGB20 dl) (cdHp0 dl 7 7 6) 61819 []
def cdG21 (dl v : AV) : LE := [(0, v), (1, .x 8), (7, .p 17 0), (9, .i .i64 (.ofNat 21)), (29, .b true), (2, dl), (8, .i .i64 (.ofNat 0)), (6, .b false), (26, .b false), (14, .b false)]
noncomputable def cdA21 (dl v : AV) : LSt := .mk 10 cdIA (cdG21 dl v) (cdHp0 dl 7 7 7) 62293 []
def cdGX21 (dl : AV) : LE := [(0, cI 21), (1, .x 8), (7, .p 17 0), (9, .i .i64 (.ofNat 21)), (29, .b false), (2, dl), (8, .i .i64 (.ofNat 0)), (6, .b false), (26, .b false), (14, .b false)]
noncomputable def cdX21 (dl : AV) : LSt := .mk 10 cdIX (cdGX21 dl) (cdHp0 dl 7 7 7) 62296 []
def cdGB21 (dl : AV) : LE := [(0, .x 7), (1, .x 8), (7, .p 17 0), (9, .i .i64 (.ofNat 21)), (29, .b true), (2, dl), (8, .i .i64 (.ofNat 0)), (6, .b false), (26, .b false), (14, .b false)]
noncomputable def cdB21 (dl : AV) : LSt := .mk 10 cdIB (cdGB21 dl) (cdHp0 dl 7 7 7) 62296 []
def cdG22 (dl v : AV) : LE := [(0, v), (1, .x 8), (7, .p 17 0), (9, .i .i64 (.ofNat 22)), (29, .b true), (2, dl), (8, .i .i64 (.ofNat 0)), (6, .b false), (26, .b false), (14, .b false)]
noncomputable def cdA22 (dl v : AV) : LSt := .mk 10 cdIA (cdG22 dl v) (cdHp0 dl 8 7 7) 62770 []
def cdGX22 (dl : AV) : LE := [(0, cI 22), (1, .x 8), (7, .p 17 0), (9, .i .i64 (.ofNat 22)), (29, .b false), (2, dl), (8, .i .i64 (.ofNat 0)), (6, .b false), (26, .b false), (14, .b false)]
noncomputable def cdX22 (dl : AV) : LSt := .mk 10 cdIX (cdGX22 dl) (cdHp0 dl 8 7 7) 62773 []
def cdGB22 (dl : AV) : LE := [(0, .x 7), (1, .x 8), (7, .p 17 0), (9, .i .i64 (.ofNat 22)), (29, .b true), (2, dl), (8, .i .i64 (.ofNat 0)), (6, .b false), (26, .b false), (14, .b false)]
noncomputable def cdB22 (dl : AV) : LSt := .mk 10 cdIB (cdGB22 dl) (cdHp0 dl 8 7 7) 62773 []
def cdG23 (dl v : AV) : LE := [(0, v), (1, .x 8), (7, .p 17 0), (9, .i .i64 (.ofNat 23)), (29, .b true), (2, dl), (8, .i .i64 (.ofNat 0)), (6, .b false), (26, .b false), (14, .b false)]
noncomputable def cdA23 (dl v : AV) : LSt := .mk 10 cdIA (cdG23 dl v) (cdHp0 dl 8 8 7) 63247 []
def cdGX23 (dl : AV) : LE := [(0, cI 23), (1, .x 8), (7, .p 17 0), (9, .i .i64 (.ofNat 23)), (29, .b false), (2, dl), (8, .i .i64 (.ofNat 0)), (6, .b false), (26, .b false), (14, .b false)]
noncomputable def cdX23 (dl : AV) : LSt := .mk 10 cdIX (cdGX23 dl) (cdHp0 dl 8 8 7) 63250 []
def cdGB23 (dl : AV) : LE := [(0, .x 7), (1, .x 8), (7, .p 17 0), (9, .i .i64 (.ofNat 23)), (29, .b true), (2, dl), (8, .i .i64 (.ofNat 0)), (6, .b false), (26, .b false), (14, .b false)]
noncomputable def cdB23 (dl : AV) : LSt := .mk 10 cdIB (cdGB23 dl) (cdHp0 dl 8 8 7) 63250 []
def cdG24 (dl v : AV) : LE := [(0, v), (1, .x 8), (7, .p 17 0), (9, .i .i64 (.ofNat 24)), (29, .b true), (2, dl), (8, .i .i64 (.ofNat 0)), (6, .b false), (26, .b false), (14, .b false)]
noncomputable def cdA24 (dl v : AV) : LSt := .mk 10 cdIA (cdG24 dl v) (cdHp0 dl 8 8 8) 63724 []
def cdGX24 (dl : AV) : LE := [(0, cI 24), (1, .x 8), (7, .p 17 0), (9, .i .i64 (.ofNat 24)), (29, .b false), (2, dl), (8, .i .i64 (.ofNat 0)), (6, .b false), (26, .b false), (14, .b false)]
noncomputable def cdX24 (dl : AV) : LSt := .mk 10 cdIX (cdGX24 dl) (cdHp0 dl 8 8 8) 63727 []
def cdGB24 (dl : AV) : LE := [(0, .x 7), (1, .x 8), (7, .p 17 0), (9, .i .i64 (.ofNat 24)), (29, .b true), (2, dl), (8, .i .i64 (.ofNat 0)), (6, .b false), (26, .b false), (14, .b false)]
noncomputable def cdB24 (dl : AV) : LSt := .mk 10 cdIB (cdGB24 dl) (cdHp0 dl 8 8 8) 63727 []
def cdG25 (dl v : AV) : LE := [(0, v), (1, .x 8), (7, .p 17 0), (9, .i .i64 (.ofNat 25)), (29, .b true), (2, dl), (8, .i .i64 (.ofNat 0)), (6, .b false), (26, .b false), (14, .b false)]
noncomputable def cdA25 (dl v : AV) : LSt := .mk 10 cdIA (cdG25 dl v) (cdHp0 dl 9 8 8) 64201 []
def cdGX25 (dl : AV) : LE := [(0, cI 25), (1, .x 8), (7, .p 17 0), (9, .i .i64 (.ofNat 25)), (29, .b false), (2, dl), (8, .i .i64 (.ofNat 0)), (6, .b false), (26, .b false), (14, .b false)]
noncomputable def cdX25 (dl : AV) : LSt := .mk 10 cdIX (cdGX25 dl) (cdHp0 dl 9 8 8) 64204 []
def cdGB25 (dl : AV) : LE := [(0, .x 7), (1, .x 8), (7, .p 17 0), (9, .i .i64 (.ofNat 25)), (29, .b true), (2, dl), (8, .i .i64 (.ofNat 0)), (6, .b false), (26, .b false), (14, .b false)]
noncomputable def cdB25 (dl : AV) : LSt := .mk 10 cdIB (cdGB25 dl) (cdHp0 dl 9 8 8) 64204 []
def cdG26 (dl v : AV) : LE := [(0, v), (1, .x 8), (7, .p 17 0), (9, .i .i64 (.ofNat 26)), (29, .b true), (2, dl), (8, .i .i64 (.ofNat 0)), (6, .b false), (26, .b false), (14, .b false)]
noncomputable def cdA26 (dl v : AV) : LSt := .mk 10 cdIA (cdG26 dl v) (cdHp0 dl 9 9 8) 64678 []
def cdGX26 (dl : AV) : LE := [(0, cI 26), (1, .x 8), (7, .p 17 0), (9, .i .i64 (.ofNat 26)), (29, .b false), (2, dl), (8, .i .i64 (.ofNat 0)), (6, .b false), (26, .b false), (14, .b false)]
noncomputable def cdX26 (dl : AV) : LSt := .mk 10 cdIX (cdGX26 dl) (cdHp0 dl 9 9 8) 64681 []
def cdGB26 (dl : AV) : LE := [(0, .x 7), (1, .x 8), (7, .p 17 0), (9, .i .i64 (.ofNat 26)), (29, .b true), (2, dl), (8, .i .i64 (.ofNat 0)), (6, .b false), (26, .b false), (14, .b false)]
noncomputable def cdB26 (dl : AV) : LSt := .mk 10 cdIB (cdGB26 dl) (cdHp0 dl 9 9 8) 64681 []
def cdG27 (dl v : AV) : LE := [(0, v), (1, .x 8), (7, .p 17 0), (9, .i .i64 (.ofNat 27)), (29, .b true), (2, dl), (8, .i .i64 (.ofNat 0)), (6, .b false), (26, .b false), (14, .b false)]
noncomputable def cdA27 (dl v : AV) : LSt := .mk 10 cdIA (cdG27 dl v) (cdHp0 dl 9 9 9) 65155 []
def cdGX27 (dl : AV) : LE := [(0, cI 27), (1, .x 8), (7, .p 17 0), (9, .i .i64 (.ofNat 27)), (29, .b false), (2, dl), (8, .i .i64 (.ofNat 0)), (6, .b false), (26, .b false), (14, .b false)]
noncomputable def cdX27 (dl : AV) : LSt := .mk 10 cdIX (cdGX27 dl) (cdHp0 dl 9 9 9) 65158 []
def cdGB27 (dl : AV) : LE := [(0, .x 7), (1, .x 8), (7, .p 17 0), (9, .i .i64 (.ofNat 27)), (29, .b true), (2, dl), (8, .i .i64 (.ofNat 0)), (6, .b false), (26, .b false), (14, .b false)]
noncomputable def cdB27 (dl : AV) : LSt := .mk 10 cdIB (cdGB27 dl) (cdHp0 dl 9 9 9) 65158 []
def cdG28 (dl v : AV) : LE := [(0, v), (1, .x 8), (7, .p 17 0), (9, .i .i64 (.ofNat 28)), (29, .b true), (2, dl), (8, .i .i64 (.ofNat 0)), (6, .b false), (26, .b false), (14, .b false)]
noncomputable def cdA28 (dl v : AV) : LSt := .mk 10 cdIA (cdG28 dl v) (cdHp0 dl 10 9 9) 65632 []
def cdGX28 (dl : AV) : LE := [(0, cI 28), (1, .x 8), (7, .p 17 0), (9, .i .i64 (.ofNat 28)), (29, .b false), (2, dl), (8, .i .i64 (.ofNat 0)), (6, .b false), (26, .b false), (14, .b false)]
noncomputable def cdX28 (dl : AV) : LSt := .mk 10 cdIX (cdGX28 dl) (cdHp0 dl 10 9 9) 65635 []
def cdGB28 (dl : AV) : LE := [(0, .x 7), (1, .x 8), (7, .p 17 0), (9, .i .i64 (.ofNat 28)), (29, .b true), (2, dl), (8, .i .i64 (.ofNat 0)), (6, .b false), (26, .b false), (14, .b false)]
noncomputable def cdB28 (dl : AV) : LSt := .mk 10 cdIB (cdGB28 dl) (cdHp0 dl 10 9 9) 65635 []
def cdG29 (dl v : AV) : LE := [(0, v), (1, .x 8), (7, .p 17 0), (9, .i .i64 (.ofNat 29)), (29, .b true), (2, dl), (8, .i .i64 (.ofNat 0)), (6, .b false), (26, .b false), (14, .b false)]
noncomputable def cdA29 (dl v : AV) : LSt := .mk 10 cdIA (cdG29 dl v) (cdHp0 dl 10 10 9) 66109 []
def cdGX29 (dl : AV) : LE := [(0, cI 29), (1, .x 8), (7, .p 17 0), (9, .i .i64 (.ofNat 29)), (29, .b false), (2, dl), (8, .i .i64 (.ofNat 0)), (6, .b false), (26, .b false), (14, .b false)]
noncomputable def cdX29 (dl : AV) : LSt := .mk 10 cdIX (cdGX29 dl) (cdHp0 dl 10 10 9) 66112 []
def cdGB29 (dl : AV) : LE := [(0, .x 7), (1, .x 8), (7, .p 17 0), (9, .i .i64 (.ofNat 29)), (29, .b true), (2, dl), (8, .i .i64 (.ofNat 0)), (6, .b false), (26, .b false), (14, .b false)]
noncomputable def cdB29 (dl : AV) : LSt := .mk 10 cdIB (cdGB29 dl) (cdHp0 dl 10 10 9) 66112 []
def cdG30 (dl v : AV) : LE := [(0, v), (1, .x 8), (7, .p 17 0), (9, .i .i64 (.ofNat 30)), (29, .b true), (2, dl), (8, .i .i64 (.ofNat 0)), (6, .b false), (26, .b false), (14, .b false)]
noncomputable def cdA30 (dl v : AV) : LSt := .mk 10 cdIA (cdG30 dl v) (cdHp0 dl 10 10 10) 66586 []
def cdGX30 (dl : AV) : LE := [(0, cI 30), (1, .x 8), (7, .p 17 0), (9, .i .i64 (.ofNat 30)), (29, .b false), (2, dl), (8, .i .i64 (.ofNat 0)), (6, .b false), (26, .b false), (14, .b false)]
noncomputable def cdX30 (dl : AV) : LSt := .mk 10 cdIX (cdGX30 dl) (cdHp0 dl 10 10 10) 66589 []
def cdGB30 (dl : AV) : LE := [(0, .x 7), (1, .x 8), (7, .p 17 0), (9, .i .i64 (.ofNat 30)), (29, .b true), (2, dl), (8, .i .i64 (.ofNat 0)), (6, .b false), (26, .b false), (14, .b false)]
noncomputable def cdB30 (dl : AV) : LSt := .mk 10 cdIB (cdGB30 dl) (cdHp0 dl 10 10 10) 66589 []
def cdG31 (dl v : AV) : LE := [(0, v), (1, .x 8), (7, .p 17 0), (9, .i .i64 (.ofNat 31)), (29, .b true), (2, dl), (8, .i .i64 (.ofNat 0)), (6, .b false), (26, .b false), (14, .b false)]
noncomputable def cdA31 (dl v : AV) : LSt := .mk 10 cdIA (cdG31 dl v) (cdHp0 dl 11 10 10) 67063 []
def cdGX31 (dl : AV) : LE := [(0, cI 31), (1, .x 8), (7, .p 17 0), (9, .i .i64 (.ofNat 31)), (29, .b false), (2, dl), (8, .i .i64 (.ofNat 0)), (6, .b false), (26, .b false), (14, .b false)]
noncomputable def cdX31 (dl : AV) : LSt := .mk 10 cdIX (cdGX31 dl) (cdHp0 dl 11 10 10) 67066 []
def cdGB31 (dl : AV) : LE := [(0, .x 7), (1, .x 8), (7, .p 17 0), (9, .i .i64 (.ofNat 31)), (29, .b true), (2, dl), (8, .i .i64 (.ofNat 0)), (6, .b false), (26, .b false), (14, .b false)]
noncomputable def cdB31 (dl : AV) : LSt := .mk 10 cdIB (cdGB31 dl) (cdHp0 dl 11 10 10) 67066 []
def cdG32 (dl v : AV) : LE := [(0, v), (1, .x 8), (7, .p 17 0), (9, .i .i64 (.ofNat 32)), (29, .b true), (2, dl), (8, .i .i64 (.ofNat 0)), (6, .b false), (26, .b false), (14, .b false)]
noncomputable def cdA32 (dl v : AV) : LSt := .mk 10 cdIA (cdG32 dl v) (cdHp0 dl 11 11 10) 67540 []
def cdGX32 (dl : AV) : LE := [(0, cI 32), (1, .x 8), (7, .p 17 0), (9, .i .i64 (.ofNat 32)), (29, .b false), (2, dl), (8, .i .i64 (.ofNat 0)), (6, .b false), (26, .b false), (14, .b false)]
noncomputable def cdX32 (dl : AV) : LSt := .mk 10 cdIX (cdGX32 dl) (cdHp0 dl 11 11 10) 67543 []
def cdGB32 (dl : AV) : LE := [(0, .x 7), (1, .x 8), (7, .p 17 0), (9, .i .i64 (.ofNat 32)), (29, .b true), (2, dl), (8, .i .i64 (.ofNat 0)), (6, .b false), (26, .b false), (14, .b false)]
noncomputable def cdB32 (dl : AV) : LSt := .mk 10 cdIB (cdGB32 dl) (cdHp0 dl 11 11 10) 67543 []
def cdG33 (dl v : AV) : LE := [(0, v), (1, .x 8), (7, .p 17 0), (9, .i .i64 (.ofNat 33)), (29, .b true), (2, dl), (8, .i .i64 (.ofNat 0)), (6, .b false), (26, .b false), (14, .b false)]
noncomputable def cdA33 (dl v : AV) : LSt := .mk 10 cdIA (cdG33 dl v) (cdHp0 dl 11 11 11) 68017 []
def cdGX33 (dl : AV) : LE := [(0, cI 33), (1, .x 8), (7, .p 17 0), (9, .i .i64 (.ofNat 33)), (29, .b false), (2, dl), (8, .i .i64 (.ofNat 0)), (6, .b false), (26, .b false), (14, .b false)]
noncomputable def cdX33 (dl : AV) : LSt := .mk 10 cdIX (cdGX33 dl) (cdHp0 dl 11 11 11) 68020 []
def cdGB33 (dl : AV) : LE := [(0, .x 7), (1, .x 8), (7, .p 17 0), (9, .i .i64 (.ofNat 33)), (29, .b true), (2, dl), (8, .i .i64 (.ofNat 0)), (6, .b false), (26, .b false), (14, .b false)]
noncomputable def cdB33 (dl : AV) : LSt := .mk 10 cdIB (cdGB33 dl) (cdHp0 dl 11 11 11) 68020 []
def cdG34 (dl v : AV) : LE := [(0, v), (1, .x 8), (7, .p 17 0), (9, .i .i64 (.ofNat 34)), (29, .b true), (2, dl), (8, .i .i64 (.ofNat 0)), (6, .b false), (26, .b false), (14, .b false)]
noncomputable def cdA34 (dl v : AV) : LSt := .mk 10 cdIA (cdG34 dl v) (cdHp0 dl 12 11 11) 68494 []
def cdGX34 (dl : AV) : LE := [(0, cI 34), (1, .x 8), (7, .p 17 0), (9, .i .i64 (.ofNat 34)), (29, .b false), (2, dl), (8, .i .i64 (.ofNat 0)), (6, .b false), (26, .b false), (14, .b false)]
noncomputable def cdX34 (dl : AV) : LSt := .mk 10 cdIX (cdGX34 dl) (cdHp0 dl 12 11 11) 68497 []
def cdGB34 (dl : AV) : LE := [(0, .x 7), (1, .x 8), (7, .p 17 0), (9, .i .i64 (.ofNat 34)), (29, .b true), (2, dl), (8, .i .i64 (.ofNat 0)), (6, .b false), (26, .b false), (14, .b false)]
noncomputable def cdB34 (dl : AV) : LSt := .mk 10 cdIB (cdGB34 dl) (cdHp0 dl 12 11 11) 68497 []
def cdG35 (dl v : AV) : LE := [(0, v), (1, .x 8), (7, .p 17 0), (9, .i .i64 (.ofNat 35)), (29, .b true), (2, dl), (8, .i .i64 (.ofNat 0)), (6, .b false), (26, .b false), (14, .b false)]
noncomputable def cdA35 (dl v : AV) : LSt := .mk 10 cdIA (cdG35 dl v) (cdHp0 dl 12 12 11) 68971 []
def cdGX35 (dl : AV) : LE := [(0, cI 35), (1, .x 8), (7, .p 17 0), (9, .i .i64 (.ofNat 35)), (29, .b false), (2, dl), (8, .i .i64 (.ofNat 0)), (6, .b false), (26, .b false), (14, .b false)]
noncomputable def cdX35 (dl : AV) : LSt := .mk 10 cdIX (cdGX35 dl) (cdHp0 dl 12 12 11) 68974 []
def cdGB35 (dl : AV) : LE := [(0, .x 7), (1, .x 8), (7, .p 17 0), (9, .i .i64 (.ofNat 35)), (29, .b true), (2, dl), (8, .i .i64 (.ofNat 0)), (6, .b false), (26, .b false), (14, .b false)]
noncomputable def cdB35 (dl : AV) : LSt := .mk 10 cdIB (cdGB35 dl) (cdHp0 dl 12 12 11) 68974 []
def cdGW0 (dl : AV) : LE := [(0, .any), (1, .x 8), (7, .p 17 0), (9, .any), (29, .any), (2, dl), (8, .i .i64 (.ofNat 0)), (6, .b false), (26, .any), (14, .any)]
noncomputable def cdWs0 (dl : AV) : LSt := .mk 10 cdIX (cdGW0 dl) (cdHW0 dl) 68974 []

end Go.Proofs.YtegafdkhbgojcaaGreatDoor.Ek
