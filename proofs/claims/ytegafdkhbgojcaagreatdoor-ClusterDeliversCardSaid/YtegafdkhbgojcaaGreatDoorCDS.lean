/- The statement ClusterDelivers: the later ticks, as they were written down. No condition. -/
import Derived.Test.YtegafdkhbgojcaaGreatDoorCDS0
set_option linter.unusedVariables false
set_option maxRecDepth 100000
namespace Go.Proofs.YtegafdkhbgojcaaGreatDoor.Ek
open Go.Proofs.YtegafdkhbgojcaaGreatDoor.Ex
noncomputable def cdHp1 (dl : AV) : List (Nat × AB) := [(17, .c [.sl 71868 0 2 19 none, .i .i64 (.ofNat 0), .i .i64 (.ofNat 2), .sl 52218 0 3 1 none, .sl 52225 0 3 1 none, .sn, .i .i64 (.ofNat 0), .i .i64 (.ofNat 2)]),
  (32, .m [] 0),
  (33, .m [] 0),
  (34, .m [] 0),
  (36, .c [.i .i64 (.ofNat 262), .m 32, .sn, .m 33, .m 34, .i .i64 (.negSucc 0), .b false]),
  (87, .m [] 0),
  (88, .m [] 0),
  (90, .c [.p 36 0, .p 99 0, .p 580 0, .p 1680 0, .i .i64 (.ofNat 1), .i .i64 (.ofNat 3), .i .i64 (.ofNat 0), .i .i64 (.ofNat 0), .i .i64 (.ofNat 12), .mn, .mn, .mn, .i .i64 (.ofNat 0), .i .i64 (.ofNat 0), .m 87, .i .i64 (.ofNat 0), .i .i64 (.ofNat 0), .i .i64 (.ofNat 0), .sn, .m 88, .b false, .i .i64 (.ofNat 0), .i .i64 (.ofNat 0), .i .i64 (.ofNat 12), .sn, .i .i64 (.ofNat 0)]),
  (99, .c [.p 36 0, .i .i64 (.ofNat 0), .i .i64 (.ofNat 0), .i .i64 (.ofNat 0), .i .i64 (.ofNat 1), .i .i64 (.ofNat 0)]),
  (580, .c [.p 36 0, .i .i64 (.ofNat 2), .i .i64 (.negSucc 0), .i .i64 (.ofNat 0), .i .i64 (.ofNat 0), .i .i64 (.ofNat 0), .sn]),
  (1678, .m [] 0),
  (1680, .c [.p 36 0, .i .i64 (.ofNat 134), .i .i64 (.ofNat 64), .i .i64 (.ofNat 1), .sn, .m 1678]),
  (17066, .m [] 0),
  (17067, .m [] 0),
  (17069, .c [.p 90 0, .p 17288 0, .i .i64 (.ofNat 12), .m 17066, .m 17067]),
  (17268, .m [(.s 1 47, .ag [.s 0 0, .i .i64 (.ofNat 0), .i .i64 (.ofNat 0), .i .i64 (.ofNat 0), .i .i64 (.ofNat 0), .i .i64 (.ofNat 0), .i .i64 (.ofNat 0)], 0)] 1),
  (17273, .c [.m 17268]),
  (17277, .m [] 0),
  (17279, .c [.m 17277]),
  (17283, .m [] 0),
  (17285, .c [.sn, .sn, .m 17283]),
  (17288, .c [.p 17273 0, .p 17279 0, .p 17285 0, .i .i64 (.ofNat 0)]),
  (17437, .m [] 0),
  (17438, .m [] 0),
  (17439, .m [] 0),
  (17441, .c [.i .i64 (.ofNat 262), .m 17437, .sn, .m 17438, .m 17439, .i .i64 (.negSucc 0), .b false]),
  (17492, .m [] 0),
  (17493, .m [] 0),
  (17495, .c [.p 17441 0, .p 17504 0, .p 17985 0, .p 19085 0, .i .i64 (.ofNat 2), .i .i64 (.ofNat 3), .i .i64 (.ofNat 0), .i .i64 (.ofNat 0), .i .i64 (.ofNat 12), .mn, .mn, .mn, .i .i64 (.ofNat 0), .i .i64 (.ofNat 0), .m 17492, .i .i64 (.ofNat 0), .i .i64 (.ofNat 0), .i .i64 (.ofNat 0), .sn, .m 17493, .b false, .i .i64 (.ofNat 0), .i .i64 (.ofNat 0), .i .i64 (.ofNat 12), .sn, .i .i64 (.ofNat 0)]),
  (17504, .c [.p 17441 0, .i .i64 (.ofNat 0), .i .i64 (.ofNat 0), .i .i64 (.ofNat 0), .i .i64 (.ofNat 1), .i .i64 (.ofNat 0)]),
  (17985, .c [.p 17441 0, .i .i64 (.ofNat 2), .i .i64 (.negSucc 0), .i .i64 (.ofNat 0), .i .i64 (.ofNat 0), .i .i64 (.ofNat 0), .sn]),
  (19083, .m [] 0),
  (19085, .c [.p 17441 0, .i .i64 (.ofNat 134), .i .i64 (.ofNat 64), .i .i64 (.ofNat 1), .sn, .m 19083]),
  (34471, .m [] 0),
  (34472, .m [] 0),
  (34474, .c [.p 17495 0, .p 34693 0, .i .i64 (.ofNat 12), .m 34471, .m 34472]),
  (34673, .m [(.s 1 47, .ag [.s 0 0, .i .i64 (.ofNat 0), .i .i64 (.ofNat 0), .i .i64 (.ofNat 0), .i .i64 (.ofNat 0), .i .i64 (.ofNat 0), .i .i64 (.ofNat 0)], 0)] 1),
  (34678, .c [.m 34673]),
  (34682, .m [] 0),
  (34684, .c [.m 34682]),
  (34688, .m [] 0),
  (34690, .c [.sn, .sn, .m 34688]),
  (34693, .c [.p 34678 0, .p 34684 0, .p 34690 0, .i .i64 (.ofNat 0)]),
  (34842, .m [(.i .i64 (.ofNat 0), .s 42 70923648266469529658598112154738565158894424647932057420315920386828094611482252546426380488114438144, 0), (.i .i64 (.ofNat 1), .s 42 70923648266469529658598112154738565158894424647932057420315920386828094611482252546426380488114438144, 1)] 2),
  (34843, .m [] 0),
  (34844, .m [] 0),
  (34846, .c [.i .i64 (.ofNat 262), .m 34842, .sn, .m 34843, .m 34844, .i .i64 (.negSucc 0), .b false]),
  (34897, .m [] 0),
  (34898, .m [] 0),
  (34900, .c [.p 34846 0, .p 34909 0, .p 35390 0, .p 36490 0, .i .i64 (.ofNat 3), .i .i64 (.ofNat 3), .i .i64 (.ofNat 1), .i .i64 (.ofNat 0), .i .i64 (.ofNat 0), .m 71201, .mn, .mn, .i .i64 (.ofNat 0), .i .i64 (.ofNat 0), .m 34897, .i .i64 (.ofNat 0), .i .i64 (.ofNat 0), .i .i64 (.ofNat 0), .sn, .m 34898, .b false, .i .i64 (.ofNat 0), .i .i64 (.ofNat 0), .i .i64 (.ofNat 12), .sn, .i .i64 (.ofNat 0)]),
  (34909, .c [.p 34846 0, .i .i64 (.ofNat 1), .i .i64 (.ofNat 1), .i .i64 (.ofNat 3), .i .i64 (.ofNat 1), .i .i64 (.ofNat 0)]),
  (35390, .c [.p 34846 0, .i .i64 (.ofNat 2), .i .i64 (.negSucc 0), .i .i64 (.ofNat 0), .i .i64 (.ofNat 0), .i .i64 (.ofNat 0), .sn]),
  (36488, .m [] 0),
  (36490, .c [.p 34846 0, .i .i64 (.ofNat 134), .i .i64 (.ofNat 64), .i .i64 (.ofNat 1), .sn, .m 36488]),
  (51876, .m [] 0),
  (51877, .m [] 0),
  (51879, .c [.p 34900 0, .p 52098 0, .i .i64 (.ofNat 12), .m 51876, .m 51877]),
  (52078, .m [(.s 1 47, .ag [.s 0 0, .i .i64 (.ofNat 0), .i .i64 (.ofNat 0), .i .i64 (.ofNat 0), .i .i64 (.ofNat 0), .i .i64 (.ofNat 0), .i .i64 (.ofNat 0)], 0)] 1),
  (52083, .c [.m 52078]),
  (52087, .m [] 0),
  (52089, .c [.m 52087]),
  (52093, .m [] 0),
  (52095, .c [.sn, .sn, .m 52093]),
  (52098, .c [.p 52083 0, .p 52089 0, .p 52095 0, .i .i64 (.ofNat 0)]),
  (52218, .c [.p 36 0, .p 17441 0, .p 34846 0]),
  (52225, .c [.p 17069 0, .p 34474 0, .p 51879 0]),
  (71201, .m [(.i .i64 (.ofNat 3), .b true, 0)] 1),
  (71868, .c [dl, .i .i64 (.ofNat 1), .i .i64 (.ofNat 1), .i .i64 (.ofNat 3), .i .i64 (.ofNat 1), .i .i64 (.ofNat 1), .i .i64 (.ofNat 0), .i .i64 (.ofNat 0), .i .i64 (.ofNat 0), .i .i64 (.ofNat 0), .sn, .b false, .i .i64 (.ofNat 0), .i .i64 (.ofNat 0), .i .i64 (.ofNat 0), .i .i64 (.ofNat 0), .sn, .i .i64 (.ofNat 0), .s 0 0, dl, .i .i64 (.ofNat 2), .i .i64 (.ofNat 1), .i .i64 (.ofNat 3), .i .i64 (.ofNat 2), .i .i64 (.ofNat 1), .i .i64 (.ofNat 0), .i .i64 (.ofNat 0), .i .i64 (.ofNat 0), .i .i64 (.ofNat 0), .sn, .b false, .i .i64 (.ofNat 0), .i .i64 (.ofNat 0), .i .i64 (.ofNat 0), .i .i64 (.ofNat 0), .sn, .i .i64 (.ofNat 0), .s 0 0])]
noncomputable def cdHW1 (dl : AV) : List (Nat × AB) := [(17, .c [.sl 71868 0 2 19 none, .i .i64 (.ofNat 0), .i .i64 (.ofNat 2), .sl 52218 0 3 1 none, .sl 52225 0 3 1 none, .sn, .i .i64 (.ofNat 0), .i .i64 (.ofNat 2)]),
  (32, .m [] 0),
  (33, .m [] 0),
  (34, .m [] 0),
  (36, .c [.i .i64 (.ofNat 262), .m 32, .sn, .m 33, .m 34, .i .i64 (.negSucc 0), .b false]),
  (87, .m [] 0),
  (88, .m [] 0),
  (90, .c [.p 36 0, .p 99 0, .p 580 0, .p 1680 0, .i .i64 (.ofNat 1), .i .i64 (.ofNat 3), .i .i64 (.ofNat 0), .i .i64 (.ofNat 0), .i .i64 (.ofNat 12), .mn, .mn, .mn, .i .i64 (.ofNat 0), .i .i64 (.ofNat 0), .m 87, .i .i64 (.ofNat 0), .i .i64 (.ofNat 0), .i .i64 (.ofNat 0), .sn, .m 88, .b false, .i .i64 (.ofNat 0), .i .i64 (.ofNat 0), .i .i64 (.ofNat 12), .sn, .i .i64 (.ofNat 0)]),
  (99, .c [.p 36 0, .i .i64 (.ofNat 0), .i .i64 (.ofNat 0), .i .i64 (.ofNat 0), .i .i64 (.ofNat 1), .i .i64 (.ofNat 0)]),
  (580, .c [.p 36 0, .i .i64 (.ofNat 2), .i .i64 (.negSucc 0), .i .i64 (.ofNat 0), .i .i64 (.ofNat 0), .i .i64 (.ofNat 0), .sn]),
  (1678, .m [] 0),
  (1680, .c [.p 36 0, .i .i64 (.ofNat 134), .i .i64 (.ofNat 64), .i .i64 (.ofNat 1), .sn, .m 1678]),
  (17066, .m [] 0),
  (17067, .m [] 0),
  (17069, .c [.p 90 0, .p 17288 0, .i .i64 (.ofNat 12), .m 17066, .m 17067]),
  (17268, .m [(.s 1 47, .ag [.s 0 0, .i .i64 (.ofNat 0), .i .i64 (.ofNat 0), .i .i64 (.ofNat 0), .i .i64 (.ofNat 0), .i .i64 (.ofNat 0), .i .i64 (.ofNat 0)], 0)] 1),
  (17273, .c [.m 17268]),
  (17277, .m [] 0),
  (17279, .c [.m 17277]),
  (17283, .m [] 0),
  (17285, .c [.sn, .sn, .m 17283]),
  (17288, .c [.p 17273 0, .p 17279 0, .p 17285 0, .i .i64 (.ofNat 0)]),
  (17437, .m [] 0),
  (17438, .m [] 0),
  (17439, .m [] 0),
  (17441, .c [.i .i64 (.ofNat 262), .m 17437, .sn, .m 17438, .m 17439, .i .i64 (.negSucc 0), .b false]),
  (17492, .m [] 0),
  (17493, .m [] 0),
  (17495, .c [.p 17441 0, .p 17504 0, .p 17985 0, .p 19085 0, .i .i64 (.ofNat 2), .i .i64 (.ofNat 3), .i .i64 (.ofNat 0), .i .i64 (.ofNat 0), .i .i64 (.ofNat 12), .mn, .mn, .mn, .i .i64 (.ofNat 0), .i .i64 (.ofNat 0), .m 17492, .i .i64 (.ofNat 0), .i .i64 (.ofNat 0), .i .i64 (.ofNat 0), .sn, .m 17493, .b false, .i .i64 (.ofNat 0), .i .i64 (.ofNat 0), .i .i64 (.ofNat 12), .sn, .i .i64 (.ofNat 0)]),
  (17504, .c [.p 17441 0, .i .i64 (.ofNat 0), .i .i64 (.ofNat 0), .i .i64 (.ofNat 0), .i .i64 (.ofNat 1), .i .i64 (.ofNat 0)]),
  (17985, .c [.p 17441 0, .i .i64 (.ofNat 2), .i .i64 (.negSucc 0), .i .i64 (.ofNat 0), .i .i64 (.ofNat 0), .i .i64 (.ofNat 0), .sn]),
  (19083, .m [] 0),
  (19085, .c [.p 17441 0, .i .i64 (.ofNat 134), .i .i64 (.ofNat 64), .i .i64 (.ofNat 1), .sn, .m 19083]),
  (34471, .m [] 0),
  (34472, .m [] 0),
  (34474, .c [.p 17495 0, .p 34693 0, .i .i64 (.ofNat 12), .m 34471, .m 34472]),
  (34673, .m [(.s 1 47, .ag [.s 0 0, .i .i64 (.ofNat 0), .i .i64 (.ofNat 0), .i .i64 (.ofNat 0), .i .i64 (.ofNat 0), .i .i64 (.ofNat 0), .i .i64 (.ofNat 0)], 0)] 1),
  (34678, .c [.m 34673]),
  (34682, .m [] 0),
  (34684, .c [.m 34682]),
  (34688, .m [] 0),
  (34690, .c [.sn, .sn, .m 34688]),
  (34693, .c [.p 34678 0, .p 34684 0, .p 34690 0, .i .i64 (.ofNat 0)]),
  (34842, .m [(.i .i64 (.ofNat 0), .s 42 70923648266469529658598112154738565158894424647932057420315920386828094611482252546426380488114438144, 0), (.i .i64 (.ofNat 1), .s 42 70923648266469529658598112154738565158894424647932057420315920386828094611482252546426380488114438144, 1)] 2),
  (34843, .m [] 0),
  (34844, .m [] 0),
  (34846, .c [.i .i64 (.ofNat 262), .m 34842, .sn, .m 34843, .m 34844, .i .i64 (.negSucc 0), .b false]),
  (34897, .m [] 0),
  (34898, .m [] 0),
  (34900, .c [.p 34846 0, .p 34909 0, .p 35390 0, .p 36490 0, .i .i64 (.ofNat 3), .i .i64 (.ofNat 3), .i .i64 (.ofNat 1), .i .i64 (.ofNat 0), .i .i64 (.ofNat 0), .m 71201, .mn, .mn, .i .i64 (.ofNat 0), .i .i64 (.ofNat 0), .m 34897, .i .i64 (.ofNat 0), .i .i64 (.ofNat 0), .i .i64 (.ofNat 0), .sn, .m 34898, .b false, .i .i64 (.ofNat 0), .i .i64 (.ofNat 0), .i .i64 (.ofNat 12), .sn, .i .i64 (.ofNat 0)]),
  (34909, .c [.p 34846 0, .i .i64 (.ofNat 1), .i .i64 (.ofNat 1), .i .i64 (.ofNat 3), .i .i64 (.ofNat 1), .i .i64 (.ofNat 0)]),
  (35390, .c [.p 34846 0, .i .i64 (.ofNat 2), .i .i64 (.negSucc 0), .i .i64 (.ofNat 0), .i .i64 (.ofNat 0), .i .i64 (.ofNat 0), .sn]),
  (36488, .m [] 0),
  (36490, .c [.p 34846 0, .i .i64 (.ofNat 134), .i .i64 (.ofNat 64), .i .i64 (.ofNat 1), .sn, .m 36488]),
  (51876, .m [] 0),
  (51877, .m [] 0),
  (51879, .c [.p 34900 0, .p 52098 0, .i .i64 (.ofNat 12), .m 51876, .m 51877]),
  (52078, .m [(.s 1 47, .ag [.s 0 0, .i .i64 (.ofNat 0), .i .i64 (.ofNat 0), .i .i64 (.ofNat 0), .i .i64 (.ofNat 0), .i .i64 (.ofNat 0), .i .i64 (.ofNat 0)], 0)] 1),
  (52083, .c [.m 52078]),
  (52087, .m [] 0),
  (52089, .c [.m 52087]),
  (52093, .m [] 0),
  (52095, .c [.sn, .sn, .m 52093]),
  (52098, .c [.p 52083 0, .p 52089 0, .p 52095 0, .i .i64 (.ofNat 0)]),
  (52218, .c [.p 36 0, .p 17441 0, .p 34846 0]),
  (52225, .c [.p 17069 0, .p 34474 0, .p 51879 0]),
  (71201, .m [(.i .i64 (.ofNat 3), .b true, 0)] 1),
  (71868, .c [dl, .i .i64 (.ofNat 1), .i .i64 (.ofNat 1), .i .i64 (.ofNat 3), .i .i64 (.ofNat 1), .i .i64 (.ofNat 1), .i .i64 (.ofNat 0), .i .i64 (.ofNat 0), .i .i64 (.ofNat 0), .i .i64 (.ofNat 0), .sn, .b false, .i .i64 (.ofNat 0), .i .i64 (.ofNat 0), .i .i64 (.ofNat 0), .i .i64 (.ofNat 0), .sn, .i .i64 (.ofNat 0), .s 0 0, dl, .i .i64 (.ofNat 2), .i .i64 (.ofNat 1), .i .i64 (.ofNat 3), .i .i64 (.ofNat 2), .i .i64 (.ofNat 1), .i .i64 (.ofNat 0), .i .i64 (.ofNat 0), .i .i64 (.ofNat 0), .i .i64 (.ofNat 0), .sn, .b false, .i .i64 (.ofNat 0), .i .i64 (.ofNat 0), .i .i64 (.ofNat 0), .i .i64 (.ofNat 0), .sn, .i .i64 (.ofNat 0), .s 0 0])]
def cdG36 (dl v : AV) : LE := [(0, v), (1, .x 8), (7, .p 17 0), (9, .i .i64 (.ofNat 36)), (29, .b true), (2, dl), (8, .i .i64 (.ofNat 0)), (6, .b false), (26, .b false), (14, .b false)]
noncomputable def cdA36 (dl v : AV) : LSt := .mk 10 cdIA (cdG36 dl v) (cdHp1 dl) 71927 []
def cdGX36 (dl : AV) : LE := [(0, cI 36), (1, .x 8), (7, .p 17 0), (9, .i .i64 (.ofNat 36)), (29, .b false), (2, dl), (8, .i .i64 (.ofNat 0)), (6, .b false), (26, .b false), (14, .b false)]
noncomputable def cdX36 (dl : AV) : LSt := .mk 10 cdIX (cdGX36 dl) (cdHp1 dl) 71930 []
def cdGB36 (dl : AV) : LE := [(0, .x 7), (1, .x 8), (7, .p 17 0), (9, .i .i64 (.ofNat 36)), (29, .b true), (2, dl), (8, .i .i64 (.ofNat 0)), (6, .b false), (26, .b false), (14, .b false)]
noncomputable def cdB36 (dl : AV) : LSt := .mk 10 cdIB (cdGB36 dl) (cdHp1 dl) 71930 []
def cdGW1 (dl : AV) : LE := [(0, .any), (1, .x 8), (7, .p 17 0), (9, .any), (29, .any), (2, dl), (8, .i .i64 (.ofNat 0)), (6, .b false), (26, .any), (14, .any)]
noncomputable def cdWs1 (dl : AV) : LSt := .mk 10 cdIX (cdGW1 dl) (cdHW1 dl) 71930 []
noncomputable def cdHp2 (dl : AV) (p0 p1 p2 p3 p4 : Nat) : List (Nat × AB) := [(17, .c [.sl 74848 0 4 19 none, .i .i64 (.ofNat 0), .i .i64 (.ofNat 4), .sl 52218 0 3 1 none, .sl 52225 0 3 1 none, .sn, .i .i64 (.ofNat 0), .i .i64 (.ofNat 4)]),
  (32, .m [(.i .i64 (.ofNat 0), .s 42 41430776805889345117510993879931070453109953236564388509908491416436917432027003098594065520804233216, 0), (.i .i64 (.ofNat 1), .s 42 41430776805889345117510993879931070453109953236564388509908491416436917432027003098594065520804233216, 1)] 2),
  (33, .m [] 0),
  (34, .m [] 0),
  (36, .c [.i .i64 (.ofNat 262), .m 32, .sn, .m 33, .m 34, .i .i64 (.negSucc 0), .b false]),
  (87, .m [] 0),
  (88, .m [] 0),
  (90, .c [.p 36 0, .p 99 0, .p 580 0, .p 1680 0, .i .i64 (.ofNat 1), .i .i64 (.ofNat 3), .i .i64 (.ofNat 1), .i .i64 (.ofNat 0), .i .i64 (.ofNat p0), .m 74157, .mn, .mn, .i .i64 (.ofNat 0), .i .i64 (.ofNat 0), .m 87, .i .i64 (.ofNat 0), .i .i64 (.ofNat 0), .i .i64 (.ofNat 0), .sn, .m 88, .b false, .i .i64 (.ofNat 0), .i .i64 (.ofNat 0), .i .i64 (.ofNat p1), .sn, .i .i64 (.ofNat 0)]),
  (99, .c [.p 36 0, .i .i64 (.ofNat 1), .i .i64 (.ofNat 1), .i .i64 (.ofNat 1), .i .i64 (.ofNat 1), .i .i64 (.ofNat 0)]),
  (580, .c [.p 36 0, .i .i64 (.ofNat 2), .i .i64 (.negSucc 0), .i .i64 (.ofNat 0), .i .i64 (.ofNat 0), .i .i64 (.ofNat 0), .sn]),
  (1678, .m [] 0),
  (1680, .c [.p 36 0, .i .i64 (.ofNat 134), .i .i64 (.ofNat 64), .i .i64 (.ofNat 1), .sn, .m 1678]),
  (17066, .m [] 0),
  (17067, .m [] 0),
  (17069, .c [.p 90 0, .p 17288 0, .i .i64 (.ofNat p1), .m 17066, .m 17067]),
  (17268, .m [(.s 1 47, .ag [.s 0 0, .i .i64 (.ofNat 0), .i .i64 (.ofNat 0), .i .i64 (.ofNat 0), .i .i64 (.ofNat 0), .i .i64 (.ofNat 0), .i .i64 (.ofNat 0)], 0)] 1),
  (17273, .c [.m 17268]),
  (17277, .m [] 0),
  (17279, .c [.m 17277]),
  (17283, .m [] 0),
  (17285, .c [.sn, .sn, .m 17283]),
  (17288, .c [.p 17273 0, .p 17279 0, .p 17285 0, .i .i64 (.ofNat 0)]),
  (17437, .m [] 0),
  (17438, .m [] 0),
  (17439, .m [] 0),
  (17441, .c [.i .i64 (.ofNat 262), .m 17437, .sn, .m 17438, .m 17439, .i .i64 (.negSucc 0), .b false]),
  (17492, .m [] 0),
  (17493, .m [] 0),
  (17495, .c [.p 17441 0, .p 17504 0, .p 17985 0, .p 19085 0, .i .i64 (.ofNat 2), .i .i64 (.ofNat 3), .i .i64 (.ofNat 0), .i .i64 (.ofNat 0), .i .i64 (.ofNat p2), .mn, .mn, .mn, .i .i64 (.ofNat 0), .i .i64 (.ofNat 0), .m 17492, .i .i64 (.ofNat 0), .i .i64 (.ofNat 0), .i .i64 (.ofNat 0), .sn, .m 17493, .b false, .i .i64 (.ofNat 0), .i .i64 (.ofNat 0), .i .i64 (.ofNat p2), .sn, .i .i64 (.ofNat 0)]),
  (17504, .c [.p 17441 0, .i .i64 (.ofNat 0), .i .i64 (.ofNat 0), .i .i64 (.ofNat 0), .i .i64 (.ofNat 1), .i .i64 (.ofNat 0)]),
  (17985, .c [.p 17441 0, .i .i64 (.ofNat 2), .i .i64 (.negSucc 0), .i .i64 (.ofNat 0), .i .i64 (.ofNat 0), .i .i64 (.ofNat 0), .sn]),
  (19083, .m [] 0),
  (19085, .c [.p 17441 0, .i .i64 (.ofNat 134), .i .i64 (.ofNat 64), .i .i64 (.ofNat 1), .sn, .m 19083]),
  (34471, .m [] 0),
  (34472, .m [] 0),
  (34474, .c [.p 17495 0, .p 34693 0, .i .i64 (.ofNat p2), .m 34471, .m 34472]),
  (34673, .m [(.s 1 47, .ag [.s 0 0, .i .i64 (.ofNat 0), .i .i64 (.ofNat 0), .i .i64 (.ofNat 0), .i .i64 (.ofNat 0), .i .i64 (.ofNat 0), .i .i64 (.ofNat 0)], 0)] 1),
  (34678, .c [.m 34673]),
  (34682, .m [] 0),
  (34684, .c [.m 34682]),
  (34688, .m [] 0),
  (34690, .c [.sn, .sn, .m 34688]),
  (34693, .c [.p 34678 0, .p 34684 0, .p 34690 0, .i .i64 (.ofNat 0)]),
  (34842, .m [(.i .i64 (.ofNat 0), .s 42 70923648266469529658598112154738565158894424647932057420315920386828094611482252546426380488114438144, 0), (.i .i64 (.ofNat 1), .s 42 70923648266469529658598112154738565158894424647932057420315920386828094611482252546426380488114438144, 1)] 2),
  (34843, .m [] 0),
  (34844, .m [] 0),
  (34846, .c [.i .i64 (.ofNat 262), .m 34842, .sn, .m 34843, .m 34844, .i .i64 (.negSucc 0), .b false]),
  (34897, .m [] 0),
  (34898, .m [] 0),
  (34900, .c [.p 34846 0, .p 34909 0, .p 35390 0, .p 36490 0, .i .i64 (.ofNat 3), .i .i64 (.ofNat 3), .i .i64 (.ofNat 1), .i .i64 (.ofNat 0), .i .i64 (.ofNat p3), .m 71201, .mn, .mn, .i .i64 (.ofNat 0), .i .i64 (.ofNat 0), .m 34897, .i .i64 (.ofNat 0), .i .i64 (.ofNat 0), .i .i64 (.ofNat 0), .sn, .m 34898, .b false, .i .i64 (.ofNat 0), .i .i64 (.ofNat 0), .i .i64 (.ofNat p4), .sn, .i .i64 (.ofNat 0)]),
  (34909, .c [.p 34846 0, .i .i64 (.ofNat 1), .i .i64 (.ofNat 1), .i .i64 (.ofNat 3), .i .i64 (.ofNat 1), .i .i64 (.ofNat 0)]),
  (35390, .c [.p 34846 0, .i .i64 (.ofNat 2), .i .i64 (.negSucc 0), .i .i64 (.ofNat 0), .i .i64 (.ofNat 0), .i .i64 (.ofNat 0), .sn]),
  (36488, .m [] 0),
  (36490, .c [.p 34846 0, .i .i64 (.ofNat 134), .i .i64 (.ofNat 64), .i .i64 (.ofNat 1), .sn, .m 36488]),
  (51876, .m [] 0),
  (51877, .m [] 0),
  (51879, .c [.p 34900 0, .p 52098 0, .i .i64 (.ofNat p4), .m 51876, .m 51877]),
  (52078, .m [(.s 1 47, .ag [.s 0 0, .i .i64 (.ofNat 0), .i .i64 (.ofNat 0), .i .i64 (.ofNat 0), .i .i64 (.ofNat 0), .i .i64 (.ofNat 0), .i .i64 (.ofNat 0)], 0)] 1),
  (52083, .c [.m 52078]),
  (52087, .m [] 0),
  (52089, .c [.m 52087]),
  (52093, .m [] 0),
  (52095, .c [.sn, .sn, .m 52093]),
  (52098, .c [.p 52083 0, .p 52089 0, .p 52095 0, .i .i64 (.ofNat 0)]),
  (52218, .c [.p 36 0, .p 17441 0, .p 34846 0]),
  (52225, .c [.p 17069 0, .p 34474 0, .p 51879 0]),
  (71201, .m [(.i .i64 (.ofNat 3), .b true, 0)] 1),
  (74157, .m [(.i .i64 (.ofNat 1), .b true, 0)] 1),
  (74848, .c [dl, .i .i64 (.ofNat 1), .i .i64 (.ofNat 1), .i .i64 (.ofNat 3), .i .i64 (.ofNat 1), .i .i64 (.ofNat 1), .i .i64 (.ofNat 0), .i .i64 (.ofNat 0), .i .i64 (.ofNat 0), .i .i64 (.ofNat 0), .sn, .b false, .i .i64 (.ofNat 0), .i .i64 (.ofNat 0), .i .i64 (.ofNat 0), .i .i64 (.ofNat 0), .sn, .i .i64 (.ofNat 0), .s 0 0, dl, .i .i64 (.ofNat 2), .i .i64 (.ofNat 1), .i .i64 (.ofNat 3), .i .i64 (.ofNat 2), .i .i64 (.ofNat 1), .i .i64 (.ofNat 0), .i .i64 (.ofNat 0), .i .i64 (.ofNat 0), .i .i64 (.ofNat 0), .sn, .b false, .i .i64 (.ofNat 0), .i .i64 (.ofNat 0), .i .i64 (.ofNat 0), .i .i64 (.ofNat 0), .sn, .i .i64 (.ofNat 0), .s 0 0, dl, .i .i64 (.ofNat 3), .i .i64 (.ofNat 1), .i .i64 (.ofNat 1), .i .i64 (.ofNat 2), .i .i64 (.ofNat 1), .i .i64 (.ofNat 0), .i .i64 (.ofNat 0), .i .i64 (.ofNat 0), .i .i64 (.ofNat 0), .sn, .b false, .i .i64 (.ofNat 0), .i .i64 (.ofNat 0), .i .i64 (.ofNat 0), .i .i64 (.ofNat 0), .sn, .i .i64 (.ofNat 0), .s 0 0, dl, .i .i64 (.ofNat 4), .i .i64 (.ofNat 1), .i .i64 (.ofNat 1), .i .i64 (.ofNat 3), .i .i64 (.ofNat 1), .i .i64 (.ofNat 0), .i .i64 (.ofNat 0), .i .i64 (.ofNat 0), .i .i64 (.ofNat 0), .sn, .b false, .i .i64 (.ofNat 0), .i .i64 (.ofNat 0), .i .i64 (.ofNat 0), .i .i64 (.ofNat 0), .sn, .i .i64 (.ofNat 0), .s 0 0])]
noncomputable def cdHW2 (dl : AV) : List (Nat × AB) := [(17, .c [.sl 74848 0 4 19 none, .i .i64 (.ofNat 0), .i .i64 (.ofNat 4), .sl 52218 0 3 1 none, .sl 52225 0 3 1 none, .sn, .i .i64 (.ofNat 0), .i .i64 (.ofNat 4)]),
  (32, .m [(.i .i64 (.ofNat 0), .s 42 41430776805889345117510993879931070453109953236564388509908491416436917432027003098594065520804233216, 0), (.i .i64 (.ofNat 1), .s 42 41430776805889345117510993879931070453109953236564388509908491416436917432027003098594065520804233216, 1)] 2),
  (33, .m [] 0),
  (34, .m [] 0),
  (36, .c [.i .i64 (.ofNat 262), .m 32, .sn, .m 33, .m 34, .i .i64 (.negSucc 0), .b false]),
  (87, .m [] 0),
  (88, .m [] 0),
  (90, .c [.p 36 0, .p 99 0, .p 580 0, .p 1680 0, .i .i64 (.ofNat 1), .i .i64 (.ofNat 3), .i .i64 (.ofNat 1), .i .i64 (.ofNat 0), .any, .m 74157, .mn, .mn, .i .i64 (.ofNat 0), .i .i64 (.ofNat 0), .m 87, .i .i64 (.ofNat 0), .i .i64 (.ofNat 0), .i .i64 (.ofNat 0), .sn, .m 88, .b false, .i .i64 (.ofNat 0), .i .i64 (.ofNat 0), .any, .sn, .i .i64 (.ofNat 0)]),
  (99, .c [.p 36 0, .i .i64 (.ofNat 1), .i .i64 (.ofNat 1), .i .i64 (.ofNat 1), .i .i64 (.ofNat 1), .i .i64 (.ofNat 0)]),
  (580, .c [.p 36 0, .i .i64 (.ofNat 2), .i .i64 (.negSucc 0), .i .i64 (.ofNat 0), .i .i64 (.ofNat 0), .i .i64 (.ofNat 0), .sn]),
  (1678, .m [] 0),
  (1680, .c [.p 36 0, .i .i64 (.ofNat 134), .i .i64 (.ofNat 64), .i .i64 (.ofNat 1), .sn, .m 1678]),
  (17066, .m [] 0),
  (17067, .m [] 0),
  (17069, .c [.p 90 0, .p 17288 0, .any, .m 17066, .m 17067]),
  (17268, .m [(.s 1 47, .ag [.s 0 0, .i .i64 (.ofNat 0), .i .i64 (.ofNat 0), .i .i64 (.ofNat 0), .i .i64 (.ofNat 0), .i .i64 (.ofNat 0), .i .i64 (.ofNat 0)], 0)] 1),
  (17273, .c [.m 17268]),
  (17277, .m [] 0),
  (17279, .c [.m 17277]),
  (17283, .m [] 0),
  (17285, .c [.sn, .sn, .m 17283]),
  (17288, .c [.p 17273 0, .p 17279 0, .p 17285 0, .i .i64 (.ofNat 0)]),
  (17437, .m [] 0),
  (17438, .m [] 0),
  (17439, .m [] 0),
  (17441, .c [.i .i64 (.ofNat 262), .m 17437, .sn, .m 17438, .m 17439, .i .i64 (.negSucc 0), .b false]),
  (17492, .m [] 0),
  (17493, .m [] 0),
  (17495, .c [.p 17441 0, .p 17504 0, .p 17985 0, .p 19085 0, .i .i64 (.ofNat 2), .i .i64 (.ofNat 3), .i .i64 (.ofNat 0), .i .i64 (.ofNat 0), .any, .mn, .mn, .mn, .i .i64 (.ofNat 0), .i .i64 (.ofNat 0), .m 17492, .i .i64 (.ofNat 0), .i .i64 (.ofNat 0), .i .i64 (.ofNat 0), .sn, .m 17493, .b false, .i .i64 (.ofNat 0), .i .i64 (.ofNat 0), .any, .sn, .i .i64 (.ofNat 0)]),
  (17504, .c [.p 17441 0, .i .i64 (.ofNat 0), .i .i64 (.ofNat 0), .i .i64 (.ofNat 0), .i .i64 (.ofNat 1), .i .i64 (.ofNat 0)]),
  (17985, .c [.p 17441 0, .i .i64 (.ofNat 2), .i .i64 (.negSucc 0), .i .i64 (.ofNat 0), .i .i64 (.ofNat 0), .i .i64 (.ofNat 0), .sn]),
  (19083, .m [] 0),
  (19085, .c [.p 17441 0, .i .i64 (.ofNat 134), .i .i64 (.ofNat 64), .i .i64 (.ofNat 1), .sn, .m 19083]),
  (34471, .m [] 0),
  (34472, .m [] 0),
  (34474, .c [.p 17495 0, .p 34693 0, .any, .m 34471, .m 34472]),
  (34673, .m [(.s 1 47, .ag [.s 0 0, .i .i64 (.ofNat 0), .i .i64 (.ofNat 0), .i .i64 (.ofNat 0), .i .i64 (.ofNat 0), .i .i64 (.ofNat 0), .i .i64 (.ofNat 0)], 0)] 1),
  (34678, .c [.m 34673]),
  (34682, .m [] 0),
  (34684, .c [.m 34682]),
  (34688, .m [] 0),
  (34690, .c [.sn, .sn, .m 34688]),
  (34693, .c [.p 34678 0, .p 34684 0, .p 34690 0, .i .i64 (.ofNat 0)]),
  (34842, .m [(.i .i64 (.ofNat 0), .s 42 70923648266469529658598112154738565158894424647932057420315920386828094611482252546426380488114438144, 0), (.i .i64 (.ofNat 1), .s 42 70923648266469529658598112154738565158894424647932057420315920386828094611482252546426380488114438144, 1)] 2),
  (34843, .m [] 0),
  (34844, .m [] 0),
  (34846, .c [.i .i64 (.ofNat 262), .m 34842, .sn, .m 34843, .m 34844, .i .i64 (.negSucc 0), .b false]),
  (34897, .m [] 0),
  (34898, .m [] 0),
  (34900, .c [.p 34846 0, .p 34909 0, .p 35390 0, .p 36490 0, .i .i64 (.ofNat 3), .i .i64 (.ofNat 3), .i .i64 (.ofNat 1), .i .i64 (.ofNat 0), .any, .m 71201, .mn, .mn, .i .i64 (.ofNat 0), .i .i64 (.ofNat 0), .m 34897, .i .i64 (.ofNat 0), .i .i64 (.ofNat 0), .i .i64 (.ofNat 0), .sn, .m 34898, .b false, .i .i64 (.ofNat 0), .i .i64 (.ofNat 0), .any, .sn, .i .i64 (.ofNat 0)]),
  (34909, .c [.p 34846 0, .i .i64 (.ofNat 1), .i .i64 (.ofNat 1), .i .i64 (.ofNat 3), .i .i64 (.ofNat 1), .i .i64 (.ofNat 0)]),
  (35390, .c [.p 34846 0, .i .i64 (.ofNat 2), .i .i64 (.negSucc 0), .i .i64 (.ofNat 0), .i .i64 (.ofNat 0), .i .i64 (.ofNat 0), .sn]),
  (36488, .m [] 0),
  (36490, .c [.p 34846 0, .i .i64 (.ofNat 134), .i .i64 (.ofNat 64), .i .i64 (.ofNat 1), .sn, .m 36488]),
  (51876, .m [] 0),
  (51877, .m [] 0),
  (51879, .c [.p 34900 0, .p 52098 0, .any, .m 51876, .m 51877]),
  (52078, .m [(.s 1 47, .ag [.s 0 0, .i .i64 (.ofNat 0), .i .i64 (.ofNat 0), .i .i64 (.ofNat 0), .i .i64 (.ofNat 0), .i .i64 (.ofNat 0), .i .i64 (.ofNat 0)], 0)] 1),
  (52083, .c [.m 52078]),
  (52087, .m [] 0),
  (52089, .c [.m 52087]),
  (52093, .m [] 0),
  (52095, .c [.sn, .sn, .m 52093]),
  (52098, .c [.p 52083 0, .p 52089 0, .p 52095 0, .i .i64 (.ofNat 0)]),
  (52218, .c [.p 36 0, .p 17441 0, .p 34846 0]),
  (52225, .c [.p 17069 0, .p 34474 0, .p 51879 0]),
  (71201, .m [(.i .i64 (.ofNat 3), .b true, 0)] 1),
  (74157, .m [(.i .i64 (.ofNat 1), .b true, 0)] 1),
  (74848, .c [dl, .i .i64 (.ofNat 1), .i .i64 (.ofNat 1), .i .i64 (.ofNat 3), .i .i64 (.ofNat 1), .i .i64 (.ofNat 1), .i .i64 (.ofNat 0), .i .i64 (.ofNat 0), .i .i64 (.ofNat 0), .i .i64 (.ofNat 0), .sn, .b false, .i .i64 (.ofNat 0), .i .i64 (.ofNat 0), .i .i64 (.ofNat 0), .i .i64 (.ofNat 0), .sn, .i .i64 (.ofNat 0), .s 0 0, dl, .i .i64 (.ofNat 2), .i .i64 (.ofNat 1), .i .i64 (.ofNat 3), .i .i64 (.ofNat 2), .i .i64 (.ofNat 1), .i .i64 (.ofNat 0), .i .i64 (.ofNat 0), .i .i64 (.ofNat 0), .i .i64 (.ofNat 0), .sn, .b false, .i .i64 (.ofNat 0), .i .i64 (.ofNat 0), .i .i64 (.ofNat 0), .i .i64 (.ofNat 0), .sn, .i .i64 (.ofNat 0), .s 0 0, dl, .i .i64 (.ofNat 3), .i .i64 (.ofNat 1), .i .i64 (.ofNat 1), .i .i64 (.ofNat 2), .i .i64 (.ofNat 1), .i .i64 (.ofNat 0), .i .i64 (.ofNat 0), .i .i64 (.ofNat 0), .i .i64 (.ofNat 0), .sn, .b false, .i .i64 (.ofNat 0), .i .i64 (.ofNat 0), .i .i64 (.ofNat 0), .i .i64 (.ofNat 0), .sn, .i .i64 (.ofNat 0), .s 0 0, dl, .i .i64 (.ofNat 4), .i .i64 (.ofNat 1), .i .i64 (.ofNat 1), .i .i64 (.ofNat 3), .i .i64 (.ofNat 1), .i .i64 (.ofNat 0), .i .i64 (.ofNat 0), .i .i64 (.ofNat 0), .i .i64 (.ofNat 0), .sn, .b false, .i .i64 (.ofNat 0), .i .i64 (.ofNat 0), .i .i64 (.ofNat 0), .i .i64 (.ofNat 0), .sn, .i .i64 (.ofNat 0), .s 0 0])]
def cdG37 (dl v : AV) : LE := [(0, v), (1, .x 8), (7, .p 17 0), (9, .i .i64 (.ofNat 37)), (29, .b true), (2, dl), (8, .i .i64 (.ofNat 0)), (6, .b false), (26, .b false), (14, .b false)]
noncomputable def cdA37 (dl v : AV) : LSt := .mk 10 cdIA (cdG37 dl v) (cdHp2 dl 0 13 12 0 12) 74907 []
def cdGX37 (dl : AV) : LE := [(0, cI 37), (1, .x 8), (7, .p 17 0), (9, .i .i64 (.ofNat 37)), (29, .b false), (2, dl), (8, .i .i64 (.ofNat 0)), (6, .b false), (26, .b false), (14, .b false)]
noncomputable def cdX37 (dl : AV) : LSt := .mk 10 cdIX (cdGX37 dl) (cdHp2 dl 0 13 12 0 12) 74910 []
def cdGB37 (dl : AV) : LE := [(0, .x 7), (1, .x 8), (7, .p 17 0), (9, .i .i64 (.ofNat 37)), (29, .b true), (2, dl), (8, .i .i64 (.ofNat 0)), (6, .b false), (26, .b false), (14, .b false)]
noncomputable def cdB37 (dl : AV) : LSt := .mk 10 cdIB (cdGB37 dl) (cdHp2 dl 0 13 12 0 12) 74910 []
def cdG38 (dl v : AV) : LE := [(0, v), (1, .x 8), (7, .p 17 0), (9, .i .i64 (.ofNat 38)), (29, .b true), (2, dl), (8, .i .i64 (.ofNat 0)), (6, .b false), (26, .b false), (14, .b false)]
noncomputable def cdA38 (dl v : AV) : LSt := .mk 10 cdIA (cdG38 dl v) (cdHp2 dl 0 13 13 0 12) 75384 []
def cdGX38 (dl : AV) : LE := [(0, cI 38), (1, .x 8), (7, .p 17 0), (9, .i .i64 (.ofNat 38)), (29, .b false), (2, dl), (8, .i .i64 (.ofNat 0)), (6, .b false), (26, .b false), (14, .b false)]
noncomputable def cdX38 (dl : AV) : LSt := .mk 10 cdIX (cdGX38 dl) (cdHp2 dl 0 13 13 0 12) 75387 []
def cdGB38 (dl : AV) : LE := [(0, .x 7), (1, .x 8), (7, .p 17 0), (9, .i .i64 (.ofNat 38)), (29, .b true), (2, dl), (8, .i .i64 (.ofNat 0)), (6, .b false), (26, .b false), (14, .b false)]
noncomputable def cdB38 (dl : AV) : LSt := .mk 10 cdIB (cdGB38 dl) (cdHp2 dl 0 13 13 0 12) 75387 []
def cdG39 (dl v : AV) : LE := [(0, v), (1, .x 8), (7, .p 17 0), (9, .i .i64 (.ofNat 39)), (29, .b true), (2, dl), (8, .i .i64 (.ofNat 0)), (6, .b false), (26, .b false), (14, .b false)]
noncomputable def cdA39 (dl v : AV) : LSt := .mk 10 cdIA (cdG39 dl v) (cdHp2 dl 0 13 13 1 13) 75861 []
def cdGX39 (dl : AV) : LE := [(0, cI 39), (1, .x 8), (7, .p 17 0), (9, .i .i64 (.ofNat 39)), (29, .b false), (2, dl), (8, .i .i64 (.ofNat 0)), (6, .b false), (26, .b false), (14, .b false)]
noncomputable def cdX39 (dl : AV) : LSt := .mk 10 cdIX (cdGX39 dl) (cdHp2 dl 0 13 13 1 13) 75864 []
def cdGB39 (dl : AV) : LE := [(0, .x 7), (1, .x 8), (7, .p 17 0), (9, .i .i64 (.ofNat 39)), (29, .b true), (2, dl), (8, .i .i64 (.ofNat 0)), (6, .b false), (26, .b false), (14, .b false)]
noncomputable def cdB39 (dl : AV) : LSt := .mk 10 cdIB (cdGB39 dl) (cdHp2 dl 0 13 13 1 13) 75864 []
def cdG40 (dl v : AV) : LE := [(0, v), (1, .x 8), (7, .p 17 0), (9, .i .i64 (.ofNat 40)), (29, .b true), (2, dl), (8, .i .i64 (.ofNat 0)), (6, .b false), (26, .b false), (14, .b false)]
noncomputable def cdA40 (dl v : AV) : LSt := .mk 10 cdIA (cdG40 dl v) (cdHp2 dl 1 14 13 1 13) 76338 []
def cdGX40 (dl : AV) : LE := [(0, cI 40), (1, .x 8), (7, .p 17 0), (9, .i .i64 (.ofNat 40)), (29, .b false), (2, dl), (8, .i .i64 (.ofNat 0)), (6, .b false), (26, .b false), (14, .b false)]
noncomputable def cdX40 (dl : AV) : LSt := .mk 10 cdIX (cdGX40 dl) (cdHp2 dl 1 14 13 1 13) 76341 []
def cdGB40 (dl : AV) : LE := [(0, .x 7), (1, .x 8), (7, .p 17 0), (9, .i .i64 (.ofNat 40)), (29, .b true), (2, dl), (8, .i .i64 (.ofNat 0)), (6, .b false), (26, .b false), (14, .b false)]
noncomputable def cdB40 (dl : AV) : LSt := .mk 10 cdIB (cdGB40 dl) (cdHp2 dl 1 14 13 1 13) 76341 []
def cdG41 (dl v : AV) : LE := [(0, v), (1, .x 8), (7, .p 17 0), (9, .i .i64 (.ofNat 41)), (29, .b true), (2, dl), (8, .i .i64 (.ofNat 0)), (6, .b false), (26, .b false), (14, .b false)]
noncomputable def cdA41 (dl v : AV) : LSt := .mk 10 cdIA (cdG41 dl v) (cdHp2 dl 1 14 14 1 13) 76815 []
def cdGX41 (dl : AV) : LE := [(0, cI 41), (1, .x 8), (7, .p 17 0), (9, .i .i64 (.ofNat 41)), (29, .b false), (2, dl), (8, .i .i64 (.ofNat 0)), (6, .b false), (26, .b false), (14, .b false)]
noncomputable def cdX41 (dl : AV) : LSt := .mk 10 cdIX (cdGX41 dl) (cdHp2 dl 1 14 14 1 13) 76818 []
def cdGB41 (dl : AV) : LE := [(0, .x 7), (1, .x 8), (7, .p 17 0), (9, .i .i64 (.ofNat 41)), (29, .b true), (2, dl), (8, .i .i64 (.ofNat 0)), (6, .b false), (26, .b false), (14, .b false)]
noncomputable def cdB41 (dl : AV) : LSt := .mk 10 cdIB (cdGB41 dl) (cdHp2 dl 1 14 14 1 13) 76818 []
def cdG42 (dl v : AV) : LE := [(0, v), (1, .x 8), (7, .p 17 0), (9, .i .i64 (.ofNat 42)), (29, .b true), (2, dl), (8, .i .i64 (.ofNat 0)), (6, .b false), (26, .b false), (14, .b false)]
noncomputable def cdA42 (dl v : AV) : LSt := .mk 10 cdIA (cdG42 dl v) (cdHp2 dl 1 14 14 2 14) 77292 []
def cdGX42 (dl : AV) : LE := [(0, cI 42), (1, .x 8), (7, .p 17 0), (9, .i .i64 (.ofNat 42)), (29, .b false), (2, dl), (8, .i .i64 (.ofNat 0)), (6, .b false), (26, .b false), (14, .b false)]
noncomputable def cdX42 (dl : AV) : LSt := .mk 10 cdIX (cdGX42 dl) (cdHp2 dl 1 14 14 2 14) 77295 []
def cdGB42 (dl : AV) : LE := [(0, .x 7), (1, .x 8), (7, .p 17 0), (9, .i .i64 (.ofNat 42)), (29, .b true), (2, dl), (8, .i .i64 (.ofNat 0)), (6, .b false), (26, .b false), (14, .b false)]
noncomputable def cdB42 (dl : AV) : LSt := .mk 10 cdIB (cdGB42 dl) (cdHp2 dl 1 14 14 2 14) 77295 []
def cdG43 (dl v : AV) : LE := [(0, v), (1, .x 8), (7, .p 17 0), (9, .i .i64 (.ofNat 43)), (29, .b true), (2, dl), (8, .i .i64 (.ofNat 0)), (6, .b false), (26, .b false), (14, .b false)]
noncomputable def cdA43 (dl v : AV) : LSt := .mk 10 cdIA (cdG43 dl v) (cdHp2 dl 2 15 14 2 14) 77769 []
def cdGX43 (dl : AV) : LE := [(0, cI 43), (1, .x 8), (7, .p 17 0), (9, .i .i64 (.ofNat 43)), (29, .b false), (2, dl), (8, .i .i64 (.ofNat 0)), (6, .b false), (26, .b false), (14, .b false)]
noncomputable def cdX43 (dl : AV) : LSt := .mk 10 cdIX (cdGX43 dl) (cdHp2 dl 2 15 14 2 14) 77772 []
def cdGB43 (dl : AV) : LE := [(0, .x 7), (1, .x 8), (7, .p 17 0), (9, .i .i64 (.ofNat 43)), (29, .b true), (2, dl), (8, .i .i64 (.ofNat 0)), (6, .b false), (26, .b false), (14, .b false)]
noncomputable def cdB43 (dl : AV) : LSt := .mk 10 cdIB (cdGB43 dl) (cdHp2 dl 2 15 14 2 14) 77772 []
def cdG44 (dl v : AV) : LE := [(0, v), (1, .x 8), (7, .p 17 0), (9, .i .i64 (.ofNat 44)), (29, .b true), (2, dl), (8, .i .i64 (.ofNat 0)), (6, .b false), (26, .b false), (14, .b false)]
noncomputable def cdA44 (dl v : AV) : LSt := .mk 10 cdIA (cdG44 dl v) (cdHp2 dl 2 15 15 2 14) 78246 []
def cdGX44 (dl : AV) : LE := [(0, cI 44), (1, .x 8), (7, .p 17 0), (9, .i .i64 (.ofNat 44)), (29, .b false), (2, dl), (8, .i .i64 (.ofNat 0)), (6, .b false), (26, .b false), (14, .b false)]
noncomputable def cdX44 (dl : AV) : LSt := .mk 10 cdIX (cdGX44 dl) (cdHp2 dl 2 15 15 2 14) 78249 []
def cdGB44 (dl : AV) : LE := [(0, .x 7), (1, .x 8), (7, .p 17 0), (9, .i .i64 (.ofNat 44)), (29, .b true), (2, dl), (8, .i .i64 (.ofNat 0)), (6, .b false), (26, .b false), (14, .b false)]
noncomputable def cdB44 (dl : AV) : LSt := .mk 10 cdIB (cdGB44 dl) (cdHp2 dl 2 15 15 2 14) 78249 []
def cdG45 (dl v : AV) : LE := [(0, v), (1, .x 8), (7, .p 17 0), (9, .i .i64 (.ofNat 45)), (29, .b true), (2, dl), (8, .i .i64 (.ofNat 0)), (6, .b false), (26, .b false), (14, .b false)]
noncomputable def cdA45 (dl v : AV) : LSt := .mk 10 cdIA (cdG45 dl v) (cdHp2 dl 2 15 15 3 15) 78723 []
def cdGX45 (dl : AV) : LE := [(0, cI 45), (1, .x 8), (7, .p 17 0), (9, .i .i64 (.ofNat 45)), (29, .b false), (2, dl), (8, .i .i64 (.ofNat 0)), (6, .b false), (26, .b false), (14, .b false)]
noncomputable def cdX45 (dl : AV) : LSt := .mk 10 cdIX (cdGX45 dl) (cdHp2 dl 2 15 15 3 15) 78726 []
def cdGB45 (dl : AV) : LE := [(0, .x 7), (1, .x 8), (7, .p 17 0), (9, .i .i64 (.ofNat 45)), (29, .b true), (2, dl), (8, .i .i64 (.ofNat 0)), (6, .b false), (26, .b false), (14, .b false)]
noncomputable def cdB45 (dl : AV) : LSt := .mk 10 cdIB (cdGB45 dl) (cdHp2 dl 2 15 15 3 15) 78726 []
def cdG46 (dl v : AV) : LE := [(0, v), (1, .x 8), (7, .p 17 0), (9, .i .i64 (.ofNat 46)), (29, .b true), (2, dl), (8, .i .i64 (.ofNat 0)), (6, .b false), (26, .b false), (14, .b false)]
noncomputable def cdA46 (dl v : AV) : LSt := .mk 10 cdIA (cdG46 dl v) (cdHp2 dl 3 16 15 3 15) 79200 []
def cdGX46 (dl : AV) : LE := [(0, cI 46), (1, .x 8), (7, .p 17 0), (9, .i .i64 (.ofNat 46)), (29, .b false), (2, dl), (8, .i .i64 (.ofNat 0)), (6, .b false), (26, .b false), (14, .b false)]
noncomputable def cdX46 (dl : AV) : LSt := .mk 10 cdIX (cdGX46 dl) (cdHp2 dl 3 16 15 3 15) 79203 []
def cdGB46 (dl : AV) : LE := [(0, .x 7), (1, .x 8), (7, .p 17 0), (9, .i .i64 (.ofNat 46)), (29, .b true), (2, dl), (8, .i .i64 (.ofNat 0)), (6, .b false), (26, .b false), (14, .b false)]
noncomputable def cdB46 (dl : AV) : LSt := .mk 10 cdIB (cdGB46 dl) (cdHp2 dl 3 16 15 3 15) 79203 []
def cdG47 (dl v : AV) : LE := [(0, v), (1, .x 8), (7, .p 17 0), (9, .i .i64 (.ofNat 47)), (29, .b true), (2, dl), (8, .i .i64 (.ofNat 0)), (6, .b false), (26, .b false), (14, .b false)]
noncomputable def cdA47 (dl v : AV) : LSt := .mk 10 cdIA (cdG47 dl v) (cdHp2 dl 3 16 16 3 15) 79677 []
def cdGX47 (dl : AV) : LE := [(0, cI 47), (1, .x 8), (7, .p 17 0), (9, .i .i64 (.ofNat 47)), (29, .b false), (2, dl), (8, .i .i64 (.ofNat 0)), (6, .b false), (26, .b false), (14, .b false)]
noncomputable def cdX47 (dl : AV) : LSt := .mk 10 cdIX (cdGX47 dl) (cdHp2 dl 3 16 16 3 15) 79680 []
def cdGB47 (dl : AV) : LE := [(0, .x 7), (1, .x 8), (7, .p 17 0), (9, .i .i64 (.ofNat 47)), (29, .b true), (2, dl), (8, .i .i64 (.ofNat 0)), (6, .b false), (26, .b false), (14, .b false)]
noncomputable def cdB47 (dl : AV) : LSt := .mk 10 cdIB (cdGB47 dl) (cdHp2 dl 3 16 16 3 15) 79680 []
def cdG48 (dl v : AV) : LE := [(0, v), (1, .x 8), (7, .p 17 0), (9, .i .i64 (.ofNat 48)), (29, .b true), (2, dl), (8, .i .i64 (.ofNat 0)), (6, .b false), (26, .b false), (14, .b false)]
noncomputable def cdA48 (dl v : AV) : LSt := .mk 10 cdIA (cdG48 dl v) (cdHp2 dl 3 16 16 4 16) 80154 []
def cdGX48 (dl : AV) : LE := [(0, cI 48), (1, .x 8), (7, .p 17 0), (9, .i .i64 (.ofNat 48)), (29, .b false), (2, dl), (8, .i .i64 (.ofNat 0)), (6, .b false), (26, .b false), (14, .b false)]
noncomputable def cdX48 (dl : AV) : LSt := .mk 10 cdIX (cdGX48 dl) (cdHp2 dl 3 16 16 4 16) 80157 []
def cdGB48 (dl : AV) : LE := [(0, .x 7), (1, .x 8), (7, .p 17 0), (9, .i .i64 (.ofNat 48)), (29, .b true), (2, dl), (8, .i .i64 (.ofNat 0)), (6, .b false), (26, .b false), (14, .b false)]
noncomputable def cdB48 (dl : AV) : LSt := .mk 10 cdIB (cdGB48 dl) (cdHp2 dl 3 16 16 4 16) 80157 []
def cdG49 (dl v : AV) : LE := [(0, v), (1, .x 8), (7, .p 17 0), (9, .i .i64 (.ofNat 49)), (29, .b true), (2, dl), (8, .i .i64 (.ofNat 0)), (6, .b false), (26, .b false), (14, .b false)]
noncomputable def cdA49 (dl v : AV) : LSt := .mk 10 cdIA (cdG49 dl v) (cdHp2 dl 4 17 16 4 16) 80631 []
def cdGX49 (dl : AV) : LE := [(0, cI 49), (1, .x 8), (7, .p 17 0), (9, .i .i64 (.ofNat 49)), (29, .b false), (2, dl), (8, .i .i64 (.ofNat 0)), (6, .b false), (26, .b false), (14, .b false)]
noncomputable def cdX49 (dl : AV) : LSt := .mk 10 cdIX (cdGX49 dl) (cdHp2 dl 4 17 16 4 16) 80634 []
def cdGB49 (dl : AV) : LE := [(0, .x 7), (1, .x 8), (7, .p 17 0), (9, .i .i64 (.ofNat 49)), (29, .b true), (2, dl), (8, .i .i64 (.ofNat 0)), (6, .b false), (26, .b false), (14, .b false)]
noncomputable def cdB49 (dl : AV) : LSt := .mk 10 cdIB (cdGB49 dl) (cdHp2 dl 4 17 16 4 16) 80634 []
def cdG50 (dl v : AV) : LE := [(0, v), (1, .x 8), (7, .p 17 0), (9, .i .i64 (.ofNat 50)), (29, .b true), (2, dl), (8, .i .i64 (.ofNat 0)), (6, .b false), (26, .b false), (14, .b false)]
noncomputable def cdA50 (dl v : AV) : LSt := .mk 10 cdIA (cdG50 dl v) (cdHp2 dl 4 17 17 4 16) 81108 []
def cdGX50 (dl : AV) : LE := [(0, cI 50), (1, .x 8), (7, .p 17 0), (9, .i .i64 (.ofNat 50)), (29, .b false), (2, dl), (8, .i .i64 (.ofNat 0)), (6, .b false), (26, .b false), (14, .b false)]
noncomputable def cdX50 (dl : AV) : LSt := .mk 10 cdIX (cdGX50 dl) (cdHp2 dl 4 17 17 4 16) 81111 []
def cdGB50 (dl : AV) : LE := [(0, .x 7), (1, .x 8), (7, .p 17 0), (9, .i .i64 (.ofNat 50)), (29, .b true), (2, dl), (8, .i .i64 (.ofNat 0)), (6, .b false), (26, .b false), (14, .b false)]
noncomputable def cdB50 (dl : AV) : LSt := .mk 10 cdIB (cdGB50 dl) (cdHp2 dl 4 17 17 4 16) 81111 []
def cdG51 (dl v : AV) : LE := [(0, v), (1, .x 8), (7, .p 17 0), (9, .i .i64 (.ofNat 51)), (29, .b true), (2, dl), (8, .i .i64 (.ofNat 0)), (6, .b false), (26, .b false), (14, .b false)]
noncomputable def cdA51 (dl v : AV) : LSt := .mk 10 cdIA (cdG51 dl v) (cdHp2 dl 4 17 17 5 17) 81585 []
def cdGX51 (dl : AV) : LE := [(0, cI 51), (1, .x 8), (7, .p 17 0), (9, .i .i64 (.ofNat 51)), (29, .b false), (2, dl), (8, .i .i64 (.ofNat 0)), (6, .b false), (26, .b false), (14, .b false)]
noncomputable def cdX51 (dl : AV) : LSt := .mk 10 cdIX (cdGX51 dl) (cdHp2 dl 4 17 17 5 17) 81588 []
def cdGB51 (dl : AV) : LE := [(0, .x 7), (1, .x 8), (7, .p 17 0), (9, .i .i64 (.ofNat 51)), (29, .b true), (2, dl), (8, .i .i64 (.ofNat 0)), (6, .b false), (26, .b false), (14, .b false)]
noncomputable def cdB51 (dl : AV) : LSt := .mk 10 cdIB (cdGB51 dl) (cdHp2 dl 4 17 17 5 17) 81588 []
def cdG52 (dl v : AV) : LE := [(0, v), (1, .x 8), (7, .p 17 0), (9, .i .i64 (.ofNat 52)), (29, .b true), (2, dl), (8, .i .i64 (.ofNat 0)), (6, .b false), (26, .b false), (14, .b false)]
noncomputable def cdA52 (dl v : AV) : LSt := .mk 10 cdIA (cdG52 dl v) (cdHp2 dl 5 18 17 5 17) 82062 []
def cdGX52 (dl : AV) : LE := [(0, cI 52), (1, .x 8), (7, .p 17 0), (9, .i .i64 (.ofNat 52)), (29, .b false), (2, dl), (8, .i .i64 (.ofNat 0)), (6, .b false), (26, .b false), (14, .b false)]
noncomputable def cdX52 (dl : AV) : LSt := .mk 10 cdIX (cdGX52 dl) (cdHp2 dl 5 18 17 5 17) 82065 []
def cdGB52 (dl : AV) : LE := [(0, .x 7), (1, .x 8), (7, .p 17 0), (9, .i .i64 (.ofNat 52)), (29, .b true), (2, dl), (8, .i .i64 (.ofNat 0)), (6, .b false), (26, .b false), (14, .b false)]
noncomputable def cdB52 (dl : AV) : LSt := .mk 10 cdIB (cdGB52 dl) (cdHp2 dl 5 18 17 5 17) 82065 []
def cdGW2 (dl : AV) : LE := [(0, .any), (1, .x 8), (7, .p 17 0), (9, .any), (29, .any), (2, dl), (8, .i .i64 (.ofNat 0)), (6, .b false), (26, .any), (14, .any)]
noncomputable def cdWs2 (dl : AV) : LSt := .mk 10 cdIX (cdGW2 dl) (cdHW2 dl) 82065 []
noncomputable def cdHp3 (dl : AV) (p0 p1 p2 p3 p4 p5 : Nat) : List (Nat × AB) := [(17, .c [.sl 84983 0 6 19 none, .i .i64 (.ofNat 0), .i .i64 (.ofNat 6), .sl 52218 0 3 1 none, .sl 52225 0 3 1 none, .sn, .i .i64 (.ofNat 0), .i .i64 (.ofNat 6)]),
  (32, .m [(.i .i64 (.ofNat 0), .s 42 41430776805889345117510993879931070453109953236564388509908491416436917432027003098594065520804233216, 0), (.i .i64 (.ofNat 1), .s 42 41430776805889345117510993879931070453109953236564388509908491416436917432027003098594065520804233216, 1)] 2),
  (33, .m [] 0),
  (34, .m [] 0),
  (36, .c [.i .i64 (.ofNat 262), .m 32, .sn, .m 33, .m 34, .i .i64 (.negSucc 0), .b false]),
  (87, .m [] 0),
  (88, .m [] 0),
  (90, .c [.p 36 0, .p 99 0, .p 580 0, .p 1680 0, .i .i64 (.ofNat 1), .i .i64 (.ofNat 3), .i .i64 (.ofNat 1), .i .i64 (.ofNat 0), .i .i64 (.ofNat p0), .m 74157, .mn, .mn, .i .i64 (.ofNat 0), .i .i64 (.ofNat 0), .m 87, .i .i64 (.ofNat 0), .i .i64 (.ofNat 0), .i .i64 (.ofNat 0), .sn, .m 88, .b false, .i .i64 (.ofNat 0), .i .i64 (.ofNat 0), .i .i64 (.ofNat p1), .sn, .i .i64 (.ofNat 0)]),
  (99, .c [.p 36 0, .i .i64 (.ofNat 1), .i .i64 (.ofNat 1), .i .i64 (.ofNat 1), .i .i64 (.ofNat 1), .i .i64 (.ofNat 0)]),
  (580, .c [.p 36 0, .i .i64 (.ofNat 2), .i .i64 (.negSucc 0), .i .i64 (.ofNat 0), .i .i64 (.ofNat 0), .i .i64 (.ofNat 0), .sn]),
  (1678, .m [] 0),
  (1680, .c [.p 36 0, .i .i64 (.ofNat 134), .i .i64 (.ofNat 64), .i .i64 (.ofNat 1), .sn, .m 1678]),
  (17066, .m [] 0),
  (17067, .m [] 0),
  (17069, .c [.p 90 0, .p 17288 0, .i .i64 (.ofNat p1), .m 17066, .m 17067]),
  (17268, .m [(.s 1 47, .ag [.s 0 0, .i .i64 (.ofNat 0), .i .i64 (.ofNat 0), .i .i64 (.ofNat 0), .i .i64 (.ofNat 0), .i .i64 (.ofNat 0), .i .i64 (.ofNat 0)], 0)] 1),
  (17273, .c [.m 17268]),
  (17277, .m [] 0),
  (17279, .c [.m 17277]),
  (17283, .m [] 0),
  (17285, .c [.sn, .sn, .m 17283]),
  (17288, .c [.p 17273 0, .p 17279 0, .p 17285 0, .i .i64 (.ofNat 0)]),
  (17437, .m [(.i .i64 (.ofNat 0), .s 42 124974416921758852196702144158618350310321079141874203581260888576582414172747835681058463036450275328, 0), (.i .i64 (.ofNat 1), .s 42 124974416921758852196702144158618350310321079141874203581260888576582414172747835681058463036450275328, 1)] 2),
  (17438, .m [] 0),
  (17439, .m [] 0),
  (17441, .c [.i .i64 (.ofNat 262), .m 17437, .sn, .m 17438, .m 17439, .i .i64 (.negSucc 0), .b false]),
  (17492, .m [] 0),
  (17493, .m [] 0),
  (17495, .c [.p 17441 0, .p 17504 0, .p 17985 0, .p 19085 0, .i .i64 (.ofNat 2), .i .i64 (.ofNat 3), .i .i64 (.ofNat 1), .i .i64 (.ofNat 0), .i .i64 (.ofNat p2), .m 84292, .mn, .mn, .i .i64 (.ofNat 0), .i .i64 (.ofNat 0), .m 17492, .i .i64 (.ofNat 0), .i .i64 (.ofNat 0), .i .i64 (.ofNat 0), .sn, .m 17493, .b false, .i .i64 (.ofNat 0), .i .i64 (.ofNat 0), .i .i64 (.ofNat p3), .sn, .i .i64 (.ofNat 0)]),
  (17504, .c [.p 17441 0, .i .i64 (.ofNat 1), .i .i64 (.ofNat 1), .i .i64 (.ofNat 2), .i .i64 (.ofNat 1), .i .i64 (.ofNat 0)]),
  (17985, .c [.p 17441 0, .i .i64 (.ofNat 2), .i .i64 (.negSucc 0), .i .i64 (.ofNat 0), .i .i64 (.ofNat 0), .i .i64 (.ofNat 0), .sn]),
  (19083, .m [] 0),
  (19085, .c [.p 17441 0, .i .i64 (.ofNat 134), .i .i64 (.ofNat 64), .i .i64 (.ofNat 1), .sn, .m 19083]),
  (34471, .m [] 0),
  (34472, .m [] 0),
  (34474, .c [.p 17495 0, .p 34693 0, .i .i64 (.ofNat p3), .m 34471, .m 34472]),
  (34673, .m [(.s 1 47, .ag [.s 0 0, .i .i64 (.ofNat 0), .i .i64 (.ofNat 0), .i .i64 (.ofNat 0), .i .i64 (.ofNat 0), .i .i64 (.ofNat 0), .i .i64 (.ofNat 0)], 0)] 1),
  (34678, .c [.m 34673]),
  (34682, .m [] 0),
  (34684, .c [.m 34682]),
  (34688, .m [] 0),
  (34690, .c [.sn, .sn, .m 34688]),
  (34693, .c [.p 34678 0, .p 34684 0, .p 34690 0, .i .i64 (.ofNat 0)]),
  (34842, .m [(.i .i64 (.ofNat 0), .s 42 70923648266469529658598112154738565158894424647932057420315920386828094611482252546426380488114438144, 0), (.i .i64 (.ofNat 1), .s 42 70923648266469529658598112154738565158894424647932057420315920386828094611482252546426380488114438144, 1)] 2),
  (34843, .m [] 0),
  (34844, .m [] 0),
  (34846, .c [.i .i64 (.ofNat 262), .m 34842, .sn, .m 34843, .m 34844, .i .i64 (.negSucc 0), .b false]),
  (34897, .m [] 0),
  (34898, .m [] 0),
  (34900, .c [.p 34846 0, .p 34909 0, .p 35390 0, .p 36490 0, .i .i64 (.ofNat 3), .i .i64 (.ofNat 3), .i .i64 (.ofNat 1), .i .i64 (.ofNat 0), .i .i64 (.ofNat p4), .m 71201, .mn, .mn, .i .i64 (.ofNat 0), .i .i64 (.ofNat 0), .m 34897, .i .i64 (.ofNat 0), .i .i64 (.ofNat 0), .i .i64 (.ofNat 0), .sn, .m 34898, .b false, .i .i64 (.ofNat 0), .i .i64 (.ofNat 0), .i .i64 (.ofNat p5), .sn, .i .i64 (.ofNat 0)]),
  (34909, .c [.p 34846 0, .i .i64 (.ofNat 1), .i .i64 (.ofNat 1), .i .i64 (.ofNat 3), .i .i64 (.ofNat 1), .i .i64 (.ofNat 0)]),
  (35390, .c [.p 34846 0, .i .i64 (.ofNat 2), .i .i64 (.negSucc 0), .i .i64 (.ofNat 0), .i .i64 (.ofNat 0), .i .i64 (.ofNat 0), .sn]),
  (36488, .m [] 0),
  (36490, .c [.p 34846 0, .i .i64 (.ofNat 134), .i .i64 (.ofNat 64), .i .i64 (.ofNat 1), .sn, .m 36488]),
  (51876, .m [] 0),
  (51877, .m [] 0),
  (51879, .c [.p 34900 0, .p 52098 0, .i .i64 (.ofNat p5), .m 51876, .m 51877]),
  (52078, .m [(.s 1 47, .ag [.s 0 0, .i .i64 (.ofNat 0), .i .i64 (.ofNat 0), .i .i64 (.ofNat 0), .i .i64 (.ofNat 0), .i .i64 (.ofNat 0), .i .i64 (.ofNat 0)], 0)] 1),
  (52083, .c [.m 52078]),
  (52087, .m [] 0),
  (52089, .c [.m 52087]),
  (52093, .m [] 0),
  (52095, .c [.sn, .sn, .m 52093]),
  (52098, .c [.p 52083 0, .p 52089 0, .p 52095 0, .i .i64 (.ofNat 0)]),
  (52218, .c [.p 36 0, .p 17441 0, .p 34846 0]),
  (52225, .c [.p 17069 0, .p 34474 0, .p 51879 0]),
  (71201, .m [(.i .i64 (.ofNat 3), .b true, 0)] 1),
  (74157, .m [(.i .i64 (.ofNat 1), .b true, 0)] 1),
  (84292, .m [(.i .i64 (.ofNat 2), .b true, 0)] 1),
  (84983, .c [dl, .i .i64 (.ofNat 1), .i .i64 (.ofNat 1), .i .i64 (.ofNat 3), .i .i64 (.ofNat 1), .i .i64 (.ofNat 1), .i .i64 (.ofNat 0), .i .i64 (.ofNat 0), .i .i64 (.ofNat 0), .i .i64 (.ofNat 0), .sn, .b false, .i .i64 (.ofNat 0), .i .i64 (.ofNat 0), .i .i64 (.ofNat 0), .i .i64 (.ofNat 0), .sn, .i .i64 (.ofNat 0), .s 0 0, dl, .i .i64 (.ofNat 2), .i .i64 (.ofNat 1), .i .i64 (.ofNat 3), .i .i64 (.ofNat 2), .i .i64 (.ofNat 1), .i .i64 (.ofNat 0), .i .i64 (.ofNat 0), .i .i64 (.ofNat 0), .i .i64 (.ofNat 0), .sn, .b false, .i .i64 (.ofNat 0), .i .i64 (.ofNat 0), .i .i64 (.ofNat 0), .i .i64 (.ofNat 0), .sn, .i .i64 (.ofNat 0), .s 0 0, dl, .i .i64 (.ofNat 3), .i .i64 (.ofNat 1), .i .i64 (.ofNat 1), .i .i64 (.ofNat 2), .i .i64 (.ofNat 1), .i .i64 (.ofNat 0), .i .i64 (.ofNat 0), .i .i64 (.ofNat 0), .i .i64 (.ofNat 0), .sn, .b false, .i .i64 (.ofNat 0), .i .i64 (.ofNat 0), .i .i64 (.ofNat 0), .i .i64 (.ofNat 0), .sn, .i .i64 (.ofNat 0), .s 0 0, dl, .i .i64 (.ofNat 4), .i .i64 (.ofNat 1), .i .i64 (.ofNat 1), .i .i64 (.ofNat 3), .i .i64 (.ofNat 1), .i .i64 (.ofNat 0), .i .i64 (.ofNat 0), .i .i64 (.ofNat 0), .i .i64 (.ofNat 0), .sn, .b false, .i .i64 (.ofNat 0), .i .i64 (.ofNat 0), .i .i64 (.ofNat 0), .i .i64 (.ofNat 0), .sn, .i .i64 (.ofNat 0), .s 0 0, dl, .i .i64 (.ofNat 5), .i .i64 (.ofNat 1), .i .i64 (.ofNat 2), .i .i64 (.ofNat 1), .i .i64 (.ofNat 1), .i .i64 (.ofNat 0), .i .i64 (.ofNat 0), .i .i64 (.ofNat 0), .i .i64 (.ofNat 0), .sn, .b false, .i .i64 (.ofNat 0), .i .i64 (.ofNat 0), .i .i64 (.ofNat 0), .i .i64 (.ofNat 0), .sn, .i .i64 (.ofNat 0), .s 0 0, dl, .i .i64 (.ofNat 6), .i .i64 (.ofNat 1), .i .i64 (.ofNat 2), .i .i64 (.ofNat 3), .i .i64 (.ofNat 1), .i .i64 (.ofNat 0), .i .i64 (.ofNat 0), .i .i64 (.ofNat 0), .i .i64 (.ofNat 0), .sn, .b false, .i .i64 (.ofNat 0), .i .i64 (.ofNat 0), .i .i64 (.ofNat 0), .i .i64 (.ofNat 0), .sn, .i .i64 (.ofNat 0), .s 0 0])]
noncomputable def cdHW3 (dl : AV) : List (Nat × AB) := [(17, .c [.sl 84983 0 6 19 none, .i .i64 (.ofNat 0), .i .i64 (.ofNat 6), .sl 52218 0 3 1 none, .sl 52225 0 3 1 none, .sn, .i .i64 (.ofNat 0), .i .i64 (.ofNat 6)]),
  (32, .m [(.i .i64 (.ofNat 0), .s 42 41430776805889345117510993879931070453109953236564388509908491416436917432027003098594065520804233216, 0), (.i .i64 (.ofNat 1), .s 42 41430776805889345117510993879931070453109953236564388509908491416436917432027003098594065520804233216, 1)] 2),
  (33, .m [] 0),
  (34, .m [] 0),
  (36, .c [.i .i64 (.ofNat 262), .m 32, .sn, .m 33, .m 34, .i .i64 (.negSucc 0), .b false]),
  (87, .m [] 0),
  (88, .m [] 0),
  (90, .c [.p 36 0, .p 99 0, .p 580 0, .p 1680 0, .i .i64 (.ofNat 1), .i .i64 (.ofNat 3), .i .i64 (.ofNat 1), .i .i64 (.ofNat 0), .any, .m 74157, .mn, .mn, .i .i64 (.ofNat 0), .i .i64 (.ofNat 0), .m 87, .i .i64 (.ofNat 0), .i .i64 (.ofNat 0), .i .i64 (.ofNat 0), .sn, .m 88, .b false, .i .i64 (.ofNat 0), .i .i64 (.ofNat 0), .any, .sn, .i .i64 (.ofNat 0)]),
  (99, .c [.p 36 0, .i .i64 (.ofNat 1), .i .i64 (.ofNat 1), .i .i64 (.ofNat 1), .i .i64 (.ofNat 1), .i .i64 (.ofNat 0)]),
  (580, .c [.p 36 0, .i .i64 (.ofNat 2), .i .i64 (.negSucc 0), .i .i64 (.ofNat 0), .i .i64 (.ofNat 0), .i .i64 (.ofNat 0), .sn]),
  (1678, .m [] 0),
  (1680, .c [.p 36 0, .i .i64 (.ofNat 134), .i .i64 (.ofNat 64), .i .i64 (.ofNat 1), .sn, .m 1678]),
  (17066, .m [] 0),
  (17067, .m [] 0),
  (17069, .c [.p 90 0, .p 17288 0, .any, .m 17066, .m 17067]),
  (17268, .m [(.s 1 47, .ag [.s 0 0, .i .i64 (.ofNat 0), .i .i64 (.ofNat 0), .i .i64 (.ofNat 0), .i .i64 (.ofNat 0), .i .i64 (.ofNat 0), .i .i64 (.ofNat 0)], 0)] 1),
  (17273, .c [.m 17268]),
  (17277, .m [] 0),
  (17279, .c [.m 17277]),
  (17283, .m [] 0),
  (17285, .c [.sn, .sn, .m 17283]),
  (17288, .c [.p 17273 0, .p 17279 0, .p 17285 0, .i .i64 (.ofNat 0)]),
  (17437, .m [(.i .i64 (.ofNat 0), .s 42 124974416921758852196702144158618350310321079141874203581260888576582414172747835681058463036450275328, 0), (.i .i64 (.ofNat 1), .s 42 124974416921758852196702144158618350310321079141874203581260888576582414172747835681058463036450275328, 1)] 2),
  (17438, .m [] 0),
  (17439, .m [] 0),
  (17441, .c [.i .i64 (.ofNat 262), .m 17437, .sn, .m 17438, .m 17439, .i .i64 (.negSucc 0), .b false]),
  (17492, .m [] 0),
  (17493, .m [] 0),
  (17495, .c [.p 17441 0, .p 17504 0, .p 17985 0, .p 19085 0, .i .i64 (.ofNat 2), .i .i64 (.ofNat 3), .i .i64 (.ofNat 1), .i .i64 (.ofNat 0), .any, .m 84292, .mn, .mn, .i .i64 (.ofNat 0), .i .i64 (.ofNat 0), .m 17492, .i .i64 (.ofNat 0), .i .i64 (.ofNat 0), .i .i64 (.ofNat 0), .sn, .m 17493, .b false, .i .i64 (.ofNat 0), .i .i64 (.ofNat 0), .any, .sn, .i .i64 (.ofNat 0)]),
  (17504, .c [.p 17441 0, .i .i64 (.ofNat 1), .i .i64 (.ofNat 1), .i .i64 (.ofNat 2), .i .i64 (.ofNat 1), .i .i64 (.ofNat 0)]),
  (17985, .c [.p 17441 0, .i .i64 (.ofNat 2), .i .i64 (.negSucc 0), .i .i64 (.ofNat 0), .i .i64 (.ofNat 0), .i .i64 (.ofNat 0), .sn]),
  (19083, .m [] 0),
  (19085, .c [.p 17441 0, .i .i64 (.ofNat 134), .i .i64 (.ofNat 64), .i .i64 (.ofNat 1), .sn, .m 19083]),
  (34471, .m [] 0),
  (34472, .m [] 0),
  (34474, .c [.p 17495 0, .p 34693 0, .any, .m 34471, .m 34472]),
  (34673, .m [(.s 1 47, .ag [.s 0 0, .i .i64 (.ofNat 0), .i .i64 (.ofNat 0), .i .i64 (.ofNat 0), .i .i64 (.ofNat 0), .i .i64 (.ofNat 0), .i .i64 (.ofNat 0)], 0)] 1),
  (34678, .c [.m 34673]),
  (34682, .m [] 0),
  (34684, .c [.m 34682]),
  (34688, .m [] 0),
  (34690, .c [.sn, .sn, .m 34688]),
  (34693, .c [.p 34678 0, .p 34684 0, .p 34690 0, .i .i64 (.ofNat 0)]),
  (34842, .m [(.i .i64 (.ofNat 0), .s 42 70923648266469529658598112154738565158894424647932057420315920386828094611482252546426380488114438144, 0), (.i .i64 (.ofNat 1), .s 42 70923648266469529658598112154738565158894424647932057420315920386828094611482252546426380488114438144, 1)] 2),
  (34843, .m [] 0),
  (34844, .m [] 0),
  (34846, .c [.i .i64 (.ofNat 262), .m 34842, .sn, .m 34843, .m 34844, .i .i64 (.negSucc 0), .b false]),
  (34897, .m [] 0),
  (34898, .m [] 0),
  (34900, .c [.p 34846 0, .p 34909 0, .p 35390 0, .p 36490 0, .i .i64 (.ofNat 3), .i .i64 (.ofNat 3), .i .i64 (.ofNat 1), .i .i64 (.ofNat 0), .any, .m 71201, .mn, .mn, .i .i64 (.ofNat 0), .i .i64 (.ofNat 0), .m 34897, .i .i64 (.ofNat 0), .i .i64 (.ofNat 0), .i .i64 (.ofNat 0), .sn, .m 34898, .b false, .i .i64 (.ofNat 0), .i .i64 (.ofNat 0), .any, .sn, .i .i64 (.ofNat 0)]),
  (34909, .c [.p 34846 0, .i .i64 (.ofNat 1), .i .i64 (.ofNat 1), .i .i64 (.ofNat 3), .i .i64 (.ofNat 1), .i .i64 (.ofNat 0)]),
  (35390, .c [.p 34846 0, .i .i64 (.ofNat 2), .i .i64 (.negSucc 0), .i .i64 (.ofNat 0), .i .i64 (.ofNat 0), .i .i64 (.ofNat 0), .sn]),
  (36488, .m [] 0),
  (36490, .c [.p 34846 0, .i .i64 (.ofNat 134), .i .i64 (.ofNat 64), .i .i64 (.ofNat 1), .sn, .m 36488]),
  (51876, .m [] 0),
  (51877, .m [] 0),
  (51879, .c [.p 34900 0, .p 52098 0, .any, .m 51876, .m 51877]),
  (52078, .m [(.s 1 47, .ag [.s 0 0, .i .i64 (.ofNat 0), .i .i64 (.ofNat 0), .i .i64 (.ofNat 0), .i .i64 (.ofNat 0), .i .i64 (.ofNat 0), .i .i64 (.ofNat 0)], 0)] 1),
  (52083, .c [.m 52078]),
  (52087, .m [] 0),
  (52089, .c [.m 52087]),
  (52093, .m [] 0),
  (52095, .c [.sn, .sn, .m 52093]),
  (52098, .c [.p 52083 0, .p 52089 0, .p 52095 0, .i .i64 (.ofNat 0)]),
  (52218, .c [.p 36 0, .p 17441 0, .p 34846 0]),
  (52225, .c [.p 17069 0, .p 34474 0, .p 51879 0]),
  (71201, .m [(.i .i64 (.ofNat 3), .b true, 0)] 1),
  (74157, .m [(.i .i64 (.ofNat 1), .b true, 0)] 1),
  (84292, .m [(.i .i64 (.ofNat 2), .b true, 0)] 1),
  (84983, .c [dl, .i .i64 (.ofNat 1), .i .i64 (.ofNat 1), .i .i64 (.ofNat 3), .i .i64 (.ofNat 1), .i .i64 (.ofNat 1), .i .i64 (.ofNat 0), .i .i64 (.ofNat 0), .i .i64 (.ofNat 0), .i .i64 (.ofNat 0), .sn, .b false, .i .i64 (.ofNat 0), .i .i64 (.ofNat 0), .i .i64 (.ofNat 0), .i .i64 (.ofNat 0), .sn, .i .i64 (.ofNat 0), .s 0 0, dl, .i .i64 (.ofNat 2), .i .i64 (.ofNat 1), .i .i64 (.ofNat 3), .i .i64 (.ofNat 2), .i .i64 (.ofNat 1), .i .i64 (.ofNat 0), .i .i64 (.ofNat 0), .i .i64 (.ofNat 0), .i .i64 (.ofNat 0), .sn, .b false, .i .i64 (.ofNat 0), .i .i64 (.ofNat 0), .i .i64 (.ofNat 0), .i .i64 (.ofNat 0), .sn, .i .i64 (.ofNat 0), .s 0 0, dl, .i .i64 (.ofNat 3), .i .i64 (.ofNat 1), .i .i64 (.ofNat 1), .i .i64 (.ofNat 2), .i .i64 (.ofNat 1), .i .i64 (.ofNat 0), .i .i64 (.ofNat 0), .i .i64 (.ofNat 0), .i .i64 (.ofNat 0), .sn, .b false, .i .i64 (.ofNat 0), .i .i64 (.ofNat 0), .i .i64 (.ofNat 0), .i .i64 (.ofNat 0), .sn, .i .i64 (.ofNat 0), .s 0 0, dl, .i .i64 (.ofNat 4), .i .i64 (.ofNat 1), .i .i64 (.ofNat 1), .i .i64 (.ofNat 3), .i .i64 (.ofNat 1), .i .i64 (.ofNat 0), .i .i64 (.ofNat 0), .i .i64 (.ofNat 0), .i .i64 (.ofNat 0), .sn, .b false, .i .i64 (.ofNat 0), .i .i64 (.ofNat 0), .i .i64 (.ofNat 0), .i .i64 (.ofNat 0), .sn, .i .i64 (.ofNat 0), .s 0 0, dl, .i .i64 (.ofNat 5), .i .i64 (.ofNat 1), .i .i64 (.ofNat 2), .i .i64 (.ofNat 1), .i .i64 (.ofNat 1), .i .i64 (.ofNat 0), .i .i64 (.ofNat 0), .i .i64 (.ofNat 0), .i .i64 (.ofNat 0), .sn, .b false, .i .i64 (.ofNat 0), .i .i64 (.ofNat 0), .i .i64 (.ofNat 0), .i .i64 (.ofNat 0), .sn, .i .i64 (.ofNat 0), .s 0 0, dl, .i .i64 (.ofNat 6), .i .i64 (.ofNat 1), .i .i64 (.ofNat 2), .i .i64 (.ofNat 3), .i .i64 (.ofNat 1), .i .i64 (.ofNat 0), .i .i64 (.ofNat 0), .i .i64 (.ofNat 0), .i .i64 (.ofNat 0), .sn, .b false, .i .i64 (.ofNat 0), .i .i64 (.ofNat 0), .i .i64 (.ofNat 0), .i .i64 (.ofNat 0), .sn, .i .i64 (.ofNat 0), .s 0 0])]
def cdG53 (dl v : AV) : LE := [(0, v), (1, .x 8), (7, .p 17 0), (9, .i .i64 (.ofNat 53)), (29, .b true), (2, dl), (8, .i .i64 (.ofNat 0)), (6, .b false), (26, .b false), (14, .b false)]
noncomputable def cdA53 (dl v : AV) : LSt := .mk 10 cdIA (cdG53 dl v) (cdHp3 dl 5 18 0 18 5 17) 85042 []
def cdGX53 (dl : AV) : LE := [(0, cI 53), (1, .x 8), (7, .p 17 0), (9, .i .i64 (.ofNat 53)), (29, .b false), (2, dl), (8, .i .i64 (.ofNat 0)), (6, .b false), (26, .b false), (14, .b false)]
noncomputable def cdX53 (dl : AV) : LSt := .mk 10 cdIX (cdGX53 dl) (cdHp3 dl 5 18 0 18 5 17) 85045 []
def cdGB53 (dl : AV) : LE := [(0, .x 7), (1, .x 8), (7, .p 17 0), (9, .i .i64 (.ofNat 53)), (29, .b true), (2, dl), (8, .i .i64 (.ofNat 0)), (6, .b false), (26, .b false), (14, .b false)]
noncomputable def cdB53 (dl : AV) : LSt := .mk 10 cdIB (cdGB53 dl) (cdHp3 dl 5 18 0 18 5 17) 85045 []
def cdG54 (dl v : AV) : LE := [(0, v), (1, .x 8), (7, .p 17 0), (9, .i .i64 (.ofNat 54)), (29, .b true), (2, dl), (8, .i .i64 (.ofNat 0)), (6, .b false), (26, .b false), (14, .b false)]
noncomputable def cdA54 (dl v : AV) : LSt := .mk 10 cdIA (cdG54 dl v) (cdHp3 dl 5 18 0 18 6 18) 85519 []
def cdGX54 (dl : AV) : LE := [(0, cI 54), (1, .x 8), (7, .p 17 0), (9, .i .i64 (.ofNat 54)), (29, .b false), (2, dl), (8, .i .i64 (.ofNat 0)), (6, .b false), (26, .b false), (14, .b false)]
noncomputable def cdX54 (dl : AV) : LSt := .mk 10 cdIX (cdGX54 dl) (cdHp3 dl 5 18 0 18 6 18) 85522 []
def cdGB54 (dl : AV) : LE := [(0, .x 7), (1, .x 8), (7, .p 17 0), (9, .i .i64 (.ofNat 54)), (29, .b true), (2, dl), (8, .i .i64 (.ofNat 0)), (6, .b false), (26, .b false), (14, .b false)]
noncomputable def cdB54 (dl : AV) : LSt := .mk 10 cdIB (cdGB54 dl) (cdHp3 dl 5 18 0 18 6 18) 85522 []
def cdG55 (dl v : AV) : LE := [(0, v), (1, .x 8), (7, .p 17 0), (9, .i .i64 (.ofNat 55)), (29, .b true), (2, dl), (8, .i .i64 (.ofNat 0)), (6, .b false), (26, .b false), (14, .b false)]
noncomputable def cdA55 (dl v : AV) : LSt := .mk 10 cdIA (cdG55 dl v) (cdHp3 dl 6 19 0 18 6 18) 85996 []
def cdGX55 (dl : AV) : LE := [(0, cI 55), (1, .x 8), (7, .p 17 0), (9, .i .i64 (.ofNat 55)), (29, .b false), (2, dl), (8, .i .i64 (.ofNat 0)), (6, .b false), (26, .b false), (14, .b false)]
noncomputable def cdX55 (dl : AV) : LSt := .mk 10 cdIX (cdGX55 dl) (cdHp3 dl 6 19 0 18 6 18) 85999 []
def cdGB55 (dl : AV) : LE := [(0, .x 7), (1, .x 8), (7, .p 17 0), (9, .i .i64 (.ofNat 55)), (29, .b true), (2, dl), (8, .i .i64 (.ofNat 0)), (6, .b false), (26, .b false), (14, .b false)]
noncomputable def cdB55 (dl : AV) : LSt := .mk 10 cdIB (cdGB55 dl) (cdHp3 dl 6 19 0 18 6 18) 85999 []
def cdG56 (dl v : AV) : LE := [(0, v), (1, .x 8), (7, .p 17 0), (9, .i .i64 (.ofNat 56)), (29, .b true), (2, dl), (8, .i .i64 (.ofNat 0)), (6, .b false), (26, .b false), (14, .b false)]
noncomputable def cdA56 (dl v : AV) : LSt := .mk 10 cdIA (cdG56 dl v) (cdHp3 dl 6 19 1 19 6 18) 86473 []
def cdGX56 (dl : AV) : LE := [(0, cI 56), (1, .x 8), (7, .p 17 0), (9, .i .i64 (.ofNat 56)), (29, .b false), (2, dl), (8, .i .i64 (.ofNat 0)), (6, .b false), (26, .b false), (14, .b false)]
noncomputable def cdX56 (dl : AV) : LSt := .mk 10 cdIX (cdGX56 dl) (cdHp3 dl 6 19 1 19 6 18) 86476 []
def cdGB56 (dl : AV) : LE := [(0, .x 7), (1, .x 8), (7, .p 17 0), (9, .i .i64 (.ofNat 56)), (29, .b true), (2, dl), (8, .i .i64 (.ofNat 0)), (6, .b false), (26, .b false), (14, .b false)]
noncomputable def cdB56 (dl : AV) : LSt := .mk 10 cdIB (cdGB56 dl) (cdHp3 dl 6 19 1 19 6 18) 86476 []
def cdG57 (dl v : AV) : LE := [(0, v), (1, .x 8), (7, .p 17 0), (9, .i .i64 (.ofNat 57)), (29, .b true), (2, dl), (8, .i .i64 (.ofNat 0)), (6, .b false), (26, .b false), (14, .b false)]
noncomputable def cdA57 (dl v : AV) : LSt := .mk 10 cdIA (cdG57 dl v) (cdHp3 dl 6 19 1 19 7 19) 86950 []
def cdGX57 (dl : AV) : LE := [(0, cI 57), (1, .x 8), (7, .p 17 0), (9, .i .i64 (.ofNat 57)), (29, .b false), (2, dl), (8, .i .i64 (.ofNat 0)), (6, .b false), (26, .b false), (14, .b false)]
noncomputable def cdX57 (dl : AV) : LSt := .mk 10 cdIX (cdGX57 dl) (cdHp3 dl 6 19 1 19 7 19) 86953 []
def cdGB57 (dl : AV) : LE := [(0, .x 7), (1, .x 8), (7, .p 17 0), (9, .i .i64 (.ofNat 57)), (29, .b true), (2, dl), (8, .i .i64 (.ofNat 0)), (6, .b false), (26, .b false), (14, .b false)]
noncomputable def cdB57 (dl : AV) : LSt := .mk 10 cdIB (cdGB57 dl) (cdHp3 dl 6 19 1 19 7 19) 86953 []
def cdG58 (dl v : AV) : LE := [(0, v), (1, .x 8), (7, .p 17 0), (9, .i .i64 (.ofNat 58)), (29, .b true), (2, dl), (8, .i .i64 (.ofNat 0)), (6, .b false), (26, .b false), (14, .b false)]
noncomputable def cdA58 (dl v : AV) : LSt := .mk 10 cdIA (cdG58 dl v) (cdHp3 dl 7 20 1 19 7 19) 87427 []
def cdGX58 (dl : AV) : LE := [(0, cI 58), (1, .x 8), (7, .p 17 0), (9, .i .i64 (.ofNat 58)), (29, .b false), (2, dl), (8, .i .i64 (.ofNat 0)), (6, .b false), (26, .b false), (14, .b false)]
noncomputable def cdX58 (dl : AV) : LSt := .mk 10 cdIX (cdGX58 dl) (cdHp3 dl 7 20 1 19 7 19) 87430 []
def cdGB58 (dl : AV) : LE := [(0, .x 7), (1, .x 8), (7, .p 17 0), (9, .i .i64 (.ofNat 58)), (29, .b true), (2, dl), (8, .i .i64 (.ofNat 0)), (6, .b false), (26, .b false), (14, .b false)]
noncomputable def cdB58 (dl : AV) : LSt := .mk 10 cdIB (cdGB58 dl) (cdHp3 dl 7 20 1 19 7 19) 87430 []
def cdG59 (dl v : AV) : LE := [(0, v), (1, .x 8), (7, .p 17 0), (9, .i .i64 (.ofNat 59)), (29, .b true), (2, dl), (8, .i .i64 (.ofNat 0)), (6, .b false), (26, .b false), (14, .b false)]
noncomputable def cdA59 (dl v : AV) : LSt := .mk 10 cdIA (cdG59 dl v) (cdHp3 dl 7 20 2 20 7 19) 87904 []
def cdGX59 (dl : AV) : LE := [(0, cI 59), (1, .x 8), (7, .p 17 0), (9, .i .i64 (.ofNat 59)), (29, .b false), (2, dl), (8, .i .i64 (.ofNat 0)), (6, .b false), (26, .b false), (14, .b false)]
noncomputable def cdX59 (dl : AV) : LSt := .mk 10 cdIX (cdGX59 dl) (cdHp3 dl 7 20 2 20 7 19) 87907 []
def cdGB59 (dl : AV) : LE := [(0, .x 7), (1, .x 8), (7, .p 17 0), (9, .i .i64 (.ofNat 59)), (29, .b true), (2, dl), (8, .i .i64 (.ofNat 0)), (6, .b false), (26, .b false), (14, .b false)]
noncomputable def cdB59 (dl : AV) : LSt := .mk 10 cdIB (cdGB59 dl) (cdHp3 dl 7 20 2 20 7 19) 87907 []
def cdG60 (dl v : AV) : LE := [(0, v), (1, .x 8), (7, .p 17 0), (9, .i .i64 (.ofNat 60)), (29, .b true), (2, dl), (8, .i .i64 (.ofNat 0)), (6, .b false), (26, .b false), (14, .b false)]
noncomputable def cdA60 (dl v : AV) : LSt := .mk 10 cdIA (cdG60 dl v) (cdHp3 dl 7 20 2 20 8 20) 88381 []
def cdGX60 (dl : AV) : LE := [(0, cI 60), (1, .x 8), (7, .p 17 0), (9, .i .i64 (.ofNat 60)), (29, .b false), (2, dl), (8, .i .i64 (.ofNat 0)), (6, .b false), (26, .b false), (14, .b false)]
noncomputable def cdX60 (dl : AV) : LSt := .mk 10 cdIX (cdGX60 dl) (cdHp3 dl 7 20 2 20 8 20) 88384 []
def cdGB60 (dl : AV) : LE := [(0, .x 7), (1, .x 8), (7, .p 17 0), (9, .i .i64 (.ofNat 60)), (29, .b true), (2, dl), (8, .i .i64 (.ofNat 0)), (6, .b false), (26, .b false), (14, .b false)]
noncomputable def cdB60 (dl : AV) : LSt := .mk 10 cdIB (cdGB60 dl) (cdHp3 dl 7 20 2 20 8 20) 88384 []
def cdG61 (dl v : AV) : LE := [(0, v), (1, .x 8), (7, .p 17 0), (9, .i .i64 (.ofNat 61)), (29, .b true), (2, dl), (8, .i .i64 (.ofNat 0)), (6, .b false), (26, .b false), (14, .b false)]
noncomputable def cdA61 (dl v : AV) : LSt := .mk 10 cdIA (cdG61 dl v) (cdHp3 dl 8 21 2 20 8 20) 88858 []
def cdGX61 (dl : AV) : LE := [(0, cI 61), (1, .x 8), (7, .p 17 0), (9, .i .i64 (.ofNat 61)), (29, .b false), (2, dl), (8, .i .i64 (.ofNat 0)), (6, .b false), (26, .b false), (14, .b false)]
noncomputable def cdX61 (dl : AV) : LSt := .mk 10 cdIX (cdGX61 dl) (cdHp3 dl 8 21 2 20 8 20) 88861 []
def cdGB61 (dl : AV) : LE := [(0, .x 7), (1, .x 8), (7, .p 17 0), (9, .i .i64 (.ofNat 61)), (29, .b true), (2, dl), (8, .i .i64 (.ofNat 0)), (6, .b false), (26, .b false), (14, .b false)]
noncomputable def cdB61 (dl : AV) : LSt := .mk 10 cdIB (cdGB61 dl) (cdHp3 dl 8 21 2 20 8 20) 88861 []
def cdG62 (dl v : AV) : LE := [(0, v), (1, .x 8), (7, .p 17 0), (9, .i .i64 (.ofNat 62)), (29, .b true), (2, dl), (8, .i .i64 (.ofNat 0)), (6, .b false), (26, .b false), (14, .b false)]
noncomputable def cdA62 (dl v : AV) : LSt := .mk 10 cdIA (cdG62 dl v) (cdHp3 dl 8 21 3 21 8 20) 89335 []
def cdGX62 (dl : AV) : LE := [(0, cI 62), (1, .x 8), (7, .p 17 0), (9, .i .i64 (.ofNat 62)), (29, .b false), (2, dl), (8, .i .i64 (.ofNat 0)), (6, .b false), (26, .b false), (14, .b false)]
noncomputable def cdX62 (dl : AV) : LSt := .mk 10 cdIX (cdGX62 dl) (cdHp3 dl 8 21 3 21 8 20) 89338 []
def cdGB62 (dl : AV) : LE := [(0, .x 7), (1, .x 8), (7, .p 17 0), (9, .i .i64 (.ofNat 62)), (29, .b true), (2, dl), (8, .i .i64 (.ofNat 0)), (6, .b false), (26, .b false), (14, .b false)]
noncomputable def cdB62 (dl : AV) : LSt := .mk 10 cdIB (cdGB62 dl) (cdHp3 dl 8 21 3 21 8 20) 89338 []
def cdG63 (dl v : AV) : LE := [(0, v), (1, .x 8), (7, .p 17 0), (9, .i .i64 (.ofNat 63)), (29, .b true), (2, dl), (8, .i .i64 (.ofNat 0)), (6, .b false), (26, .b false), (14, .b false)]
noncomputable def cdA63 (dl v : AV) : LSt := .mk 10 cdIA (cdG63 dl v) (cdHp3 dl 8 21 3 21 9 21) 89812 []
def cdGX63 (dl : AV) : LE := [(0, cI 63), (1, .x 8), (7, .p 17 0), (9, .i .i64 (.ofNat 63)), (29, .b false), (2, dl), (8, .i .i64 (.ofNat 0)), (6, .b false), (26, .b false), (14, .b false)]
noncomputable def cdX63 (dl : AV) : LSt := .mk 10 cdIX (cdGX63 dl) (cdHp3 dl 8 21 3 21 9 21) 89815 []
def cdGW3 (dl : AV) : LE := [(0, .any), (1, .x 8), (7, .p 17 0), (9, .any), (29, .any), (2, dl), (8, .i .i64 (.ofNat 0)), (6, .b false), (26, .any), (14, .any)]
noncomputable def cdWs3 (dl : AV) : LSt := .mk 10 cdIX (cdGW3 dl) (cdHW3 dl) 89815 []

end Go.Proofs.YtegafdkhbgojcaaGreatDoor.Ek
