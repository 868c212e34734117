import Derived.Test.YtlobhcgbmpcdlaaGreatDoorBmF
import Derived.Test.YtlobhcgbmpcdlaaGreatDoorProg
import Derived.KernelRfl
namespace Go.Proofs.YtlobhcgbmpcdlaaGreatDoor.R
noncomputable section
open Go Go.Bm Go.Proofs
set_option linter.unusedVariables false
set_option linter.unusedSimpArgs false
set_option maxRecDepth 100000
abbrev XPm : Type := List UInt8 × Int
abbrev v8 : CT := (.prod .str (.int .i64))
abbrev XN : Type := Int × Int × Int × Int × Int × List UInt8
abbrev XNc : CT := (.prod (.int .i64) (.prod (.int .i64) (.prod (.int .i64) (.prod (.int .i64) (.prod (.int .i64) .str)))))
abbrev XK : Type := Int × XPm
abbrev XKc : CT := (.prod (.int .i64) v8)
abbrev XEq : Type := List UInt8 × List XN
abbrev P6 : CT := (.prod .str (.list XNc))
abbrev XIt : Type := Int × List UInt8 × Int × List XN × List XN × List (List XN)
abbrev D9 : CT := (.prod (.int .i64) (.prod .str (.prod (.int .i64) (.prod (.list XNc) (.prod (.list XNc) (.list (.list XNc)))))))
abbrev XUn : Type := Bool × List UInt8 × List XPm × List UInt8 × Int × List XPm × List XEq × List XIt
abbrev n4 : CT := (.prod .bool (.prod .str (.prod (.list v8) (.prod .str (.prod (.int .i64) (.prod (.list v8) (.prod (.list P6) (.list D9))))))))
abbrev XPg : Type := List XUn × List UInt8 × List UInt8
abbrev H4 : CT := (.prod (.list n4) (.prod .str .str))
def c6E : OrdT := (.only 35 .done)
def c6F : OrdT := (.take 34 c6E)
def c6G : OrdT := (.take 33 c6F)
def c6H : OrdT := (.only 32 c6G)
def c6I : OrdT := (.take 31 c6H)
def c6J : OrdT := (.take 30 c6I)
def c6K : OrdT := (.only 29 c6J)
def c6L : OrdT := (.take 28 c6K)
def c6M : OrdT := (.take 27 c6L)
def c6N : OrdT := (.only 26 c6M)
def c6O : OrdT := (.take 25 c6N)
def c6P : OrdT := (.take 24 c6O)
def c1I : OrdT := (.only 23 c6P)
def a8x : OrdT := (.only 18 c1I)
def R3 : OrdT := (.only 13 a8x)
def b3k : OrdT := (.alt 18 (.only 22 c1I) (.only 22 a8x))
def a0p : OrdT := (.alt 13 (.only 17 a8x) (.only 17 R3))
def c6Q : OrdT := (.take 25 (.only 26 .done))
def c6R : OrdT := (.only 23 (.take 24 c6Q))
def c6S : OrdT := (.take 21 (.take 22 c6R))
def c6T : OrdT := (.take 19 (.only 20 c6S))
def R4 : OrdT := (.only 17 (.take 18 c6T))
def a0q : OrdT := (.alt 13 b3k (.only 22 R3))
def a4Q : OrdT := (.take 14 (.take 15 (.only 16 .done)))
def c1J : OrdT := (.take 11 (.take 12 (.take 13 (.only 14 .done))))
def b3l : OrdT := (.take 5 (.take 6 (.take 7 (.take 8 (.take 9 (.only 10 (.only 11 .done)))))))
def b6A : OrdT := (.take 4 (.take 6 (.take 7 (.take 8 (.alt 5 (.only 9 (.only 10 c1J)) (.only 9 (.only 5 (.only 10 c1J))))))))
def F5 : OrdT := (.only 8 R3)
def c1K : OrdT := (.only 1 (.take 2 (.take 3 (.take 4 (.take 5 (.take 6 (.take 8 (.take 9 (.take 10 (.alt 7 (.only 11 (.take 12 (.take 13 (.take 14 .done)))) (.only 11 (.take 12 (.only 7 (.take 13 (.take 14 .done)))))))))))))))
def c1L : OrdT := (.take 20 (.take 21 (.alt 18 (.only 22 (.take 23 (.take 24 (.take 25 (.take 26 (.take 27 (.take 28 .done))))))) (.only 22 (.only 18 (.take 23 (.take 24 (.take 25 (.take 26 (.take 27 (.take 28 .done)))))))))))
def b5y : Tabs := {
 tabL := [(3, .leaf (.int .i64 0)),
 (4, .leaf (.bool false)),
 (5, .leaf (.int .u8 0)),
 (9, .leaf (.str [])),
 (21, .leaf (.int .i32 0)),
 (22, .slice n4 42),
 (24, .struct [(0, 1, false), (1, 1, false), (2, 1, false)] [.nils, .str [], .str []]),
 (30, .leaf (.int .i64 0)),
 (32, .struct [(0, 1, false), (1, 1, false)] [.int .i64 0, .int .i64 0]),
 (36, .slice v8 38),
 (38, .struct [(0, 1, false), (1, 1, false)] [.str [], .int .i64 0]),
 (39, .slice P6 46),
 (40, .slice D9 49),
 (42, .struct [(0, 1, false), (1, 1, false), (2, 1, false), (3, 2, true), (5, 1, false), (6, 1, false), (7, 1, false)] [.bool false, .str [], .nils, .str [], .int .i64 0, .nils, .nils, .nils]),
 (44, .slice XNc 135),
 (46, .struct [(0, 1, false), (1, 1, false)] [.str [], .nils]),
 (47, .slice (.list XNc) 44),
 (49, .struct [(0, 1, false), (1, 1, false), (2, 1, false), (3, 1, false), (4, 1, false), (5, 1, false)] [.int .i64 0, .str [], .int .i64 0, .nils, .nils, .nils]),
 (51, .slice XKc 88),
 (53, .struct [(0, 1, false)] [.nils]),
 (59, .leaf (.nilf)),
 (74, .struct [(0, 1, false), (1, 1, false), (2, 2, true)] [.nils, .int .i64 0, .int .i64 0, .int .i64 0]),
 (86, .slice .str 9),
 (88, .struct [(0, 1, false), (1, 1, false), (2, 1, false)] [.int .i64 0, .str [], .int .i64 0]),
 (90, .slice (.int .u8) 5),
 (105, .leaf (.nilf)),
 (107, .leaf (.nilf)),
 (109, .leaf (.nilf)),
 (112, .leaf (.nilf)),
 (135, .struct [(0, 1, false), (1, 1, false), (2, 1, false), (3, 1, false), (4, 1, false), (5, 1, false)] [.int .i64 0, .int .i64 0, .int .i64 0, .int .i64 0, .int .i64 0, .str []]),
 (144, .struct [(0, 1, false), (1, 1, false)] [.nils, .nils]),
 (151, .leaf (.int .u64 0)),
 (158, .slice (.int .i64) 3),
 (162, .slice .bool 4),
 (170, .struct [(0, 1, false), (1, 1, false)] [.str [], .int .i64 0]),
 (178, .leaf (.nilp)),
 (179, .slice .unit 178),
 (183, .struct [(0, 1, false), (1, 1, false), (2, 1, false), (3, 2, true)] [.nils, .int .i64 0, .int .i64 0, .int .i64 0, .int .i64 0]),
 (184, .arr v8 28 true [.str [], .int .i64 0, .str [], .int .i64 0, .str [], .int .i64 0, .str [], .int .i64 0, .str [], .int .i64 0, .str [], .int .i64 0, .str [], .int .i64 0, .str [], .int .i64 0, .str [], .int .i64 0, .str [], .int .i64 0, .str [], .int .i64 0, .str [], .int .i64 0, .str [], .int .i64 0, .str [], .int .i64 0, .str [], .int .i64 0, .str [], .int .i64 0, .str [], .int .i64 0, .str [], .int .i64 0, .str [], .int .i64 0, .str [], .int .i64 0, .str [], .int .i64 0, .str [], .int .i64 0, .str [], .int .i64 0, .str [], .int .i64 0, .str [], .int .i64 0, .str [], .int .i64 0, .str [], .int .i64 0, .str [], .int .i64 0])]
 eqtL := [38, 135]
 keysL := [(3, [0]), (4, [173]), (5, [174]), (6, [175]), (7, [176]), (8, [177]), (9, [1]), (10, [2]), (11, [66]), (12, [155]), (13, [67]), (14, [156]), (15, [150]), (16, [132]), (17, [141]), (18, [3]), (19, [112]), (20, [113]), (21, [130]), (22, [162]), (23, [68]), (24, [76]), (25, [80]), (26, [12]), (27, [157]), (28, [151]), (29, [133]), (30, [134]), (31, [135]), (32, [136]), (33, [137]), (34, [140]), (35, [142]), (36, [4]), (37, [15, 22]), (38, [17, 29]), (39, [20]), (40, [28]), (41, [24]), (42, [21]), (43, [16, 23]), (44, [18, 26]), (45, [114]), (46, [117]), (47, [115]), (48, [116]), (49, [118]), (53, [163]), (54, [172]), (55, [171]), (56, [164]), (57, [69]), (59, [70]), (60, [71]), (61, [77]), (62, [79]), (63, [81]), (64, [85]), (65, [86]), (66, [90]), (67, [103]), (68, [107]), (69, [8]), (70, [10]), (71, [6]), (72, [158]), (73, [159]), (74, [160]), (75, [161]), (76, [152]), (77, [153]), (78, [154]), (79, [138]), (80, [143]), (81, [5]), (82, [27]), (83, [31]), (84, [30]), (85, [64]), (86, [65]), (87, [25]), (88, [19]), (89, [131]), (90, [119]), (92, [165]), (96, [72]), (97, [78]), (98, [82]), (99, [84]), (100, [87]), (101, [89]), (102, [91]), (103, [104]), (104, [106]), (105, [108]), (106, [11]), (107, [145]), (108, [92]), (109, [139]), (110, [144]), (111, [7]), (112, [9]), (113, [13]), (114, [32]), (115, [33]), (116, [34]), (117, [120]), (119, [166]), (120, [167]), (121, [168]), (122, [169]), (123, [170]), (125, [73]), (126, [75]), (127, [83]), (128, [88]), (129, [102]), (130, [100]), (131, [105]), (132, [109]), (133, [111]), (134, [146]), (135, [147]), (136, [49]), (137, [148]), (138, [62]), (139, [93]), (140, [94]), (141, [96]), (142, [98]), (143, [95]), (144, [149]), (145, [14]), (146, [63]), (147, [35]), (148, [121]), (149, [124]), (150, [123]), (151, [125]), (152, [127]), (153, [128]), (154, [74]), (155, [101]), (156, [110]), (157, [97]), (158, [99]), (159, [52]), (160, [36]), (161, [122]), (163, [126]), (164, [129]), (165, [37]), (166, [54]), (167, [61]), (169, [38]), (170, [55]), (171, [47]), (176, [39]), (177, [48]), (178, [50]), (184, [40]), (185, [51]), (188, [41]), (189, [42]), (190, [43]), (191, [44]), (192, [45]), (193, [46]), (194, [53]), (195, [58]), (196, [59]), (197, [57]), (198, [60]), (199, [56])]
 a6u := [69, 123, 130]
 gp := c0H Tryz.prog 0 1
 gvL := [(0, ⟨(.list .str), o7⟩)]
 kinL := [⟨[], [.agg [.pl H4]]⟩,
 ⟨[], [.agg [.pl H4]]⟩,
 ⟨[], []⟩,
 ⟨[], [.one (.pl .str)]⟩,
 ⟨[], [.one (.pl .str)]⟩,
 ⟨[], [.one (.pl .str), .one (.pl (.int .i64))]⟩,
 ⟨[], [.one (.pl (.int .u8))]⟩,
 ⟨[], [.one (.pl .str)]⟩,
 ⟨[], [.one (.pl (.int .u8))]⟩,
 ⟨[], [.one (.pl .str), .one (.pl (.int .i64))]⟩,
 ⟨[], [.one (.pl .str)]⟩,
 ⟨[], []⟩,
 ⟨[], [.one (.pl .str)]⟩,
 ⟨[], [.one (.pl .str)]⟩,
 ⟨[], []⟩,
 ⟨[(true, .box [.sl 1, .pl (.int .i64), .pl (.int .i64), .pl (.int .i64)]), (true, .arr XKc)], [.one (.ptr 0 0), .one (.pl .str)]⟩,
 ⟨[(true, .box [.sl 1, .pl (.int .i64), .pl (.int .i64), .pl (.int .i64)]), (true, .arr XKc)], [.one (.ptr 0 0)]⟩,
 ⟨[(true, .box [.sl 1, .pl (.int .i64), .pl (.int .i64), .pl (.int .i64)]), (true, .arr XKc)], [.one (.ptr 0 0), .one (.pl (.int .i64))]⟩,
 ⟨[(true, .box [.sl 1, .pl (.int .i64), .pl (.int .i64), .pl (.int .i64)]), (true, .arr XKc)], [.one (.ptr 0 0), .one (.pl (.int .i64))]⟩,
 ⟨[], [.one (.pl (.list XKc)), .one (.pl (.int .i64))]⟩,
 ⟨[(true, .box [.pl (.prod (.list XKc) (.prod (.int .i64) (.prod (.int .i64) (.int .i64))))])], [.one (.ptr 0 0)]⟩,
 ⟨[(true, .box [.pl (.prod (.list XKc) (.prod (.int .i64) (.prod (.int .i64) (.int .i64))))])], [.one (.ptr 0 0), .one (.pl .str)]⟩,
 ⟨[(true, .box [.pl (.prod (.list XKc) (.prod (.int .i64) (.prod (.int .i64) (.int .i64))))])], [.one (.ptr 0 0), .one (.pl .str)]⟩,
 ⟨[(true, .box [.pl (.prod (.list XKc) (.prod (.int .i64) (.prod (.int .i64) (.int .i64))))])], [.one (.ptr 0 0)]⟩,
 ⟨[(true, .box [.pl (.prod (.list XKc) (.prod (.int .i64) (.prod (.int .i64) (.int .i64))))])], [.one (.ptr 0 0)]⟩,
 ⟨[(true, .box [.pl (.prod (.list XKc) (.prod (.int .i64) (.prod (.int .i64) (.int .i64))))])], [.one (.ptr 0 0)]⟩,
 ⟨[(true, .box [.pl (.prod (.list XKc) (.prod (.int .i64) (.prod (.int .i64) (.int .i64))))])], [.one (.ptr 0 0), .one (.pl (.int .i64))]⟩,
 ⟨[(true, .box [.pl (.prod (.list XKc) (.prod (.int .i64) (.prod (.int .i64) (.int .i64))))])], [.one (.ptr 0 0)]⟩,
 ⟨[(true, .box [.pl (.prod (.list XKc) (.prod (.int .i64) (.prod (.int .i64) (.int .i64))))])], [.one (.ptr 0 0), .one (.pl .str)]⟩,
 ⟨[(true, .box [.pl (.prod (.list XKc) (.prod (.int .i64) (.prod (.int .i64) (.int .i64))))])], [.one (.ptr 0 0), .one (.pl (.int .i64))]⟩,
 ⟨[(true, .box [.pl (.prod (.list XKc) (.prod (.int .i64) (.prod (.int .i64) (.int .i64))))])], [.one (.ptr 0 0)]⟩,
 ⟨[(true, .box [.pl (.prod (.list XKc) (.prod (.int .i64) (.prod (.int .i64) (.int .i64))))])], [.one (.ptr 0 0)]⟩,
 ⟨[(true, .box [.pl (.prod (.list XKc) (.prod (.int .i64) (.prod (.int .i64) (.int .i64))))])], [.one (.ptr 0 0)]⟩,
 ⟨[(true, .box [.pl (.prod (.list XKc) (.prod (.int .i64) (.prod (.int .i64) (.int .i64))))])], [.one (.ptr 0 0)]⟩,
 ⟨[(true, .box [.pl (.prod (.list XKc) (.prod (.int .i64) (.prod (.int .i64) (.int .i64))))])], [.one (.ptr 0 0)]⟩,
 ⟨[], [.one (.pl (.list XKc)), .one (.pl (.int .i64))]⟩,
 ⟨[(true, .box [.pl (.prod (.list XKc) (.prod (.int .i64) (.prod (.int .i64) (.prod (.int .i64) (.int .i64)))))])], [.one (.ptr 0 0)]⟩,
 ⟨[(true, .box [.pl (.prod (.list XKc) (.prod (.int .i64) (.prod (.int .i64) (.prod (.int .i64) (.int .i64)))))])], [.one (.ptr 0 0)]⟩,
 ⟨[(true, .box [.pl (.prod (.list XKc) (.prod (.int .i64) (.prod (.int .i64) (.prod (.int .i64) (.int .i64)))))])], [.one (.ptr 0 0)]⟩,
 ⟨[(true, .box [.pl (.prod (.list XKc) (.prod (.int .i64) (.prod (.int .i64) (.prod (.int .i64) (.int .i64)))))])], [.one (.ptr 0 0)]⟩,
 ⟨[(true, .box [.pl (.prod (.list XKc) (.prod (.int .i64) (.prod (.int .i64) (.prod (.int .i64) (.int .i64)))))])], [.one (.ptr 0 0)]⟩,
 ⟨[(true, .box [.pl (.prod (.list XKc) (.prod (.int .i64) (.prod (.int .i64) (.prod (.int .i64) (.int .i64)))))])], [.one (.ptr 0 0)]⟩,
 ⟨[(true, .box [.pl (.prod (.list XKc) (.prod (.int .i64) (.prod (.int .i64) (.prod (.int .i64) (.int .i64)))))])], [.one (.ptr 0 0)]⟩,
 ⟨[(true, .box [.pl (.prod (.list XKc) (.prod (.int .i64) (.prod (.int .i64) (.prod (.int .i64) (.int .i64)))))])], [.one (.ptr 0 0)]⟩,
 ⟨[(true, .box [.pl (.prod (.list XKc) (.prod (.int .i64) (.prod (.int .i64) (.prod (.int .i64) (.int .i64)))))])], [.one (.ptr 0 0)]⟩,
 ⟨[(true, .box [.pl (.prod (.list XKc) (.prod (.int .i64) (.prod (.int .i64) (.prod (.int .i64) (.int .i64)))))])], [.one (.ptr 0 0), .one (.pl (.int .i64))]⟩,
 ⟨[(true, .box [.pl (.prod (.list XKc) (.prod (.int .i64) (.prod (.int .i64) (.prod (.int .i64) (.int .i64)))))])], [.one (.ptr 0 0), .agg [.pl XKc]]⟩,
 ⟨[], [.one (.pl (.int .i64)), .one (.pl (.int .i64)), .one (.pl .str), .one (.pl (.list (.list XNc)))]⟩,
 ⟨[], [.one (.pl (.int .i64)), .one (.pl (.int .i64)), .one (.pl .str)]⟩,
 ⟨[], [.agg [.pl XNc]]⟩,
 ⟨[(true, .arr XNc)], [.one (.sl 0), .one (.pl (.list XNc))]⟩,
 ⟨[], [.agg [.pl XNc], .one (.pl (.int .i64))]⟩,
 ⟨[], [.agg [.pl XNc], .one (.pl (.list (.int .i64)))]⟩,
 ⟨[(true, .box [.pl (.prod (.list XKc) (.prod (.int .i64) (.prod (.int .i64) (.prod (.int .i64) (.int .i64)))))])], [.one (.ptr 0 0), .one (.pl .str)]⟩,
 ⟨[(true, .box [.pl (.prod (.list XKc) (.prod (.int .i64) (.prod (.int .i64) (.prod (.int .i64) (.int .i64)))))])], [.one (.ptr 0 0), .one (.pl .str)]⟩,
 ⟨[(true, .box [.pl (.prod (.list XKc) (.prod (.int .i64) (.prod (.int .i64) (.prod (.int .i64) (.int .i64)))))])], [.one (.ptr 0 0), .one (.pl .str)]⟩,
 ⟨[(true, .box [.pl (.prod (.list XKc) (.prod (.int .i64) (.prod (.int .i64) (.prod (.int .i64) (.int .i64)))))])], [.one (.ptr 0 0)]⟩,
 ⟨[(true, .box [.pl (.prod (.list XKc) (.prod (.int .i64) (.prod (.int .i64) (.prod (.int .i64) (.int .i64)))))])], [.one (.ptr 0 0), .one (.pl .str)]⟩,
 ⟨[], [.one (.pl .str)]⟩,
 ⟨[(true, .box [.pl (.prod (.list XKc) (.prod (.int .i64) (.prod (.int .i64) (.prod (.int .i64) (.int .i64)))))])], [.one (.ptr 0 0)]⟩,
 ⟨[(true, .box [.pl (.prod (.list XKc) (.prod (.int .i64) (.prod (.int .i64) (.prod (.int .i64) (.int .i64)))))])], [.one (.ptr 0 0)]⟩,
 ⟨[(true, .box [.pl (.prod (.list XKc) (.prod (.int .i64) (.prod (.int .i64) (.prod (.int .i64) (.int .i64)))))])], [.one (.ptr 0 0), .one (.pl (.int .i64)), .one (.pl (.list XNc)), .one (.pl (.list XNc))]⟩,
 ⟨[], [.one (.pl (.list XNc))]⟩,
 ⟨[(true, .box [.pl (.prod (.list XKc) (.prod (.int .i64) (.prod (.int .i64) (.int .i64))))])], [.one (.ptr 0 0)]⟩,
 ⟨[(true, .box [.pl (.prod (.list XKc) (.prod (.int .i64) (.prod (.int .i64) (.int .i64))))])], [.one (.ptr 0 0)]⟩,
 ⟨[(true, .box [.pl (.prod (.list XKc) (.prod (.int .i64) (.prod (.int .i64) (.int .i64))))])], [.one (.ptr 0 0)]⟩,
 ⟨[], [.agg [.pl H4]]⟩,
 ⟨[], [.agg [.pl H4]]⟩,
 ⟨[], [.one (.pl .str)]⟩,
 ⟨[], [.one (.pl .str), .one (.fn 58 [] [])]⟩,
 ⟨[], [.one (.pl (.int .i32))]⟩,
 ⟨[], [.one (.pl .str)]⟩,
 ⟨[], [.one (.pl (.list .str)), .one (.pl .str)]⟩,
 ⟨[], [.one (.pl .str), .one (.pl .str)]⟩,
 ⟨[], [.one (.pl .str)]⟩,
 ⟨[], [.one (.pl .str)]⟩,
 ⟨[], [.one (.pl (.list n4)), .one (.fn 25 [] [])]⟩,
 ⟨[(true, .box [.fn 25 [] []])], [.one (.pl (.list n4)), .one (.fn 62 [] [some 0])]⟩,
 ⟨[(true, .box [.fn 25 [] []])], [.one (.pl (.list n4)), .one (.fn 62 [] [some 0])]⟩,
 ⟨[(true, .box [.fn 25 [] []])], [.agg [.pl n4], .one (.ptr 0 0)]⟩,
 ⟨[], [.agg [.pl n4]]⟩,
 ⟨[], [.one (.pl (.list v8)), .one (.fn 64 [] [])]⟩,
 ⟨[(true, .box [.fn 64 [] []])], [.one (.pl (.list v8)), .one (.fn 99 [] [some 0])]⟩,
 ⟨[(true, .box [.fn 64 [] []])], [.one (.pl (.list v8)), .one (.fn 99 [] [some 0])]⟩,
 ⟨[(true, .box [.fn 64 [] []])], [.agg [.pl v8], .one (.ptr 0 0)]⟩,
 ⟨[], [.agg [.pl v8]]⟩,
 ⟨[], [.one (.pl (.list P6)), .one (.fn 66 [] [])]⟩,
 ⟨[(true, .box [.fn 66 [] []])], [.one (.pl (.list P6)), .one (.fn 101 [] [some 0])]⟩,
 ⟨[(true, .box [.fn 66 [] []])], [.one (.pl (.list P6)), .one (.fn 101 [] [some 0])]⟩,
 ⟨[(true, .box [.fn 66 [] []])], [.agg [.pl P6], .one (.ptr 0 0)]⟩,
 ⟨[], [.agg [.pl P6]]⟩,
 ⟨[], [.one (.pl (.list XNc))]⟩,
 ⟨[], [.one (.pl (.list XNc))]⟩,
 ⟨[], [.agg [.pl XNc]]⟩,
 ⟨[], [.agg [.pl XNc]]⟩,
 ⟨[], [.agg [.pl XNc], .one (.pl (.list (.int .i64)))]⟩,
 ⟨[], [.one (.pl (.list .bool)), .one (.pl .bool)]⟩,
 ⟨[], [.one (.pl (.list .bool)), .one (.pl .bool)]⟩,
 ⟨[], [.one (.pl (.list XNc))]⟩,
 ⟨[], [.one (.pl (.list XNc))]⟩,
 ⟨[], [.one (.pl (.list XNc)), .one (.fn 129 [] [])]⟩,
 ⟨[], [.one (.pl (.list XNc)), .one (.fn 129 [] [])]⟩,
 ⟨[], [.agg [.pl XNc]]⟩,
 ⟨[], [.one (.pl (.list D9)), .one (.fn 68 [] [])]⟩,
 ⟨[(true, .box [.fn 68 [] []])], [.one (.pl (.list D9)), .one (.fn 104 [] [some 0])]⟩,
 ⟨[(true, .box [.fn 68 [] []])], [.one (.pl (.list D9)), .one (.fn 104 [] [some 0])]⟩,
 ⟨[(true, .box [.fn 68 [] []])], [.agg [.pl D9], .one (.ptr 0 0)]⟩,
 ⟨[], [.agg [.pl D9]]⟩,
 ⟨[], [.one (.pl (.list (.list XNc))), .one (.fn 102 [] [])]⟩,
 ⟨[(true, .box [.fn 102 [] []])], [.one (.pl (.list (.list XNc))), .one (.fn 133 [] [some 0])]⟩,
 ⟨[(true, .box [.fn 102 [] []])], [.one (.pl (.list (.list XNc))), .one (.fn 133 [] [some 0])]⟩,
 ⟨[(true, .box [.fn 102 [] []])], [.one (.pl (.list XNc)), .one (.ptr 0 0)]⟩,
 ⟨[(true, .box [.sl 1]), (true, .arr XKc)], [.one (.ptr 0 0), .agg [.pl n4]]⟩,
 ⟨[(true, .box [.sl 1]), (true, .arr XKc)], [.one (.ptr 0 0), .one (.pl (.list .str))]⟩,
 ⟨[(true, .box [.sl 1]), (true, .arr XKc)], [.one (.ptr 0 0), .one (.pl (.list v8))]⟩,
 ⟨[(true, .box [.sl 1]), (true, .arr XKc)], [.one (.ptr 0 0), .one (.pl (.list v8)), .one (.fn 48 [] []), .one (.pl .str)]⟩,
 ⟨[(true, .box [.sl 1]), (true, .arr XKc)], [.one (.ptr 0 0), .agg [.pl v8]]⟩,
 ⟨[(true, .box [.sl 1]), (true, .arr XKc)], [.one (.ptr 0 0), .agg [.pl D9]]⟩,
 ⟨[(true, .box [.sl 1]), (true, .arr XKc)], [.one (.ptr 0 0), .one (.pl (.list XNc))]⟩,
 ⟨[], [.one (.pl (.list XNc))]⟩,
 ⟨[(true, .box [.pl (.list XNc), .sl 1]), (true, .arr XKc)], [.one (.ptr 0 0), .one (.pl (.int .i64))]⟩,
 ⟨[], [.one (.pl (.int .i64))]⟩,
 ⟨[], []⟩,
 ⟨[], [.one (.pl (.int .i64))]⟩,
 ⟨[(true, .box [.pl (.list XNc), .sl 1]), (true, .arr XKc)], [.one (.ptr 0 0), .one (.pl (.list .str))]⟩,
 ⟨[], [.one (.pl .bool)]⟩,
 ⟨[], [.one (.pl .bool)]⟩,
 ⟨[(true, .box [.pl (.list XNc), .sl 1]), (true, .arr XKc)], [.one (.ptr 0 0), .one (.pl (.int .i64))]⟩,
 ⟨[(true, .box [.pl (.list XNc), .sl 1]), (true, .arr XKc)], [.one (.ptr 0 0), .one (.pl (.int .i64)), .one (.pl (.int .i64))]⟩,
 ⟨[], [.one (.pl (.int .i64))]⟩,
 ⟨[], [.one (.pl (.list XKc))]⟩,
 ⟨[(true, .box [.sl 1]), (true, .arr XKc)], [.one (.ptr 0 0), .one (.pl (.list (.list XNc))), .one (.fn 49 [] []), .one (.pl .str)]⟩,
 ⟨[], [.agg [.pl H4]]⟩,
 ⟨[], [.one (.pl (.list n4))]⟩,
 ⟨[], [.one (.pl (.list v8))]⟩,
 ⟨[], [.one (.pl (.list P6))]⟩,
 ⟨[], [.one (.pl (.list D9))]⟩,
 ⟨[], [.one (.pl (.list XNc))]⟩,
 ⟨[], [.one (.pl (.list XNc)), .one (.pl (.int .i64))]⟩,
 ⟨[(true, .arr XNc)], [.one (.sl 0), .one (.pl (.list XNc)), .one (.pl (.int .i64))]⟩,
 ⟨[], [.one (.pl (.list (.list XNc)))]⟩,
 ⟨[], [.agg [.pl H4]]⟩,
 ⟨[], [.agg [.pl n4]]⟩,
 ⟨[], [.one (.pl (.list XNc))]⟩,
 ⟨[], [.one (.pl (.list XNc)), .one (.pl (.int .i64))]⟩,
 ⟨[], [.one (.pl (.list XNc))]⟩,
 ⟨[], [.agg [.pl XNc]]⟩,
 ⟨[], [.agg [.pl XNc]]⟩,
 ⟨[], [.one (.pl (.list XNc)), .one (.pl (.int .i64))]⟩,
 ⟨[(true, .arr XNc)], [.one (.pl (.list XNc)), .one (.pl (.int .i64)), .one (.sl 0)]⟩,
 ⟨[], [.agg [.pl H4], .agg [.pl H4]]⟩,
 ⟨[], [.agg [.pl n4], .agg [.pl n4]]⟩,
 ⟨[], [.one (.pl (.list v8)), .one (.pl (.list v8))]⟩,
 ⟨[], [.one (.pl (.list XNc)), .one (.pl (.list XNc))]⟩,
 ⟨[], [.one (.pl (.list (.list XNc))), .one (.pl (.list (.list XNc)))]⟩,
 ⟨[], [.agg [.pl H4]]⟩,
 ⟨[], [.agg [.pl H4]]⟩,
 ⟨[], [.agg [.pl n4]]⟩,
 ⟨[], [.one (.pl (.list v8))]⟩,
 ⟨[], [.agg [.pl v8]]⟩,
 ⟨[], [.one (.pl (.list XNc))]⟩,
 ⟨[], [.agg [.pl D9]]⟩,
 ⟨[], [.agg [.pl n4]]⟩,
 ⟨[], [.agg [.pl D9]]⟩,
 ⟨[], [.one (.pl (.list XNc))]⟩,
 ⟨[], [.one (.pl (.list XNc)), .one (.pl (.int .i64))]⟩,
 ⟨[], [.one (.pl (.int .i64))]⟩,
 ⟨[], [.one (.pl (.list XNc)), .one (.pl (.int .i64))]⟩,
 ⟨[], [.one (.pl (.list XNc)), .one (.pl (.int .i64)), .one (.pl (.int .i64))]⟩,
 ⟨[], [.one (.pl (.int .i64))]⟩,
 ⟨[], [.one (.pl (.int .i64))]⟩,
 ⟨[], [.agg [.pl v8]]⟩,
 ⟨[], [.one (.pl (.list v8))]⟩,
 ⟨[], [.agg [.pl H4]]⟩,
 ⟨[], [.one (.pl .str)]⟩,
 ⟨[], [.agg [.pl H4]]⟩,
 ⟨[], [.agg [.pl H4], .agg [.pl H4]]⟩,
 ⟨[], [.agg [.pl H4]]⟩]
 koutsL := [[⟨[], [.one (.pl .bool)]⟩],
 [⟨[], [.one (.pl .bool)]⟩],
 [⟨[], [.one (.pl .bool)]⟩],
 [⟨[], [.agg [.pl H4], .agg [.pl (.prod (.int .i64) (.int .i64))]]⟩],
 [⟨[(true, .arr XKc)], [.one (.sl 0), .agg [.pl (.prod (.int .i64) (.int .i64))]]⟩],
 [⟨[], [.agg [.pl XKc], .one (.pl (.int .i64))]⟩],
 [⟨[], [.one (.pl .bool)]⟩],
 [⟨[], [.one (.pl (.int .i64))]⟩],
 [⟨[], [.one (.pl .bool)]⟩],
 [⟨[], [.agg [.pl XKc], .one (.pl (.int .i64))]⟩],
 [⟨[], [.one (.pl .bool)]⟩],
 [⟨[(true, .arr .str)], [.one (.sl 0)]⟩],
 [⟨[], [.one (.pl .bool)]⟩],
 [⟨[], [.one (.pl .str)]⟩],
 [⟨[(true, .arr .str)], [.one (.sl 0)]⟩],
 [⟨[(true, .box [.sl 1, .pl (.int .i64), .pl (.int .i64), .pl (.int .i64)]), (true, .arr XKc)], [.one (.pl .bool)]⟩],
 [⟨[(true, .box [.sl 1, .pl (.int .i64), .pl (.int .i64), .pl (.int .i64)]), (true, .arr XKc)], [.one (.pl .bool)]⟩],
 [⟨[(true, .box [.pl (.prod (.list XKc) (.prod (.int .i64) (.prod (.int .i64) (.int .i64))))]), (true, .gone)], []⟩],
 [⟨[(true, .box [.pl (.prod (.list XKc) (.prod (.int .i64) (.prod (.int .i64) (.int .i64))))]), (true, .gone)], []⟩],
 [⟨[], [.one (.pl (.int .i64))]⟩],
 [⟨[(true, .box [.pl (.prod (.list XKc) (.prod (.int .i64) (.prod (.int .i64) (.int .i64))))])], [.agg [.pl n4]]⟩],
 [⟨[(true, .box [.pl (.prod (.list XKc) (.prod (.int .i64) (.prod (.int .i64) (.int .i64))))])], [.one (.pl .bool)]⟩],
 [⟨[(true, .box [.pl (.prod (.list XKc) (.prod (.int .i64) (.prod (.int .i64) (.int .i64))))])], [.one (.pl .bool)]⟩],
 [⟨[(true, .box [.pl (.prod (.list XKc) (.prod (.int .i64) (.prod (.int .i64) (.int .i64))))])], [.one (.pl .bool)]⟩],
 [⟨[(true, .box [.pl (.prod (.list XKc) (.prod (.int .i64) (.prod (.int .i64) (.int .i64))))])], [.one (.pl .str)]⟩],
 [⟨[(true, .box [.pl (.prod (.list XKc) (.prod (.int .i64) (.prod (.int .i64) (.int .i64))))])], [.one (.pl .bool)]⟩],
 [⟨[(true, .box [.pl (.prod (.list XKc) (.prod (.int .i64) (.prod (.int .i64) (.int .i64))))])], []⟩],
 [⟨[(true, .box [.pl (.prod (.list XKc) (.prod (.int .i64) (.prod (.int .i64) (.int .i64))))]), (true, .arr v8)], [.one (.sl 1)]⟩],
 [⟨[(true, .box [.pl (.prod (.list XKc) (.prod (.int .i64) (.prod (.int .i64) (.int .i64))))])], []⟩],
 [⟨[(true, .box [.pl (.prod (.list XKc) (.prod (.int .i64) (.prod (.int .i64) (.int .i64))))])], []⟩],
 [⟨[(true, .box [.pl (.prod (.list XKc) (.prod (.int .i64) (.prod (.int .i64) (.int .i64))))])], [.agg [.pl v8]]⟩],
 [⟨[(true, .box [.pl (.prod (.list XKc) (.prod (.int .i64) (.prod (.int .i64) (.int .i64))))]), (true, .arr D9)], [.one (.sl 1)]⟩],
 [⟨[(true, .box [.pl (.prod (.list XKc) (.prod (.int .i64) (.prod (.int .i64) (.int .i64))))])], [.one (.pl .bool)]⟩],
 [⟨[(true, .box [.pl (.prod (.list XKc) (.prod (.int .i64) (.prod (.int .i64) (.int .i64))))])], [.agg [.pl D9], .one (.pl .bool)]⟩],
 [⟨[(true, .box [.pl (.prod (.list XKc) (.prod (.int .i64) (.prod (.int .i64) (.int .i64))))])], [.one (.pl (.list XNc))]⟩],
 [⟨[], [.one (.pl (.list XNc)), .one (.pl (.int .i64)), .agg [.pl (.prod (.int .i64) (.int .i64))]]⟩],
 [⟨[(true, .box [.pl (.prod (.list XKc) (.prod (.int .i64) (.prod (.int .i64) (.prod (.int .i64) (.int .i64)))))]), (true, .arr XNc)], [.one (.sl 1)]⟩],
 [⟨[(true, .box [.pl (.prod (.list XKc) (.prod (.int .i64) (.prod (.int .i64) (.prod (.int .i64) (.int .i64)))))]), (true, .arr XNc)], [.one (.sl 1)]⟩],
 [⟨[(true, .box [.pl (.prod (.list XKc) (.prod (.int .i64) (.prod (.int .i64) (.prod (.int .i64) (.int .i64)))))]), (true, .arr XNc)], [.one (.sl 1)]⟩],
 [⟨[(true, .box [.pl (.prod (.list XKc) (.prod (.int .i64) (.prod (.int .i64) (.prod (.int .i64) (.int .i64)))))]), (true, .arr XNc)], [.one (.sl 1)]⟩],
 [⟨[(true, .box [.pl (.prod (.list XKc) (.prod (.int .i64) (.prod (.int .i64) (.prod (.int .i64) (.int .i64)))))]), (true, .arr XNc)], [.one (.sl 1)]⟩],
 [⟨[(true, .box [.pl (.prod (.list XKc) (.prod (.int .i64) (.prod (.int .i64) (.prod (.int .i64) (.int .i64)))))]), (true, .arr XNc)], [.one (.sl 1)]⟩],
 [⟨[(true, .box [.pl (.prod (.list XKc) (.prod (.int .i64) (.prod (.int .i64) (.prod (.int .i64) (.int .i64)))))]), (true, .arr XNc)], [.one (.sl 1)]⟩],
 [⟨[(true, .box [.pl (.prod (.list XKc) (.prod (.int .i64) (.prod (.int .i64) (.prod (.int .i64) (.int .i64)))))]), (true, .arr XNc)], [.one (.sl 1)]⟩],
 [⟨[(true, .box [.pl (.prod (.list XKc) (.prod (.int .i64) (.prod (.int .i64) (.prod (.int .i64) (.int .i64)))))]), (true, .arr XNc)], [.one (.sl 1)]⟩],
 [⟨[(true, .box [.pl (.prod (.list XKc) (.prod (.int .i64) (.prod (.int .i64) (.prod (.int .i64) (.int .i64)))))]), (true, .arr XNc)], [.one (.sl 1)]⟩],
 [⟨[(true, .box [.pl (.prod (.list XKc) (.prod (.int .i64) (.prod (.int .i64) (.prod (.int .i64) (.int .i64)))))]), (true, .arr XNc)], [.one (.sl 1)]⟩],
 [⟨[(true, .arr XNc)], [.one (.sl 0)]⟩],
 [⟨[], [.agg [.pl XNc]]⟩],
 [⟨[(true, .arr (.int .i64))], [.one (.sl 0)]⟩],
 [⟨[(true, .gone), (true, .arr XNc)], [.one (.sl 1)]⟩],
 [⟨[], [.agg [.pl XNc]]⟩],
 [⟨[], [.agg [.pl XNc]]⟩],
 [⟨[(true, .box [.pl (.prod (.list XKc) (.prod (.int .i64) (.prod (.int .i64) (.prod (.int .i64) (.int .i64)))))]), (true, .arr XNc)], [.one (.sl 1)]⟩],
 [⟨[(true, .box [.pl (.prod (.list XKc) (.prod (.int .i64) (.prod (.int .i64) (.prod (.int .i64) (.int .i64)))))])], [.one (.pl .bool)]⟩],
 [⟨[(true, .box [.pl (.prod (.list XKc) (.prod (.int .i64) (.prod (.int .i64) (.prod (.int .i64) (.int .i64)))))])], [.one (.pl .bool)]⟩],
 [⟨[(true, .box [.pl (.prod (.list XKc) (.prod (.int .i64) (.prod (.int .i64) (.prod (.int .i64) (.int .i64)))))]), (true, .arr (.list XNc))], [.one (.sl 1)]⟩],
 [⟨[(true, .box [.pl (.prod (.list XKc) (.prod (.int .i64) (.prod (.int .i64) (.prod (.int .i64) (.int .i64)))))])], []⟩],
 [⟨[], [.one (.pl (.int .i64))]⟩],
 [⟨[(true, .box [.pl (.prod (.list XKc) (.prod (.int .i64) (.prod (.int .i64) (.prod (.int .i64) (.int .i64)))))]), (true, .arr XNc)], [.one (.sl 1)]⟩],
 [⟨[(true, .box [.pl (.prod (.list XKc) (.prod (.int .i64) (.prod (.int .i64) (.prod (.int .i64) (.int .i64)))))]), (true, .arr XNc)], [.one (.sl 1)]⟩],
 [⟨[(true, .box [.pl (.prod (.list XKc) (.prod (.int .i64) (.prod (.int .i64) (.prod (.int .i64) (.int .i64)))))]), (true, .arr XNc)], [.one (.sl 1)]⟩],
 [⟨[], [.one (.pl (.int .i64))]⟩],
 [⟨[(true, .box [.pl (.prod (.list XKc) (.prod (.int .i64) (.prod (.int .i64) (.int .i64))))]), (true, .arr (.list XNc))], [.one (.sl 1)]⟩],
 [⟨[(true, .box [.pl (.prod (.list XKc) (.prod (.int .i64) (.prod (.int .i64) (.int .i64))))]), (true, .arr v8)], [.one (.sl 1)]⟩],
 [⟨[(true, .box [.pl (.prod (.list XKc) (.prod (.int .i64) (.prod (.int .i64) (.int .i64))))]), (true, .arr P6)], [.one (.sl 1)]⟩],
 [⟨[], [.one (.pl .str)]⟩],
 [⟨[], [.one (.pl .bool)]⟩],
 [⟨[], [.one (.pl .bool)]⟩],
 [⟨[], [.one (.pl .str)]⟩],
 [⟨[], [.one (.pl .bool)]⟩],
 [⟨[], [.one (.pl .bool)]⟩],
 [⟨[], [.one (.pl (.int .i64)), .one (.pl .bool)]⟩],
 [⟨[], [.one (.pl .bool)]⟩],
 [⟨[], [.one (.pl .bool)]⟩],
 [⟨[], [.one (.pl .bool)]⟩],
 [⟨[], [.one (.pl .bool)]⟩],
 [⟨[(true, .box [.fn 25 [] []])], [.one (.pl .bool)]⟩],
 [⟨[(true, .box [.fn 25 [] []])], [.one (.pl (.int .i64))]⟩],
 [⟨[(true, .box [.fn 25 [] []])], [.one (.pl .bool)]⟩],
 [⟨[], [.one (.pl .bool)]⟩],
 [⟨[], [.one (.pl .bool)]⟩],
 [⟨[(true, .box [.fn 64 [] []])], [.one (.pl .bool)]⟩],
 [⟨[(true, .box [.fn 64 [] []])], [.one (.pl (.int .i64))]⟩],
 [⟨[(true, .box [.fn 64 [] []])], [.one (.pl .bool)]⟩],
 [⟨[], [.one (.pl .bool)]⟩],
 [⟨[], [.one (.pl .bool)]⟩],
 [⟨[(true, .box [.fn 66 [] []])], [.one (.pl .bool)]⟩],
 [⟨[(true, .box [.fn 66 [] []])], [.one (.pl (.int .i64))]⟩],
 [⟨[(true, .box [.fn 66 [] []])], [.one (.pl .bool)]⟩],
 [⟨[], [.one (.pl .bool)]⟩],
 [⟨[], [.one (.pl .bool)]⟩],
 [⟨[], [.one (.pl .bool)]⟩],
 [⟨[], [.one (.pl .bool)]⟩],
 [⟨[(true, .arr (.int .i64))], [.one (.sl 0)]⟩],
 [⟨[], [.agg [.pl XNc]]⟩],
 [⟨[], [.one (.pl .bool)]⟩],
 [⟨[], [.one (.pl (.int .i64))]⟩],
 [⟨[], [.one (.pl (.int .i64))]⟩],
 [⟨[(true, .arr (.int .i64))], [.one (.sl 0)]⟩],
 [⟨[], [.one (.pl .bool)]⟩],
 [⟨[], [.one (.pl (.int .i64))]⟩],
 [⟨[], [.one (.pl .bool)]⟩],
 [⟨[], [.one (.pl .bool)]⟩],
 [⟨[(true, .box [.fn 68 [] []])], [.one (.pl .bool)]⟩],
 [⟨[(true, .box [.fn 68 [] []])], [.one (.pl (.int .i64))]⟩],
 [⟨[(true, .box [.fn 68 [] []])], [.one (.pl .bool)]⟩],
 [⟨[], [.one (.pl .bool)]⟩],
 [⟨[], [.one (.pl .bool)]⟩],
 [⟨[(true, .box [.fn 102 [] []])], [.one (.pl .bool)]⟩],
 [⟨[(true, .box [.fn 102 [] []])], [.one (.pl (.int .i64))]⟩],
 [⟨[(true, .box [.fn 102 [] []])], [.one (.pl .bool)]⟩],
 [⟨[(true, .box [.sl 2]), (true, .gone), (true, .arr XKc)], []⟩],
 [⟨[(true, .box [.sl 2]), (true, .gone), (true, .arr XKc)], []⟩],
 [⟨[(true, .box [.sl 2]), (true, .gone), (true, .arr XKc)], []⟩],
 [⟨[(true, .box [.sl 2]), (true, .gone), (true, .arr XKc)], []⟩],
 [⟨[(true, .box [.sl 2]), (true, .gone), (true, .arr XKc)], []⟩],
 [⟨[(true, .box [.sl 2]), (true, .gone), (true, .arr XKc)], []⟩],
 [⟨[(true, .box [.sl 2]), (true, .gone), (true, .arr XKc)], []⟩],
 [⟨[], [.one (.pl .str)]⟩],
 [⟨[(true, .box [.pl (.list XNc), .sl 2]), (true, .gone), (true, .arr XKc)], []⟩],
 [⟨[], [.agg [.pl v8]]⟩],
 [⟨[], [.agg [.pl (.prod .str (.prod (.int .i64) (.prod .str (.prod (.int .i64) (.prod .str (.prod (.int .i64) (.prod .str (.prod (.int .i64) (.prod .str (.prod (.int .i64) (.prod .str (.prod (.int .i64) (.prod .str (.prod (.int .i64) (.prod .str (.prod (.int .i64) (.prod .str (.prod (.int .i64) (.prod .str (.prod (.int .i64) (.prod .str (.prod (.int .i64) (.prod .str (.prod (.int .i64) (.prod .str (.prod (.int .i64) (.prod .str (.prod (.int .i64) (.prod .str (.prod (.int .i64) (.prod .str (.prod (.int .i64) (.prod .str (.prod (.int .i64) (.prod .str (.prod (.int .i64) (.prod .str (.prod (.int .i64) (.prod .str (.prod (.int .i64) (.prod .str (.prod (.int .i64) (.prod .str (.prod (.int .i64) (.prod .str (.prod (.int .i64) (.prod .str (.prod (.int .i64) (.prod .str (.prod (.int .i64) (.prod .str (.prod (.int .i64) (.prod .str XKc)))))))))))))))))))))))))))))))))))))))))))))))))))))]]⟩],
 [⟨[], [.one (.pl .str)]⟩],
 [⟨[(true, .box [.pl (.list XNc), .sl 2]), (true, .gone), (true, .arr XKc)], []⟩],
 [⟨[], [.one (.pl .str)]⟩],
 [⟨[], [.one (.pl .str)]⟩],
 [⟨[(true, .box [.pl (.list XNc), .sl 2]), (true, .gone), (true, .arr XKc)], []⟩],
 [⟨[(true, .box [.pl (.list XNc), .sl 2]), (true, .gone), (true, .arr XKc)], []⟩],
 [⟨[], [.one (.pl (.int .i64))]⟩],
 [⟨[], [.one (.pl .str)]⟩],
 [⟨[(true, .box [.sl 2]), (true, .gone), (true, .arr XKc)], []⟩],
 [⟨[], [.agg [.pl H4]]⟩],
 [⟨[(true, .arr n4)], [.one (.sl 0)]⟩],
 [⟨[(true, .arr v8)], [.one (.sl 0)]⟩],
 [⟨[(true, .arr P6)], [.one (.sl 0)]⟩],
 [⟨[(true, .arr D9)], [.one (.sl 0)]⟩],
 [⟨[(true, .arr XNc)], [.one (.sl 0)]⟩],
 [⟨[(true, .arr XNc)], [.one (.sl 0)]⟩],
 [⟨[(true, .gone), (true, .arr XNc)], [.one (.sl 1)]⟩],
 [⟨[(true, .arr (.list XNc))], [.one (.sl 0)]⟩],
 [⟨[], [.agg [.pl H4]]⟩],
 [⟨[], [.agg [.pl n4]]⟩],
 [⟨[(true, .arr XNc)], [.one (.sl 0)]⟩],
 [⟨[(true, .arr XNc)], [.one (.sl 0)]⟩],
 [⟨[], [.one (.pl .bool)]⟩],
 [⟨[], [.one (.pl .bool)]⟩],
 [⟨[], [.one (.pl .bool)]⟩],
 [⟨[], [.one (.pl .bool)]⟩],
 [⟨[(true, .gone), (true, .arr XNc)], [.one (.sl 1)]⟩],
 [⟨[], [.one (.pl .bool)]⟩],
 [⟨[], [.one (.pl .bool)]⟩],
 [⟨[], [.one (.pl .bool)]⟩],
 [⟨[], [.one (.pl .bool)]⟩],
 [⟨[], [.one (.pl .bool)]⟩],
 [⟨[], [.one (.pl .str)]⟩],
 [⟨[], [.one (.pl .bool)]⟩],
 [⟨[], [.one (.pl .bool)]⟩],
 [⟨[], [.one (.pl .bool)]⟩],
 [⟨[], [.one (.pl .bool)]⟩],
 [⟨[], [.one (.pl .bool)]⟩],
 [⟨[], [.one (.pl .bool)]⟩],
 [⟨[], [.one (.pl .str)]⟩],
 [⟨[], [.one (.pl .str)]⟩],
 [⟨[], [.one (.pl .str)]⟩],
 [⟨[], [.one (.pl .str)]⟩],
 [⟨[], [.one (.pl .str)]⟩],
 [⟨[], [.one (.pl .str)]⟩],
 [⟨[], [.one (.pl .str)]⟩],
 [⟨[], [.one (.pl (.int .i64))]⟩],
 [⟨[], [.one (.pl .str)]⟩],
 [⟨[], [.one (.pl .str)]⟩],
 [⟨[], [.one (.pl .str)]⟩],
 [⟨[], [.one (.pl .bool)]⟩],
 [⟨[], [.one (.pl .bool)]⟩],
 [⟨[], [.one (.pl .bool)]⟩],
 [⟨[], [.one (.pl .bool)]⟩],
 [⟨[], [.one (.pl .bool)]⟩]]
 bkL := [⟨[1, 3], ⟨[(true, .box [.pl H4])], [.one (.ptr 0 0), .one (.pl (.int .i64))]⟩, [], [(.ret, [2], ⟨[(true, .box [.pl H4])], [.one (.pl .bool)]⟩), (.norm, [], ⟨[(true, .box [.pl H4])], []⟩)]⟩,
 ⟨[4, 5], ⟨[(true, .box [.pl n4])], [.one (.ptr 0 0), .one (.pl (.int .i64))]⟩, [1, 3, 4], [(.ret, [2], ⟨[(true, .box [.pl n4])], [.one (.pl .bool)]⟩), (.norm, [], ⟨[(true, .box [.pl n4])], []⟩)]⟩,
 ⟨[4, 6], ⟨[(true, .box [.pl n4])], [.one (.ptr 0 0), .one (.pl (.int .i64))]⟩, [1, 3], [(.ret, [2], ⟨[(true, .box [.pl n4])], [.one (.pl .bool)]⟩), (.norm, [], ⟨[(true, .box [.pl n4])], []⟩)]⟩,
 ⟨[7, 8], ⟨[(true, .box [.pl D9])], [.one (.ptr 0 0), .one (.pl (.int .i64))]⟩, [4, 6], [(.ret, [2], ⟨[(true, .box [.pl D9])], [.one (.pl .bool)]⟩), (.norm, [], ⟨[(true, .box [.pl D9])], []⟩)]⟩,
 g9,
 g9,
 ⟨[0, 6], ⟨[], [.one (.pl .str), .one (.pl (.int .i64))]⟩, [0, 1, 4, 5], [(.norm, [6], ⟨[], [.one (.pl (.int .i64))]⟩)]⟩,
 ⟨[0, 3, 4], ⟨[], [.one (.pl .str), .one (.pl (.int .i64)), .one (.pl (.int .i64))]⟩, [2], [(.norm, [3], ⟨[], [.one (.pl (.int .i64))]⟩)]⟩,
 ⟨[0, 6], ⟨[], [.one (.pl .str), .one (.pl (.int .i64))]⟩, [0, 1, 4, 5], [(.norm, [6], ⟨[], [.one (.pl (.int .i64))]⟩)]⟩,
 ⟨[0, 3, 4], ⟨[(true, .arr .str)], [.one (.pl .str), .one (.sl 0), .one (.pl (.int .i64))]⟩, [], [(.ret, [2], ⟨[(true, .arr .str)], [.one (.pl .bool)]⟩), (.norm, [], ⟨[(true, .arr .str)], []⟩)]⟩,
 ⟨[0, 3], ⟨[], [.one (.pl .str), .one (.pl (.int .i64))]⟩, [], [(.ret, [2], ⟨[], [.one (.pl .bool)]⟩), (.norm, [], ⟨[], []⟩)]⟩,
 ⟨[0, 3, 4], ⟨[(true, .arr .str)], [.one (.pl .str), .one (.sl 0), .one (.pl (.int .i64))]⟩, [], [(.ret, [2], ⟨[(true, .arr .str)], [.one (.pl .str)]⟩), (.norm, [], ⟨[(true, .arr .str)], []⟩)]⟩,
 ⟨[0, 3, 4, 5], ⟨[(true, .box [.pl (.prod (.int .i64) (.int .i64))]), (false, .arr XKc)], [.one (.pl .str), .one (.ptr 0 0), .one (.sl 1), .one (.pl (.int .i64))]⟩, [3], [(.ret, [2], ⟨[(true, .box [.pl (.prod (.int .i64) (.int .i64))]), (true, .gone), (true, .arr XKc)], [.one (.sl 2)]⟩), (.norm, [4], ⟨[(true, .box [.pl (.prod (.int .i64) (.int .i64))]), (true, .gone), (true, .arr XKc)], [.one (.sl 2)]⟩)]⟩,
 ⟨[0, 5], ⟨[], [.one (.pl .str), .one (.pl (.int .i64))]⟩, [0, 2, 3, 4], [(.norm, [5], ⟨[], [.one (.pl (.int .i64))]⟩)]⟩,
 g9,
 g9,
 g9,
 ⟨[0, 3], ⟨[(true, .box [.pl (.prod (.list XKc) (.prod (.int .i64) (.prod (.int .i64) (.int .i64))))]), (false, .arr v8)], [.one (.ptr 0 0), .one (.sl 1)]⟩, [], [(.ret, [2], ⟨[(true, .box [.pl (.prod (.list XKc) (.prod (.int .i64) (.prod (.int .i64) (.int .i64))))]), (true, .gone), (true, .arr v8)], [.one (.sl 2)]⟩), (.norm, [], ⟨[(true, .box [.pl (.prod (.list XKc) (.prod (.int .i64) (.prod (.int .i64) (.int .i64))))]), (true, .gone)], []⟩)]⟩,
 g9,
 g9,
 g9,
 g9,
 ⟨[0, 1, 5, 6], ⟨[(false, .arr XNc)], [.one (.sl 0), .one (.pl (.list XNc)), .one (.pl (.int .i64)), .one (.pl (.int .i64))]⟩, [4], [(.norm, [0], ⟨[(true, .gone), (true, .arr XNc)], [.one (.sl 1)]⟩)]⟩,
 ⟨[0, 3, 11, 12, 13, 14], ⟨[(false, .arr XNc), (false, .arr (.int .i64))], [.one (.pl (.int .i64)), .one (.pl (.list (.list XNc))), .one (.sl 0), .one (.sl 1), .one (.pl (.int .i64)), .one (.pl (.int .i64))]⟩, [0, 9], [(.ret, [8], ⟨[(true, .gone), (true, .gone), (true, .arr XNc)], [.one (.sl 2)]⟩), (.norm, [11, 12, 13], ⟨[(true, .gone), (true, .gone), (true, .arr XNc), (true, .arr (.int .i64))], [.one (.sl 2), .one (.sl 3), .one (.pl (.int .i64))]⟩)]⟩,
 g9,
 ⟨[0, 3], ⟨[(true, .box [.pl (.prod (.list XKc) (.prod (.int .i64) (.prod (.int .i64) (.prod (.int .i64) (.int .i64)))))]), (false, .arr (.list XNc))], [.one (.ptr 0 0), .one (.sl 1)]⟩, [], [(.ret, [2], ⟨[(true, .box [.pl (.prod (.list XKc) (.prod (.int .i64) (.prod (.int .i64) (.prod (.int .i64) (.int .i64)))))]), (true, .gone), (true, .arr (.list XNc))], [.one (.sl 2)]⟩), (.norm, [], ⟨[(true, .box [.pl (.prod (.list XKc) (.prod (.int .i64) (.prod (.int .i64) (.prod (.int .i64) (.int .i64)))))]), (true, .gone)], []⟩)]⟩,
 g9,
 ⟨[0, 3], ⟨[(true, .box [.pl (.prod (.list XKc) (.prod (.int .i64) (.prod (.int .i64) (.prod (.int .i64) (.int .i64)))))]), (false, .arr XNc)], [.one (.ptr 0 0), .one (.sl 1)]⟩, [2], [(.norm, [3], ⟨[(true, .box [.pl (.prod (.list XKc) (.prod (.int .i64) (.prod (.int .i64) (.prod (.int .i64) (.int .i64)))))]), (true, .gone), (true, .arr XNc)], [.one (.sl 2)]⟩)]⟩,
 g9,
 ⟨[0, 3], ⟨[(true, .box [.pl (.prod (.list XKc) (.prod (.int .i64) (.prod (.int .i64) (.prod (.int .i64) (.int .i64)))))]), (false, .arr XNc)], [.one (.ptr 0 0), .one (.sl 1)]⟩, [2], [(.norm, [3], ⟨[(true, .box [.pl (.prod (.list XKc) (.prod (.int .i64) (.prod (.int .i64) (.prod (.int .i64) (.int .i64)))))]), (true, .gone), (true, .arr XNc)], [.one (.sl 2)]⟩)]⟩,
 g9,
 ⟨[0, 3], ⟨[(true, .box [.pl (.prod (.list XKc) (.prod (.int .i64) (.prod (.int .i64) (.prod (.int .i64) (.int .i64)))))]), (false, .arr XNc)], [.one (.ptr 0 0), .one (.sl 1)]⟩, [2], [(.norm, [3], ⟨[(true, .box [.pl (.prod (.list XKc) (.prod (.int .i64) (.prod (.int .i64) (.prod (.int .i64) (.int .i64)))))]), (true, .gone), (true, .arr XNc)], [.one (.sl 2)]⟩)]⟩,
 g9,
 ⟨[0, 3], ⟨[(true, .box [.pl (.prod (.list XKc) (.prod (.int .i64) (.prod (.int .i64) (.prod (.int .i64) (.int .i64)))))]), (false, .arr XNc)], [.one (.ptr 0 0), .one (.sl 1)]⟩, [2], [(.norm, [3], ⟨[(true, .box [.pl (.prod (.list XKc) (.prod (.int .i64) (.prod (.int .i64) (.prod (.int .i64) (.int .i64)))))]), (true, .gone), (true, .arr XNc)], [.one (.sl 2)]⟩)]⟩,
 g9,
 ⟨[0, 3], ⟨[(true, .box [.pl (.prod (.list XKc) (.prod (.int .i64) (.prod (.int .i64) (.prod (.int .i64) (.int .i64)))))]), (false, .arr XNc)], [.one (.ptr 0 0), .one (.sl 1)]⟩, [2], [(.norm, [3], ⟨[(true, .box [.pl (.prod (.list XKc) (.prod (.int .i64) (.prod (.int .i64) (.prod (.int .i64) (.int .i64)))))]), (true, .gone), (true, .arr XNc)], [.one (.sl 2)]⟩)]⟩,
 g9,
 g9,
 g9,
 g9,
 g9,
 g9,
 g9,
 ⟨[0, 3, 4], ⟨[(true, .arr (.int .i64))], [.one (.pl (.list XNc)), .one (.sl 0), .one (.pl (.int .i64))]⟩, [0, 2, 3], [(.norm, [], ⟨[(true, .arr (.int .i64))], []⟩)]⟩,
 ⟨[3, 4, 5, 6], ⟨[(true, .arr (.int .i64)), (true, .arr (.int .i64))], [.one (.sl 0), .one (.pl (.int .i64)), .one (.sl 1), .one (.pl (.int .i64))]⟩, [0, 3, 4], [(.norm, [], ⟨[(true, .arr (.int .i64)), (true, .arr (.int .i64))], []⟩)]⟩,
 g9,
 ⟨[0, 1, 6], ⟨[(true, .box [.pl (.prod (.int .i64) (.int .i64))])], [.one (.pl (.list XKc)), .one (.pl (.int .i64)), .one (.ptr 0 0)]⟩, [6], [(.ret, [4, 5], ⟨[(true, .box [.pl (.prod (.int .i64) (.int .i64))]), (true, .arr XNc)], [.one (.sl 1), .one (.pl (.int .i64))]⟩), (.ret, [4, 5], ⟨[(true, .box [.pl (.prod (.int .i64) (.int .i64))])], [.one (.pl (.list XNc)), .one (.pl (.int .i64))]⟩)]⟩,
 ⟨[0, 3, 4, 5], ⟨[(true, .box [.pl (.prod (.list XKc) (.prod (.int .i64) (.prod (.int .i64) (.int .i64))))]), (true, .box [.pl (.prod (.int .i64) (.int .i64))])], [.one (.ptr 0 0), .one (.pl (.list XNc)), .one (.pl (.int .i64)), .one (.ptr 1 0)]⟩, [], [(.ret, [2], ⟨[(true, .box [.pl (.prod (.list XKc) (.prod (.int .i64) (.prod (.int .i64) (.int .i64))))]), (true, .box [.pl (.prod (.int .i64) (.int .i64))])], [.one (.pl (.list XNc))]⟩)]⟩,
 g9,
 ⟨[0, 3], ⟨[(true, .box [.pl (.prod (.list XKc) (.prod (.int .i64) (.prod (.int .i64) (.int .i64))))]), (false, .arr (.list XNc))], [.one (.ptr 0 0), .one (.sl 1)]⟩, [], [(.ret, [2], ⟨[(true, .box [.pl (.prod (.list XKc) (.prod (.int .i64) (.prod (.int .i64) (.int .i64))))]), (true, .gone), (true, .arr (.list XNc))], [.one (.sl 2)]⟩), (.norm, [], ⟨[(true, .box [.pl (.prod (.list XKc) (.prod (.int .i64) (.prod (.int .i64) (.int .i64))))]), (true, .gone)], []⟩)]⟩,
 ⟨[0, 3], ⟨[(true, .box [.pl (.prod (.list XKc) (.prod (.int .i64) (.prod (.int .i64) (.int .i64))))]), (false, .arr D9)], [.one (.ptr 0 0), .one (.sl 1)]⟩, [0, 2], [(.norm, [3], ⟨[(true, .box [.pl (.prod (.list XKc) (.prod (.int .i64) (.prod (.int .i64) (.int .i64))))]), (true, .gone), (true, .arr D9)], [.one (.sl 2)]⟩)]⟩,
 g9,
 ⟨[0, 3], ⟨[(true, .box [.pl (.prod (.list XKc) (.prod (.int .i64) (.prod (.int .i64) (.int .i64))))]), (false, .arr v8)], [.one (.ptr 0 0), .one (.sl 1)]⟩, [], [(.ret, [2], ⟨[(true, .box [.pl (.prod (.list XKc) (.prod (.int .i64) (.prod (.int .i64) (.int .i64))))]), (true, .gone), (true, .arr v8)], [.one (.sl 2)]⟩), (.norm, [], ⟨[(true, .box [.pl (.prod (.list XKc) (.prod (.int .i64) (.prod (.int .i64) (.int .i64))))]), (true, .gone)], []⟩)]⟩,
 g9,
 ⟨[0, 3], ⟨[(true, .box [.pl (.prod (.list XKc) (.prod (.int .i64) (.prod (.int .i64) (.int .i64))))]), (false, .arr P6)], [.one (.ptr 0 0), .one (.sl 1)]⟩, [0, 2], [(.norm, [3], ⟨[(true, .box [.pl (.prod (.list XKc) (.prod (.int .i64) (.prod (.int .i64) (.int .i64))))]), (true, .gone), (true, .arr P6)], [.one (.sl 2)]⟩)]⟩,
 g9,
 g9,
 g9,
 g9,
 g9,
 g9,
 g9,
 g9,
 g9,
 g9,
 g9,
 g9,
 g9,
 g9,
 ⟨[6, 7], ⟨[(true, .box [.pl (.prod (.list XKc) (.prod (.int .i64) (.prod (.int .i64) (.int .i64))))]), (true, .box [.sl 2, .pl .str, .pl .str]), (false, .arr n4)], [.one (.ptr 0 0), .one (.ptr 1 0)]⟩, [2, 3, 6, 7], [(.norm, [], ⟨[(true, .box [.pl (.prod (.list XKc) (.prod (.int .i64) (.prod (.int .i64) (.int .i64))))]), (true, .box [.sl 3, .pl .str, .pl .str]), (true, .gone), (true, .arr n4)], []⟩)]⟩,
 ⟨[2, 3, 6, 7], ⟨[(true, .box [.sl 4, .pl .str, .pl .str]), (true, .box [.pl (.prod (.int .i64) (.int .i64))]), (true, .box [.pl (.prod (.list XKc) (.prod (.int .i64) (.prod (.int .i64) (.int .i64))))]), (true, .box [.sl 5, .pl .str, .pl .str]), (true, .arr n4), (true, .arr n4)], [.one (.ptr 0 0), .one (.ptr 1 0), .one (.ptr 2 0), .one (.ptr 3 0)]⟩, [2, 3], [(.ret, [], ⟨[(true, .box [.sl 6, .pl .str, .pl .str]), (true, .box [.pl (.prod (.int .i64) (.int .i64))]), (true, .box [.pl (.prod (.list XKc) (.prod (.int .i64) (.prod (.int .i64) (.int .i64))))]), (true, .box [.sl 5, .pl .str, .pl .str]), (true, .arr n4), (true, .arr n4), (true, .arr n4)], []⟩), (.ret, [], ⟨[(true, .box [.sl 5, .pl .str, .pl .str]), (true, .box [.pl (.prod (.int .i64) (.int .i64))]), (true, .box [.pl (.prod (.list XKc) (.prod (.int .i64) (.prod (.int .i64) (.int .i64))))]), (true, .box [.sl 5, .pl .str, .pl .str]), (true, .arr n4), (true, .arr n4)], []⟩)]⟩,
 ⟨[0, 1, 7, 8], ⟨[], [.one (.pl (.list .str)), .one (.pl .str), .one (.pl (.int .i64)), .one (.pl (.int .i64))]⟩, [0, 1, 4, 5, 6], [(.norm, [7], ⟨[], [.one (.pl (.int .i64))]⟩)]⟩,
 ⟨[0, 1, 7, 8], ⟨[(true, .box [.fn 25 [] []])], [.one (.pl (.list n4)), .one (.fn 62 [] [some 0]), .one (.pl (.int .i64)), .one (.pl (.int .i64))]⟩, [], [(.ret, [4], ⟨[(true, .box [.fn 25 [] []])], [.one (.pl (.int .i64))]⟩), (.norm, [], ⟨[(true, .box [.fn 25 [] []])], []⟩)]⟩,
 ⟨[0, 1, 7, 8], ⟨[(true, .box [.fn 64 [] []])], [.one (.pl (.list v8)), .one (.fn 99 [] [some 0]), .one (.pl (.int .i64)), .one (.pl (.int .i64))]⟩, [], [(.ret, [4], ⟨[(true, .box [.fn 64 [] []])], [.one (.pl (.int .i64))]⟩), (.norm, [], ⟨[(true, .box [.fn 64 [] []])], []⟩)]⟩,
 ⟨[0, 1, 7, 8], ⟨[(true, .box [.fn 66 [] []])], [.one (.pl (.list P6)), .one (.fn 101 [] [some 0]), .one (.pl (.int .i64)), .one (.pl (.int .i64))]⟩, [], [(.ret, [4], ⟨[(true, .box [.fn 66 [] []])], [.one (.pl (.int .i64))]⟩), (.norm, [], ⟨[(true, .box [.fn 66 [] []])], []⟩)]⟩,
 ⟨[0, 3, 30, 31, 32], ⟨[(true, .arr .bool)], [.one (.pl (.list XNc)), .one (.sl 0), .one (.pl (.list XNc)), .one (.pl (.int .i64)), .one (.pl (.int .i64))]⟩, [0, 3], [(.ret, [2], ⟨[(true, .arr .bool)], [.one (.pl .bool)]⟩), (.norm, [], ⟨[(true, .arr .bool)], []⟩)]⟩,
 ⟨[1, 3], ⟨[(true, .box [.pl XNc])], [.one (.ptr 0 0), .one (.pl (.int .i64))]⟩, [], [(.ret, [2], ⟨[(true, .box [.pl XNc])], [.one (.pl .bool)]⟩)]⟩,
 ⟨[1, 3, 4], ⟨[(true, .box [.pl XNc]), (true, .box [.pl XNc])], [.one (.ptr 0 0), .one (.pl (.int .i64)), .one (.ptr 1 0)]⟩, [], [(.ret, [2], ⟨[(true, .box [.pl XNc]), (true, .box [.pl XNc])], [.one (.pl .bool)]⟩)]⟩,
 ⟨[0, 3, 4, 5, 41, 42, 43], ⟨[(true, .arr .bool), (true, .box [.pl XNc]), (true, .arr (.int .i64))], [.one (.pl (.list XNc)), .one (.sl 0), .one (.pl (.int .i64)), .one (.ptr 1 0), .one (.sl 2), .one (.pl (.int .i64)), .one (.pl (.int .i64))]⟩, [0, 3, 30, 31, 32], [(.ret, [2], ⟨[(true, .arr .bool), (true, .box [.pl XNc]), (true, .arr (.int .i64))], [.one (.pl .bool)]⟩), (.norm, [], ⟨[(true, .arr .bool), (true, .box [.pl XNc]), (true, .arr (.int .i64))], []⟩)]⟩,
 ⟨[0, 1, 7, 8], ⟨[], [.one (.pl (.list .bool)), .one (.pl .bool), .one (.pl (.int .i64)), .one (.pl (.int .i64))]⟩, [], [(.ret, [4], ⟨[], [.one (.pl (.int .i64))]⟩), (.norm, [], ⟨[], []⟩)]⟩,
 g9,
 g9,
 g9,
 g9,
 g9,
 g9,
 ⟨[3, 11, 12, 13], ⟨[(true, .arr (.int .i64))], [.one (.sl 0), .one (.pl (.list XNc)), .one (.pl (.int .i64)), .one (.pl (.int .i64))]⟩, [2, 3], [(.norm, [], ⟨[(true, .arr (.int .i64))], []⟩)]⟩,
 ⟨[3, 4, 19, 20, 21], ⟨[(true, .arr (.int .i64)), (true, .arr (.int .i64))], [.one (.sl 0), .one (.pl (.int .i64)), .one (.sl 1), .one (.pl (.int .i64)), .one (.pl (.int .i64))]⟩, [3, 4, 11, 12, 13], [(.norm, [], ⟨[(true, .arr (.int .i64)), (true, .arr (.int .i64))], []⟩)]⟩,
 ⟨[0, 1, 7, 8], ⟨[], [.one (.pl (.list XNc)), .one (.fn 129 [] []), .one (.pl (.int .i64)), .one (.pl (.int .i64))]⟩, [], [(.ret, [4], ⟨[], [.one (.pl (.int .i64))]⟩), (.norm, [], ⟨[], []⟩)]⟩,
 ⟨[0, 1, 7, 8], ⟨[(true, .box [.fn 68 [] []])], [.one (.pl (.list D9)), .one (.fn 104 [] [some 0]), .one (.pl (.int .i64)), .one (.pl (.int .i64))]⟩, [], [(.ret, [4], ⟨[(true, .box [.fn 68 [] []])], [.one (.pl (.int .i64))]⟩), (.norm, [], ⟨[(true, .box [.fn 68 [] []])], []⟩)]⟩,
 ⟨[0, 1, 7, 8], ⟨[(true, .box [.fn 102 [] []])], [.one (.pl (.list (.list XNc))), .one (.fn 133 [] [some 0]), .one (.pl (.int .i64)), .one (.pl (.int .i64))]⟩, [], [(.ret, [4], ⟨[(true, .box [.fn 102 [] []])], [.one (.pl (.int .i64))]⟩), (.norm, [], ⟨[(true, .box [.fn 102 [] []])], []⟩)]⟩,
 g9,
 g9,
 ⟨[0, 6, 7, 8], ⟨[(true, .box [.sl 1]), (false, .arr XKc)], [.one (.ptr 0 0), .one (.pl (.list .str)), .one (.pl (.int .i64)), .one (.pl (.int .i64))]⟩, [], [(.norm, [], ⟨[(true, .box [.sl 2]), (true, .gone), (true, .arr XKc)], []⟩)]⟩,
 g9,
 ⟨[0, 2, 3, 10, 11, 12], ⟨[(true, .box [.sl 1]), (false, .arr XKc)], [.one (.ptr 0 0), .one (.fn 48 [] []), .one (.pl .str), .one (.pl (.list v8)), .one (.pl (.int .i64)), .one (.pl (.int .i64))]⟩, [], [(.norm, [], ⟨[(true, .box [.sl 2]), (true, .gone), (true, .arr XKc)], []⟩)]⟩,
 g9,
 g9,
 g9,
 ⟨[0, 6, 7, 8], ⟨[(true, .box [.pl (.list XNc), .sl 1]), (false, .arr XKc)], [.one (.ptr 0 0), .one (.pl (.list .str)), .one (.pl (.int .i64)), .one (.pl (.int .i64))]⟩, [], [(.norm, [], ⟨[(true, .box [.pl (.list XNc), .sl 2]), (true, .gone), (true, .arr XKc)], []⟩)]⟩,
 g9,
 ⟨[0, 2, 3, 10, 11, 12], ⟨[(true, .box [.sl 1]), (false, .arr XKc)], [.one (.ptr 0 0), .one (.fn 49 [] []), .one (.pl .str), .one (.pl (.list (.list XNc))), .one (.pl (.int .i64)), .one (.pl (.int .i64))]⟩, [], [(.norm, [], ⟨[(true, .box [.sl 2]), (true, .gone), (true, .arr XKc)], []⟩)]⟩,
 g9,
 g9,
 g9,
 g9,
 ⟨[0, 3], ⟨[(true, .box [.sl 2]), (true, .box [.pl n4]), (true, .arr XKc)], [.one (.ptr 0 0), .one (.ptr 1 0)]⟩, [], [(.ret, [], ⟨[(true, .box [.sl 3]), (true, .box [.pl n4]), (true, .gone), (true, .arr XKc)], []⟩), (.norm, [], ⟨[(true, .box [.sl 3]), (true, .box [.pl n4]), (true, .gone), (true, .arr XKc)], []⟩)]⟩,
 ⟨[0, 44, 45, 46], ⟨[(true, .box [.sl 1]), (false, .arr XKc)], [.one (.ptr 0 0), .one (.pl (.list D9)), .one (.pl (.int .i64)), .one (.pl (.int .i64))]⟩, [0, 3], [(.norm, [], ⟨[(true, .box [.sl 2]), (true, .gone), (true, .arr XKc)], []⟩)]⟩,
 ⟨[0, 3], ⟨[(true, .box [.sl 2]), (true, .box [.pl n4]), (true, .arr XKc)], [.one (.ptr 0 0), .one (.ptr 1 0)]⟩, [], [(.ret, [], ⟨[(true, .box [.sl 2]), (true, .box [.pl n4]), (true, .arr XKc)], []⟩), (.norm, [], ⟨[(true, .box [.sl 3]), (true, .box [.pl n4]), (true, .gone), (true, .arr XKc)], []⟩)]⟩,
 ⟨[0, 85, 86, 87], ⟨[(true, .box [.sl 1]), (false, .arr XKc)], [.one (.ptr 0 0), .one (.pl (.list P6)), .one (.pl (.int .i64)), .one (.pl (.int .i64))]⟩, [0], [(.norm, [], ⟨[(true, .box [.sl 2]), (true, .gone), (true, .arr XKc)], []⟩)]⟩,
 ⟨[3, 12, 13, 14], ⟨[(true, .box [.sl 1]), (false, .arr XKc)], [.one (.ptr 0 0), .one (.pl (.list n4)), .one (.pl (.int .i64)), .one (.pl (.int .i64))]⟩, [1, 2, 3], [(.norm, [], ⟨[(true, .box [.sl 2]), (true, .gone), (true, .arr XKc)], []⟩)]⟩,
 g9,
 g9,
 g9,
 g9,
 g9,
 g9,
 g9,
 g9,
 g9,
 ⟨[0, 1, 7, 15, 16, 17], ⟨[(false, .arr XNc), (true, .arr (.int .i64))], [.one (.sl 0), .one (.pl (.list XNc)), .one (.sl 1), .one (.sl 1), .one (.pl (.int .i64)), .one (.pl (.int .i64))]⟩, [1, 2, 6, 7], [(.norm, [0], ⟨[(true, .gone), (true, .arr (.int .i64)), (true, .arr XNc)], [.one (.sl 2)]⟩)]⟩,
 g9,
 g9,
 g9,
 g9,
 g9,
 g9,
 g9,
 g9,
 g9,
 g9,
 g9,
 g9,
 g9,
 g9,
 g9,
 g9,
 g9,
 g9,
 g9,
 g9,
 g9,
 g9,
 g9,
 g9,
 g9,
 g9,
 g9,
 g9,
 g9,
 g9,
 g9,
 g9,
 g9,
 g9,
 g9,
 g9,
 g9,
 g9,
 g9,
 g9,
 g9,
 g9,
 g9,
 g9,
 g9,
 g9,
 g9,
 g9,
 g9,
 ⟨[1, 15, 16], ⟨[(true, .box [.sl 1, .pl .str, .pl .str]), (true, .arr n4)], [.one (.ptr 0 0), .one (.pl (.int .i64)), .one (.pl (.int .i64))]⟩, [1, 2], [(.norm, [], ⟨[(true, .box [.sl 1, .pl .str, .pl .str]), (true, .arr n4)], []⟩)]⟩,
 ⟨[4], ⟨[(true, .zip n4 [.pl .bool, .pl .str, .sl 1, .pl .str, .pl (.int .i64), .sl 2, .sl 3, .sl 4]), (true, .arr v8), (true, .arr v8), (true, .arr P6), (true, .arr D9)], [.one (.eptr 0 0)]⟩, [1, 15, 16], [(.norm, [], ⟨[(true, .zip n4 [.pl .bool, .pl .str, .sl 1, .pl .str, .pl (.int .i64), .sl 2, .sl 3, .sl 4]), (true, .arr v8), (true, .arr v8), (true, .arr P6), (true, .arr D9)], []⟩)]⟩,
 ⟨[4, 59, 60], ⟨[(true, .zip n4 [.pl .bool, .pl .str, .sl 1, .pl .str, .pl (.int .i64), .sl 2, .sl 3, .sl 4]), (true, .arr v8), (true, .arr v8), (true, .arr P6), (true, .arr D9)], [.one (.eptr 0 0), .one (.pl (.int .i64)), .one (.pl (.int .i64))]⟩, [4], [(.norm, [], ⟨[(true, .zip n4 [.pl .bool, .pl .str, .sl 1, .pl .str, .pl (.int .i64), .sl 2, .sl 3, .sl 4]), (true, .arr v8), (true, .arr v8), (true, .arr P6), (true, .arr D9)], []⟩)]⟩,
 ⟨[4, 84, 85], ⟨[(true, .zip n4 [.pl .bool, .pl .str, .sl 1, .pl .str, .pl (.int .i64), .sl 2, .sl 3, .sl 4]), (true, .arr v8), (true, .arr v8), (true, .arr P6), (true, .arr D9)], [.one (.eptr 0 0), .one (.pl (.int .i64)), .one (.pl (.int .i64))]⟩, [], [(.norm, [], ⟨[(true, .zip n4 [.pl .bool, .pl .str, .sl 1, .pl .str, .pl (.int .i64), .sl 2, .sl 3, .sl 4]), (true, .arr v8), (true, .arr v8), (true, .arr P6), (true, .arr D9)], []⟩)]⟩,
 ⟨[7], ⟨[(true, .zip D9 [.pl (.int .i64), .pl .str, .pl (.int .i64), .sl 1, .sl 2, .sl 3]), (true, .arr XNc), (true, .arr XNc), (true, .arr (.list XNc))], [.one (.eptr 0 0)]⟩, [4, 84, 85], [(.norm, [], ⟨[(true, .zip D9 [.pl (.int .i64), .pl .str, .pl (.int .i64), .sl 1, .sl 2, .sl 3]), (true, .arr XNc), (true, .arr XNc), (true, .arr (.list XNc))], []⟩)]⟩,
 ⟨[7, 122, 123], ⟨[(true, .zip D9 [.pl (.int .i64), .pl .str, .pl (.int .i64), .sl 1, .sl 2, .sl 3]), (true, .arr XNc), (true, .arr XNc), (true, .arr (.list XNc))], [.one (.eptr 0 0), .one (.pl (.int .i64)), .one (.pl (.int .i64))]⟩, [], [(.norm, [], ⟨[(true, .zip D9 [.pl (.int .i64), .pl .str, .pl (.int .i64), .sl 1, .sl 2, .sl 3]), (true, .arr XNc), (true, .arr XNc), (true, .arr (.list XNc))], []⟩)]⟩,
 g9,
 g9,
 ⟨[0, 3, 4], ⟨[(true, .arr (.int .i64))], [.one (.pl (.list XNc)), .one (.sl 0), .one (.pl (.int .i64))]⟩, [0, 3], [(.ret, [2], ⟨[(true, .arr (.int .i64))], [.one (.pl .bool)]⟩), (.norm, [], ⟨[(true, .arr (.int .i64))], []⟩)]⟩,
 ⟨[3, 4, 5, 6], ⟨[(true, .arr (.int .i64)), (true, .arr (.int .i64))], [.one (.sl 0), .one (.pl (.int .i64)), .one (.sl 1), .one (.pl (.int .i64))]⟩, [0, 3, 4], [(.ret, [2], ⟨[(true, .arr (.int .i64)), (true, .arr (.int .i64))], [.one (.pl .bool)]⟩), (.norm, [], ⟨[(true, .arr (.int .i64)), (true, .arr (.int .i64))], []⟩)]⟩,
 ⟨[0, 5, 6, 7], ⟨[(true, .box [.pl XNc]), (true, .arr (.int .i64))], [.one (.pl (.list XNc)), .one (.ptr 0 0), .one (.sl 1), .one (.pl (.int .i64))]⟩, [], [(.ret, [4], ⟨[(true, .box [.pl XNc]), (true, .arr (.int .i64))], [.one (.pl .bool)]⟩), (.norm, [], ⟨[(true, .box [.pl XNc]), (true, .arr (.int .i64))], []⟩)]⟩,
 ⟨[0, 3, 7], ⟨[(true, .arr (.int .i64))], [.one (.pl (.list XNc)), .one (.sl 0), .one (.pl (.int .i64))]⟩, [0], [(.ret, [2], ⟨[(true, .arr (.int .i64))], [.one (.pl .bool)]⟩), (.norm, [], ⟨[(true, .arr (.int .i64))], []⟩)]⟩,
 g9,
 ⟨[0, 2, 7, 8, 9], ⟨[(false, .arr XNc), (true, .arr (.int .i64)), (false, .arr (.int .i64))], [.one (.pl (.list XNc)), .one (.sl 0), .one (.sl 1), .one (.sl 2), .one (.pl (.int .i64))]⟩, [0, 1, 6], [(.norm, [2, 8], ⟨[(true, .gone), (true, .arr (.int .i64)), (true, .gone), (true, .arr XNc), (true, .arr (.int .i64))], [.one (.sl 3), .one (.sl 4)]⟩)]⟩,
 g9,
 g9,
 g9,
 g9,
 g9,
 g9,
 g9,
 g9,
 g9,
 g9,
 g9,
 g9,
 g9,
 g9,
 ⟨[1, 3, 4], ⟨[(true, .box [.pl n4]), (true, .box [.pl .bool, .pl .str, .sl 2, .pl .str, .pl (.int .i64), .sl 3, .sl 4, .sl 5]), (true, .arr v8), (true, .arr v8), (false, .arr P6), (true, .arr D9)], [.one (.ptr 0 0), .one (.ptr 1 0), .one (.pl (.int .i64))]⟩, [1, 2, 3], [(.norm, [], ⟨[(true, .box [.pl n4]), (true, .box [.pl .bool, .pl .str, .sl 2, .pl .str, .pl (.int .i64), .sl 3, .sl 6, .sl 5]), (true, .arr v8), (true, .arr v8), (true, .gone), (true, .arr D9), (true, .arr P6)], []⟩)]⟩,
 ⟨[1, 3, 5], ⟨[(true, .box [.pl n4]), (true, .box [.pl .bool, .pl .str, .sl 2, .pl .str, .pl (.int .i64), .sl 3, .sl 4, .sl 5]), (true, .arr v8), (true, .arr v8), (true, .arr P6), (false, .arr D9)], [.one (.ptr 0 0), .one (.ptr 1 0), .one (.pl (.int .i64))]⟩, [2, 3], [(.norm, [], ⟨[(true, .box [.pl n4]), (true, .box [.pl .bool, .pl .str, .sl 2, .pl .str, .pl (.int .i64), .sl 3, .sl 4, .sl 6]), (true, .arr v8), (true, .arr v8), (true, .arr P6), (true, .gone), (true, .arr D9)], []⟩)]⟩,
 ⟨[1, 5, 6, 7], ⟨[(true, .box [.pl n4]), (true, .box [.pl (.int .i64), .pl .str, .pl (.int .i64), .sl 2, .sl 3, .sl 4]), (true, .arr XNc), (true, .arr XNc), (false, .arr (.list XNc))], [.one (.ptr 0 0), .one (.pl (.int .i64)), .one (.ptr 1 0), .one (.pl (.int .i64))]⟩, [1, 3, 5, 6], [(.norm, [], ⟨[(true, .box [.pl n4]), (true, .box [.pl (.int .i64), .pl .str, .pl (.int .i64), .sl 2, .sl 3, .sl 5]), (true, .arr XNc), (true, .arr XNc), (true, .gone), (true, .arr (.list XNc))], []⟩)]⟩,
 g9,
 g9,
 ⟨[1, 3, 4], ⟨[(true, .box [.pl H4]), (true, .box [.sl 2, .pl .str, .pl .str]), (false, .arr n4)], [.one (.ptr 0 0), .one (.ptr 1 0), .one (.pl (.int .i64))]⟩, [2, 3], [(.norm, [], ⟨[(true, .box [.pl H4]), (true, .box [.sl 3, .pl .str, .pl .str]), (true, .gone), (true, .arr n4)], []⟩)]⟩,
 ⟨[2, 3, 5], ⟨[(true, .box [.pl H4]), (true, .box [.pl H4])], [.one (.ptr 0 0), .one (.ptr 1 0), .one (.pl (.int .i64))]⟩, [], [(.ret, [4], ⟨[(true, .box [.pl H4]), (true, .box [.pl H4])], [.one (.pl .bool)]⟩), (.norm, [], ⟨[(true, .box [.pl H4]), (true, .box [.pl H4])], []⟩)]⟩,
 ⟨[0, 1, 5], ⟨[], [.one (.pl (.list v8)), .one (.pl (.list v8)), .one (.pl (.int .i64))]⟩, [], [(.ret, [4], ⟨[], [.one (.pl .bool)]⟩), (.norm, [], ⟨[], []⟩)]⟩,
 ⟨[2, 3, 5], ⟨[(true, .box [.pl n4]), (true, .box [.pl n4])], [.one (.ptr 0 0), .one (.ptr 1 0), .one (.pl (.int .i64))]⟩, [2, 3], [(.ret, [4], ⟨[(true, .box [.pl n4]), (true, .box [.pl n4])], [.one (.pl .bool)]⟩), (.norm, [], ⟨[(true, .box [.pl n4]), (true, .box [.pl n4])], []⟩)]⟩,
 ⟨[0, 1, 5], ⟨[], [.one (.pl (.list XNc)), .one (.pl (.list XNc)), .one (.pl (.int .i64))]⟩, [], [(.ret, [4], ⟨[], [.one (.pl .bool)]⟩), (.norm, [], ⟨[], []⟩)]⟩,
 ⟨[2, 3, 6], ⟨[(true, .box [.pl n4]), (true, .box [.pl n4])], [.one (.ptr 0 0), .one (.ptr 1 0), .one (.pl (.int .i64))]⟩, [], [(.ret, [4], ⟨[(true, .box [.pl n4]), (true, .box [.pl n4])], [.one (.pl .bool)]⟩), (.norm, [], ⟨[(true, .box [.pl n4]), (true, .box [.pl n4])], []⟩)]⟩,
 ⟨[0, 1, 5], ⟨[], [.one (.pl (.list (.list XNc))), .one (.pl (.list (.list XNc))), .one (.pl (.int .i64))]⟩, [], [(.ret, [4], ⟨[], [.one (.pl .bool)]⟩), (.norm, [], ⟨[], []⟩)]⟩,
 ⟨[1, 3], ⟨[(true, .box [.pl H4])], [.one (.ptr 0 0), .one (.pl (.int .i64))]⟩, [], [(.ret, [2], ⟨[(true, .box [.pl H4])], [.one (.pl .bool)]⟩), (.norm, [], ⟨[(true, .box [.pl H4])], []⟩)]⟩,
 ⟨[0, 3], ⟨[], [.one (.pl (.list v8)), .one (.pl (.int .i64))]⟩, [0], [(.ret, [2], ⟨[], [.one (.pl .bool)]⟩), (.norm, [], ⟨[], []⟩)]⟩,
 ⟨[1, 3], ⟨[(true, .box [.pl n4])], [.one (.ptr 0 0), .one (.pl (.int .i64))]⟩, [1], [(.ret, [2], ⟨[(true, .box [.pl n4])], [.one (.pl .bool)]⟩), (.norm, [], ⟨[(true, .box [.pl n4])], []⟩)]⟩,
 ⟨[0, 3], ⟨[], [.one (.pl (.list XNc)), .one (.pl (.int .i64))]⟩, [], [(.ret, [2], ⟨[], [.one (.pl .bool)]⟩), (.norm, [], ⟨[], []⟩)]⟩,
 ⟨[1, 4], ⟨[(true, .box [.pl n4])], [.one (.ptr 0 0), .one (.pl (.int .i64))]⟩, [], [(.ret, [2], ⟨[(true, .box [.pl n4])], [.one (.pl .bool)]⟩), (.norm, [], ⟨[(true, .box [.pl n4])], []⟩)]⟩,
 ⟨[1, 4], ⟨[(true, .box [.pl D9])], [.one (.ptr 0 0), .one (.pl (.int .i64))]⟩, [1], [(.ret, [2], ⟨[(true, .box [.pl D9])], [.one (.pl .bool)]⟩), (.norm, [], ⟨[(true, .box [.pl D9])], []⟩)]⟩,
 ⟨[1, 3, 4], ⟨[(true, .box [.pl H4])], [.one (.ptr 0 0), .one (.pl .str), .one (.pl (.int .i64))]⟩, [1, 2], [(.norm, [3], ⟨[(true, .box [.pl H4])], [.one (.pl .str)]⟩)]⟩,
 ⟨[1, 3, 4], ⟨[(true, .box [.pl n4])], [.one (.ptr 0 0), .one (.pl .str), .one (.pl (.int .i64))]⟩, [1, 2], [(.norm, [3], ⟨[(true, .box [.pl n4])], [.one (.pl .str)]⟩)]⟩,
 g9,
 ⟨[0, 5, 6], ⟨[(false, .arr .str)], [.one (.pl (.list XNc)), .one (.sl 0), .one (.pl (.int .i64))]⟩, [0, 1, 4], [(.norm, [5], ⟨[(true, .gone), (true, .arr .str)], [.one (.sl 1)]⟩)]⟩,
 ⟨[5, 7, 8], ⟨[(true, .arr .str)], [.one (.sl 0), .one (.pl .str), .one (.pl (.int .i64))]⟩, [4], [(.norm, [7], ⟨[(true, .arr .str)], [.one (.pl .str)]⟩)]⟩,
 ⟨[1, 4, 5], ⟨[(true, .box [.pl D9])], [.one (.ptr 0 0), .one (.pl .str), .one (.pl (.int .i64))]⟩, [2], [(.norm, [4], ⟨[(true, .box [.pl D9])], [.one (.pl .str)]⟩)]⟩,
 ⟨[0, 3, 4], ⟨[], [.one (.pl (.list v8)), .one (.pl .str), .one (.pl (.int .i64))]⟩, [2], [(.norm, [3], ⟨[], [.one (.pl .str)]⟩)]⟩,
 ⟨[1, 5], ⟨[(true, .box [.pl n4])], [.one (.ptr 0 0), .one (.pl .str)]⟩, [], [(.ret, [2], ⟨[(true, .box [.pl n4])], [.one (.pl .str)]⟩)]⟩,
 ⟨[1, 5, 6], ⟨[(true, .box [.pl n4])], [.one (.ptr 0 0), .one (.pl .str), .one (.pl (.int .i64))]⟩, [1, 2], [(.norm, [5], ⟨[(true, .box [.pl n4])], [.one (.pl .str)]⟩)]⟩,
 ⟨[1, 5, 7], ⟨[(true, .box [.pl n4])], [.one (.ptr 0 0), .one (.pl .str), .one (.pl (.int .i64))]⟩, [2], [(.norm, [5], ⟨[(true, .box [.pl n4])], [.one (.pl .str)]⟩)]⟩]
 lkL := [(1, [(0, 0), (2, 1), (4, 2), (6, 3)]), (3, [(0, 69)]), (4, [(0, 12), (2, 13)]), (5, [(0, 6), (2, 8)]), (7, [(0, 7)]), (10, [(0, 9)]), (12, [(0, 10)]), (13, [(0, 11)]), (27, [(0, 17)]), (31, [(0, 50)]), (38, [(0, 35)]), (39, [(0, 33)]), (40, [(0, 31)]), (42, [(0, 29)]), (43, [(0, 27)]), (47, [(0, 23)]), (50, [(0, 22)]), (56, [(0, 25)]), (62, [(0, 43), (2, 44)]), (63, [(0, 49)]), (64, [(0, 52)]), (65, [(0, 54)]), (66, [(0, 110)]), (72, [(0, 71)]), (78, [(0, 72)]), (83, [(0, 73)]), (88, [(0, 74)]), (92, [(0, 75), (2, 78)]), (97, [(0, 79)]), (99, [(0, 86), (2, 87)]), (101, [(0, 88)]), (105, [(0, 89)]), (110, [(0, 90)]), (112, [(0, 107), (2, 109)]), (113, [(0, 93)]), (115, [(0, 95)]), (124, [(0, 99)]), (131, [(0, 101)]), (132, [(0, 170), (2, 172), (4, 173), (6, 175)]), (139, [(0, 120)]), (141, [(0, 203)]), (142, [(0, 198), (2, 199), (4, 200)]), (145, [(0, 178), (2, 179), (4, 181)]), (148, [(0, 180)]), (149, [(0, 183)]), (150, [(0, 204)]), (151, [(0, 206), (2, 208)]), (152, [(0, 205)]), (153, [(0, 207)]), (154, [(0, 209)]), (155, [(0, 216)]), (156, [(0, 210)]), (157, [(0, 212), (2, 214)]), (158, [(0, 211)]), (160, [(0, 213)]), (161, [(1, 215)]), (162, [(0, 217), (2, 224), (4, 225)]), (163, [(1, 221)]), (167, [(0, 219), (2, 220)]), (172, [(0, 222)])]
 tkL := [(3, [(15, 70)]), (34, [(4, 47)]), (35, [(3, 46)]), (93, [(9, 76), (10, 77)]), (112, [(10, 106), (17, 108)]), (132, [(7, 171), (17, 174)]), (162, [(11, 223)])]
 dkL := [(0, [(3, ([], (.take 0 (.take 2 (.only 1 (.only 3 (.take 4 (.take 5 (.take 6 (.take 8 (.only 7 (.only 9 (.take 10 (.take 11 (.take 12 (.take 13 (.take 15 (.only 14 (.only 16 (.only 17 (.take 18 (.take 19 (.only 20 (.take 21 (.take 22 .done)))))))))))))))))))))))))]),
 (2, [(4, ([], (.take 0 (.take 1 (.take 2 (.take 3 (.only 4 (.take 5 (.take 6 (.take 7 (.only 8 (.take 9 (.take 10 (.take 11 (.take 12 (.take 13 (.only 14 (.only 15 (.take 16 (.take 17 (.take 18 (.only 19 (.take 20 (.take 21 (.take 22 .done)))))))))))))))))))))))))]),
 (3, [(3, ([2, 3], (.take 0 (.take 1 (.only 2 (.only 3 .done)))))), (8, ([6, 7, 30], (.take 0 (.take 2 (.alt 1 (.only 3 (.only 4 (.only 5 (.take 6 (.only 7 .done))))) (.only 3 (.alt 1 (.only 4 (.only 5 (.take 6 (.only 7 .done)))) (.only 4 (.only 1 (.only 5 (.take 6 (.only 7 .done)))))))))))), (15, ([6], (.take 0 (.only 1 (.take 2 (.take 3 (.take 4 (.take 5 (.take 7 (.take 8 (.take 9 (.alt 6 (.only 10 (.take 11 (.take 12 (.take 13 .done)))) (.only 10 (.take 11 (.only 6 (.take 12 (.take 13 .done))))))))))))))))), (18, ([2, 3], (.take 0 (.take 1 (.take 2 (.take 3 (.take 4 (.only 5 (.only 6 .done)))))))))]),
 (13, [(5, ([], (.take 0 (.take 1 (.take 2 (.take 3 (.take 4 (.take 5 (.take 6 (.take 7 (.take 8 (.take 9 (.take 10 (.take 11 (.take 12 (.take 13 (.take 14 (.take 15 (.take 16 (.take 17 (.take 18 (.take 19 (.take 20 (.take 21 .done))))))))))))))))))))))))]),
 (15, [(1, ([0], (.take 0 c1K))), (3, ([], (.take 0 (.take 1 (.take 2 (.take 3 (.take 4 b3l)))))))]),
 (18, [(1, ([0], (.take 0 (.take 1 (.take 2 (.take 3 b6A))))))]),
 (22, [(1, ([0], (.take 0 c1K))), (3, ([], (.take 0 (.take 1 (.take 2 (.take 3 (.take 4 b3l)))))))]),
 (24, [(5, ([], (.take 0 (.take 1 (.take 2 (.take 3 (.take 4 (.take 5 (.take 6 (.take 7 (.take 8 (.take 9 (.take 10 (.take 11 (.take 12 .done)))))))))))))))]),
 (25, [(1, ([0], (.take 0 (.only 1 (.take 2 (.take 3 (.take 4 (.take 5 (.take 7 (.take 8 (.take 9 (.alt 6 (.only 10 (.take 11 (.take 12 (.take 13 (.take 14 (.take 15 (.take 16 (.take 17 (.take 19 c1L))))))))) (.only 10 (.take 11 (.only 6 (.take 12 (.take 13 (.take 14 (.take 15 (.take 16 (.take 17 (.take 19 c1L))))))))))))))))))))))]),
 (26, [(1, ([0], (.take 0 (.take 1 (.take 2 (.take 3 b6A))))))]),
 (34, [(3, ([], (.take 0 (.take 1 (.take 2 (.take 3 (.take 4 (.take 5 (.take 6 (.take 7 (.alt 8 (.take 9 (.take 10 (.take 11 (.take 12 (.only 13 a4Q))))) (.only 13 (.only 8 (.take 9 (.take 10 (.take 11 (.take 12 a4Q)))))))))))))))))]),
 (35, [(6, ([6], (.take 0 (.take 1 (.take 2 (.take 3 (.take 4 (.take 5 (.only 6 .done))))))))), (11, ([6], (.take 0 (.take 1 (.take 2 (.take 3 (.take 4 (.take 5 (.take 6 (.take 7 (.only 8 .done)))))))))))]),
 (44, [(5, ([], (.take 0 (.take 1 (.take 2 (.take 3 (.take 4 (.take 5 (.take 6 (.take 7 (.take 8 (.take 9 .done)))))))))))), (8, ([], (.take 0 (.take 1 (.take 2 (.take 3 (.take 4 b3l)))))))]),
 (45, [(2, ([0], (.take 0 (.take 1 (.take 2 (.take 3 b6A))))))]),
 (55, [(1, ([], (.take 0 (.take 1 (.take 2 (.take 3 (.take 4 (.take 5 (.take 6 (.take 7 (.take 8 (.take 9 (.take 10 (.take 11 (.take 12 (.take 13 (.take 14 (.take 15 (.take 16 (.take 17 .done)))))))))))))))))))), (3, ([], (.take 0 (.take 1 (.take 2 (.take 3 (.take 4 b3l)))))))]),
 (59, [(2, ([], (.take 0 (.take 1 (.take 2 (.take 3 (.take 4 (.take 5 (.take 6 (.take 7 (.take 8 (.take 9 (.take 10 (.take 11 (.take 12 (.take 13 (.take 14 (.take 15 (.take 16 (.take 17 (.take 18 (.take 19 (.take 20 (.take 21 (.take 22 (.take 23 (.take 24 (.take 25 (.take 26 (.take 27 (.take 28 (.take 29 (.take 30 (.take 31 (.take 32 (.take 33 (.take 34 (.take 35 (.only 36 (.take 37 (.take 38 .done))))))))))))))))))))))))))))))))))))))))), (4, ([], (.take 0 (.take 1 (.take 2 (.take 3 (.take 4 (.take 5 (.take 6 (.take 7 (.take 8 (.take 9 (.take 10 (.only 11 (.take 12 .done)))))))))))))))]),
 (62, [(11, ([3], (.take 0 (.take 1 (.take 2 (.take 3 (.take 4 (.take 6 (.take 7 (.take 8 (.take 9 (.take 10 (.take 11 (.alt 5 (.only 12 (.take 13 a4Q)) (.only 12 (.take 13 (.only 5 a4Q)))))))))))))))))]),
 (93, [(9, ([], (.take 0 (.take 1 (.take 2 (.take 3 (.take 4 (.take 5 (.take 6 (.take 7 (.alt 8 (.alt 9 (.only 10 (.only 11 .done)) (.only 10 (.only 9 (.only 11 .done)))) (.only 10 (.only 8 (.only 9 (.only 11 .done)))))))))))))))]),
 (95, [(2, ([2], (.take 0 (.take 1 (.take 2 (.take 3 (.take 4 (.take 5 (.take 6 (.only 7 (.take 8 (.only 9 .done))))))))))))]),
 (99, [(9, ([3], (.take 0 (.take 1 (.take 2 (.take 3 (.take 4 (.take 6 (.take 7 (.take 8 (.alt 5 (.only 9 (.take 10 (.take 11 (.only 12 .done)))) (.only 9 (.only 5 (.take 10 (.take 11 (.only 12 .done))))))))))))))))]),
 (120, [(2, ([], (.take 0 (.take 1 (.take 2 (.take 3 (.take 4 (.take 5 (.take 6 .done)))))))))]),
 (132, [(6, ([20], (.take 0 (.take 1 (.take 2 (.take 3 (.take 4 (.take 5 (.take 6 (.take 9 (.take 10 (.take 11 (.take 14 (.take 15 (.take 16 (.take 19 (.take 20 (.take 21 (.alt 7 (.alt 8 (.alt 12 (.alt 13 (.alt 17 b3k (.only 22 (.only 17 a8x))) (.alt 17 a0q (.only 22 a0p))) (.alt 17 (.alt 12 a0q (.only 22 (.only 12 R3))) (.only 22 (.alt 12 a0p (.only 17 (.only 12 R3)))))) (.alt 12 (.alt 8 (.alt 13 (.alt 17 b3k (.only 22 (.only 17 a8x))) (.alt 17 a0q (.only 22 a0p))) (.alt 17 (.alt 8 a0q (.only 22 F5)) (.only 22 (.alt 8 a0p (.only 17 F5))))) (.alt 17 (.alt 8 (.alt 12 a0q (.only 22 (.only 12 R3))) (.alt 12 (.alt 8 a0q (.only 22 F5)) (.only 22 (.alt 8 (.only 12 R3) (.only 12 F5))))) (.only 22 (.alt 8 (.alt 12 a0p (.only 17 (.only 12 R3))) (.alt 12 (.alt 8 a0p (.only 17 F5)) (.only 17 (.alt 8 (.only 12 R3) (.only 12 F5))))))))) (.alt 12 (.alt 7 (.alt 8 (.alt 13 (.alt 17 b3k (.only 22 (.only 17 a8x))) (.alt 17 a0q (.only 22 a0p))) (.alt 17 (.alt 8 a0q (.only 22 F5)) (.only 22 (.alt 8 a0p (.only 17 F5))))) (.alt 17 (.alt 7 (.alt 8 a0q (.only 22 F5)) (.only 22 (.only 7 F5))) (.only 22 (.alt 7 (.alt 8 a0p (.only 17 F5)) (.only 17 (.only 7 F5)))))) (.alt 17 (.alt 7 (.alt 8 (.alt 12 a0q (.only 22 (.only 12 R3))) (.alt 12 (.alt 8 a0q (.only 22 F5)) (.only 22 (.alt 8 (.only 12 R3) (.only 12 F5))))) (.alt 12 (.alt 7 (.alt 8 a0q (.only 22 F5)) (.only 22 (.only 7 F5))) (.only 22 (.alt 7 (.alt 8 (.only 12 R3) (.only 12 F5)) (.only 12 (.only 7 F5)))))) (.only 22 (.alt 7 (.alt 8 (.alt 12 a0p (.only 17 (.only 12 R3))) (.alt 12 (.alt 8 a0p (.only 17 F5)) (.only 17 (.alt 8 (.only 12 R3) (.only 12 F5))))) (.alt 12 (.alt 7 (.alt 8 a0p (.only 17 F5)) (.only 17 (.only 7 F5))) (.only 17 (.alt 7 (.alt 8 (.only 12 R3) (.only 12 F5)) (.only 12 (.only 7 F5)))))))))))))))))))))))))))), (10, ([4], (.take 0 (.take 1 (.take 2 (.take 4 (.take 5 (.take 6 (.take 7 (.take 9 (.alt 3 (.only 8 (.take 10 (.take 11 (.only 12 (.only 13 a4Q))))) (.only 8 (.take 10 (.take 11 (.alt 3 (.only 12 (.only 13 a4Q)) (.only 12 (.alt 3 (.only 13 a4Q) (.only 13 (.only 3 a4Q))))))))))))))))))), (16, ([91], (.take 0 (.take 1 (.take 2 (.take 3 (.take 4 (.take 5 (.take 8 (.take 9 (.take 10 (.take 13 (.take 14 (.take 15 (.alt 6 (.alt 7 (.alt 11 (.alt 12 (.only 16 R4) (.only 16 (.only 12 R4))) (.only 16 (.only 11 (.only 12 R4)))) (.alt 11 (.alt 7 (.alt 12 (.only 16 R4) (.only 16 (.only 12 R4))) (.only 16 (.only 7 (.only 12 R4)))) (.only 16 (.alt 7 (.only 11 (.only 12 R4)) (.only 11 (.only 7 (.only 12 R4))))))) (.alt 11 (.alt 6 (.alt 7 (.alt 12 (.only 16 R4) (.only 16 (.only 12 R4))) (.only 16 (.only 7 (.only 12 R4)))) (.only 16 (.only 6 (.only 7 (.only 12 R4))))) (.only 16 (.alt 6 (.alt 7 (.only 11 (.only 12 R4)) (.only 11 (.only 7 (.only 12 R4)))) (.only 11 (.only 6 (.only 7 (.only 12 R4)))))))))))))))))))))), (20, ([7], (.take 0 (.take 1 (.take 2 (.take 4 (.take 5 (.take 6 (.take 7 (.take 9 (.alt 3 (.only 8 (.take 10 (.only 11 (.only 12 (.take 13 (.only 14 .done)))))) (.only 8 (.take 10 (.alt 3 (.only 11 (.only 12 (.take 13 (.only 14 .done)))) (.only 11 (.alt 3 (.only 12 (.take 13 (.only 14 .done))) (.only 12 (.only 3 (.take 13 (.only 14 .done))))))))))))))))))))]),
 (141, [(5, ([3], (.take 0 (.take 2 (.take 3 (.take 4 (.take 5 (.take 6 (.alt 1 (.only 7 (.only 8 (.only 9 (.take 10 (.only 11 .done))))) (.only 7 (.alt 1 (.only 8 (.only 9 (.take 10 (.only 11 .done)))) (.only 8 (.only 1 (.only 9 (.take 10 (.only 11 .done))))))))))))))))]),
 (142, [(9, ([3], (.take 0 (.take 2 (.take 3 (.take 4 (.take 5 (.take 6 (.take 7 (.take 8 (.take 9 (.take 10 (.take 11 (.take 12 (.take 13 (.alt 1 (.only 14 (.take 15 (.only 16 (.only 17 (.take 18 (.only 19 .done)))))) (.only 14 (.take 15 (.alt 1 (.only 16 (.only 17 (.take 18 (.only 19 .done)))) (.only 16 (.only 1 (.only 17 (.take 18 (.only 19 .done)))))))))))))))))))))))), (20, ([6], (.take 0 (.take 2 (.take 3 (.take 4 (.take 5 (.take 6 (.take 7 (.take 8 (.take 9 (.take 10 (.alt 1 (.only 11 (.only 12 (.only 13 (.take 14 (.only 15 .done))))) (.only 11 (.alt 1 (.only 12 (.only 13 (.take 14 (.only 15 .done)))) (.only 12 (.only 1 (.only 13 (.take 14 (.only 15 .done))))))))))))))))))))]),
 (150, [(6, ([], (.take 0 (.take 1 (.take 2 (.take 3 (.take 4 (.take 5 (.take 6 (.take 7 (.take 8 (.take 9 (.only 10 (.take 11 .done))))))))))))))]),
 (151, [(6, ([], (.take 0 (.take 1 (.take 2 (.take 3 (.take 4 (.take 5 (.take 6 (.take 7 (.take 8 (.take 9 (.take 10 (.take 11 (.take 12 (.take 13 (.take 14 (.take 15 (.take 16 (.take 17 (.take 18 (.take 19 (.take 20 (.take 21 (.take 22 (.take 23 (.take 24 (.take 25 (.only 26 (.take 27 (.take 28 .done)))))))))))))))))))))))))))))))]),
 (152, [(6, ([], (.take 0 (.take 1 (.take 2 (.take 3 (.take 4 (.take 5 (.take 6 (.take 7 (.take 8 .done)))))))))))]),
 (153, [(6, ([], (.take 0 (.take 1 (.take 2 (.take 3 (.take 4 (.take 5 (.take 6 (.take 7 (.take 8 .done)))))))))))]),
 (154, [(6, ([], (.take 0 (.take 1 (.take 2 (.take 3 (.take 4 (.take 5 (.take 6 (.take 7 (.only 8 (.take 9 .done))))))))))))]),
 (162, [(7, ([], (.take 0 (.take 1 (.take 2 (.take 3 (.take 4 (.take 5 (.take 9 (.only 6 (.take 7 (.take 8 (.take 10 (.take 11 (.take 12 .done))))))))))))))), (8, ([], (.take 0 (.take 1 (.take 2 (.take 3 (.take 4 (.take 5 (.take 9 (.take 10 (.only 6 (.take 7 (.take 8 (.only 11 (.take 12 (.take 13 (.take 14 .done))))))))))))))))), (21, ([], (.take 0 (.take 1 (.take 2 (.take 3 (.take 4 (.take 5 (.take 6 (.take 7 (.take 8 (.take 9 (.take 10 (.take 11 (.take 12 (.take 13 (.take 14 (.only 15 (.take 16 (.take 17 (.take 18 .done)))))))))))))))))))))]),
 (163, [(10, ([], (.take 0 (.take 1 (.take 2 (.take 3 (.take 4 (.take 5 (.take 6 (.take 7 (.take 8 (.only 9 (.take 10 (.take 11 (.take 12 .done)))))))))))))))]),
 (165, [(14, ([], (.take 0 (.take 1 (.take 2 (.take 6 (.take 7 (.take 8 (.take 12 (.take 13 (.take 14 (.only 3 (.take 4 (.take 5 (.only 9 (.take 10 (.take 11 (.only 15 (.take 16 (.take 17 .done)))))))))))))))))))), (16, ([], (.take 0 (.take 1 (.take 5 (.take 6 (.take 7 (.only 2 (.take 3 (.take 4 (.only 8 (.take 9 (.take 10 .done))))))))))))), (19, ([], (.take 0 (.take 1 (.take 4 (.take 5 (.take 6 (.only 2 (.take 3 (.only 7 (.take 8 (.take 9 .done)))))))))))), (27, ([], (.take 0 (.take 1 (.take 2 (.take 3 (.take 6 (.take 7 (.take 11 (.take 12 (.take 13 (.take 14 (.only 4 (.take 5 (.only 8 (.take 9 (.take 10 (.only 15 (.take 16 (.take 17 .done))))))))))))))))))))]),
 (173, [(9, ([], (.take 0 (.take 1 (.take 2 (.take 3 (.take 4 (.take 5 (.only 6 (.only 7 (.take 8 (.take 9 (.only 10 (.take 11 (.take 12 .done)))))))))))))))]),
 (175, [(4, ([], (.take 0 (.take 2 (.only 1 (.only 3 (.take 4 (.take 5 (.take 6 (.take 7 (.take 8 (.take 9 (.take 10 (.take 11 (.take 12 (.take 13 .done)))))))))))))))), (6, ([], (.take 0 (.only 1 (.take 2 (.take 3 (.take 4 (.take 6 (.only 5 (.only 7 (.take 8 (.take 9 (.take 10 (.only 11 (.take 12 (.take 13 .done))))))))))))))))]),
 (176, [(3, ([], (.take 0 (.take 2 (.take 5 (.take 7 (.only 1 (.only 3 (.take 4 (.only 6 (.only 8 (.only 9 (.take 10 (.take 11 (.only 12 (.take 13 (.take 14 .done)))))))))))))))))])]
 fnumL := [3, 9, 10, 18, 36, 81, 71, 111, 69, 112, 70, 106, 26, 113, 145, 37, 43, 38, 44, 88, 39, 42, 37, 43, 41, 87, 44, 82, 40, 38, 84, 83, 114, 115, 116, 147, 160, 165, 169, 176, 184, 188, 189, 190, 191, 192, 193, 171, 177, 136, 178, 185, 159, 194, 166, 170, 199, 197, 195, 196, 198, 167, 138, 146, 85, 86, 11, 13, 23, 57, 59, 60, 96, 125, 154, 126, 24, 61, 97, 62, 25, 63, 98, 127, 99, 64, 65, 100, 128, 101, 66, 102, 108, 139, 140, 143, 141, 157, 142, 158, 130, 155, 129, 67, 103, 131, 104, 68, 105, 132, 156, 133, 19, 20, 45, 47, 48, 46, 49, 90, 117, 148, 161, 150, 149, 151, 163, 152, 153, 164, 21, 89, 16, 29, 30, 31, 32, 33, 79, 109, 34, 17, 35, 80, 110, 107, 134, 135, 137, 144, 15, 28, 76, 77, 78, 12, 14, 27, 72, 73, 74, 75, 22, 53, 56, 92, 119, 120, 121, 122, 123, 55, 54, 4, 5, 6, 7, 8]
 fnL := [Tryz.f3, Tryz.f9, Tryz.f10, Tryz.f18, Tryz.f36, Tryz.f81, Tryz.f71, Tryz.f111, Tryz.f69, Tryz.f112, Tryz.f70, Tryz.f106, Tryz.f26, Tryz.f113, Tryz.f145, Tryz.f37, Tryz.f43, Tryz.f38, Tryz.f44, Tryz.f88, Tryz.f39, Tryz.f42, Tryz.f37, Tryz.f43, Tryz.f41, Tryz.f87, Tryz.f44, Tryz.f82, Tryz.f40, Tryz.f38, Tryz.f84, Tryz.f83, Tryz.f114, Tryz.f115, Tryz.f116, Tryz.f147, Tryz.f160, Tryz.f165, Tryz.f169, Tryz.f176, Tryz.f184, Tryz.f188, Tryz.f189, Tryz.f190, Tryz.f191, Tryz.f192, Tryz.f193, Tryz.f171, Tryz.f177, Tryz.f136, Tryz.f178, Tryz.f185, Tryz.f159, Tryz.f194, Tryz.f166, Tryz.f170, Tryz.f199, Tryz.f197, Tryz.f195, Tryz.f196, Tryz.f198, Tryz.f167, Tryz.f138, Tryz.f146, Tryz.f85, Tryz.f86, Tryz.f11, Tryz.f13, Tryz.f23, Tryz.f57, Tryz.f59, Tryz.f60, Tryz.f96, Tryz.f125, Tryz.f154, Tryz.f126, Tryz.f24, Tryz.f61, Tryz.f97, Tryz.f62, Tryz.f25, Tryz.f63, Tryz.f98, Tryz.f127, Tryz.f99, Tryz.f64, Tryz.f65, Tryz.f100, Tryz.f128, Tryz.f101, Tryz.f66, Tryz.f102, Tryz.f108, Tryz.f139, Tryz.f140, Tryz.f143, Tryz.f141, Tryz.f157, Tryz.f142, Tryz.f158, Tryz.f130, Tryz.f155, Tryz.f129, Tryz.f67, Tryz.f103, Tryz.f131, Tryz.f104, Tryz.f68, Tryz.f105, Tryz.f132, Tryz.f156, Tryz.f133, Tryz.f19, Tryz.f20, Tryz.f45, Tryz.f47, Tryz.f48, Tryz.f46, Tryz.f49, Tryz.f90, Tryz.f117, Tryz.f148, Tryz.f161, Tryz.f150, Tryz.f149, Tryz.f151, Tryz.f163, Tryz.f152, Tryz.f153, Tryz.f164, Tryz.f21, Tryz.f89, Tryz.f16, Tryz.f29, Tryz.f30, Tryz.f31, Tryz.f32, Tryz.f33, Tryz.f79, Tryz.f109, Tryz.f34, Tryz.f17, Tryz.f35, Tryz.f80, Tryz.f110, Tryz.f107, Tryz.f134, Tryz.f135, Tryz.f137, Tryz.f144, Tryz.f15, Tryz.f28, Tryz.f76, Tryz.f77, Tryz.f78, Tryz.f12, Tryz.f14, Tryz.f27, Tryz.f72, Tryz.f73, Tryz.f74, Tryz.f75, Tryz.f22, Tryz.f53, Tryz.f56, Tryz.f92, Tryz.f119, Tryz.f120, Tryz.f121, Tryz.f122, Tryz.f123, Tryz.f55, Tryz.f54, Tryz.f4, Tryz.f5, Tryz.f6, Tryz.f7, Tryz.f8]
 placeL := [(1, [true, true, false, true]), (1, [true, true, false, true, false, false, true, false, false, true, true, false, true]), (1, [true, true, false, true, false, false, true, false, false, true, true, true, true]), (1, [true, true, false, true, false, false, true, false, false, true, true, true, true, false, false, true, false, false, true, true, true]), (0, []), (0, []), (5, [true, true, false, true, false, false]), (7, [true, true, false, true]), (5, [true, true, true, false, true, false, false]), (10, [true, true, false, true]), (12, [true, true, false, true]), (13, [true, true, false, true]), (4, [true, true, true, true, false]), (4, [true, true, true, true, false, false, false, true, false, true, false, true, false, false]), (0, []), (0, []), (0, []), (27, [true, true, true, true, false]), (0, []), (0, []), (0, []), (0, []), (50, [true, true, false, true]), (47, [true, true, true, true, true, true, true, false, true]), (0, []), (56, [true, true, true, false]), (0, []), (43, [true, true, false]), (0, []), (42, [true, true, false]), (0, []), (40, [true, true, false]), (0, []), (39, [true, true, false]), (0, []), (38, [true, true, false]), (0, []), (0, []), (0, []), (0, []), (0, []), (0, []), (0, []), (62, [true, true, false, true]), (62, [true, true, false, true, false, false, true, false, false, true, true, true]), (0, []), (35, [true, true]), (34, [true, true, true]), (0, []), (63, [true, true, true, true, false]), (31, [true, true, false]), (0, []), (64, [true, true, false]), (0, []), (65, [true, true, false]), (0, []), (0, []), (0, []), (0, []), (0, []), (0, []), (0, []), (0, []), (0, []), (0, []), (0, []), (0, []), (0, []), (0, []), (3, [true, true, true, true, true, false]), (3, [true, true, true, true, true, true, true, true, true, true]), (72, [true, true, true, false]), (78, [true, false, true]), (83, [true, false, true]), (88, [true, false, true]), (92, [true, true, true, false, true]), (93, [true, true, true]), (93, [true, true, true, true]), (92, [true, true, true, false, true, false, false, true, true, false, false, true, true, true]), (97, [true, false, true]), (0, []), (0, []), (0, []), (0, []), (0, []), (0, []), (99, [true, true, false, true]), (99, [true, true, false, true, false, false, true, true, false, false, true, false, true]), (101, [true, false, true]), (105, [true, false, true]), (110, [true, false, true]), (0, []), (0, []), (113, [true]), (0, []), (115, [true]), (0, []), (0, []), (0, []), (124, [true]), (0, []), (131, [true]), (0, []), (0, []), (0, []), (0, []), (112, [true, true]), (112, [true, true, false, true]), (112, [true, true, true, true]), (112, [true, true, true, true, true, true, true, false, true]), (66, [true, true, true, false, true]), (0, []), (0, []), (0, []), (0, []), (0, []), (0, []), (0, []), (0, []), (0, []), (139, [true, true, false, true]), (0, []), (0, []), (0, []), (0, []), (0, []), (0, []), (0, []), (0, []), (0, []), (0, []), (0, []), (0, []), (0, []), (0, []), (0, []), (0, []), (0, []), (0, []), (0, []), (0, []), (0, []), (0, []), (0, []), (0, []), (0, []), (0, []), (0, []), (0, []), (0, []), (0, []), (0, []), (0, []), (0, []), (0, []), (0, []), (0, []), (0, []), (0, []), (0, []), (0, []), (0, []), (0, []), (0, []), (0, []), (0, []), (0, []), (0, []), (0, []), (0, []), (132, [true, true, false, true]), (132, [true, true, false, true, false, false, true, true, false, false, true, true, true]), (132, [true, true, false, true, false, false, true, true, false, false, true, true, true, false, true]), (132, [true, true, false, true, false, false, true, true, false, false, true, true, true, true, true]), (132, [true, true, false, true, false, false, true, true, false, false, true, true, true, true, true, false, false, true, true, false, false, true, true, true]), (132, [true, true, false, true, false, false, true, true, false, false, true, true, true, true, true, false, false, true, true, false, false, true, true, true, true]), (0, []), (0, []), (145, [true, true, true, false, true]), (145, [true, true, true, false, true, false, false, true, false, false, true, true, false, true]), (148, [true, true, true, false, true]), (145, [true, true, true, true, false, true]), (0, []), (149, [true, true, true, false, true]), (0, []), (0, []), (0, []), (0, []), (0, []), (0, []), (0, []), (0, []), (0, []), (0, []), (0, []), (0, []), (0, []), (0, []), (142, [true, true, true, true, true, true, false, true]), (142, [true, true, true, true, true, true, true, false, true]), (142, [true, true, true, true, true, true, true, false, true, false, false, true, false, false, true, true, true, true, false, true]), (0, []), (0, []), (141, [true, true, false, true]), (150, [true, true, false, true]), (152, [true, true, false, true]), (151, [true, true, false, true]), (153, [true, true, false, true]), (151, [true, true, true, false, true]), (154, [true, true, false, true]), (156, [true, true, false, true]), (158, [true, false, true]), (157, [true, true, true, true, false, true]), (160, [true, true, false, true]), (157, [true, true, true, true, true, false, true]), (161, [true, true, false, true, false, true, true, true, true, true, true, true, false, false, true]), (155, [true, true, true, false, true]), (162, [true, true, false, true]), (0, []), (167, [true, true, true, false, true]), (167, [true, true, true, true, true, false, true]), (163, [true, true, true, true, false, true]), (172, [true, true, false, true]), (162, [true, true, true, true, true, true]), (162, [true, true, true, true, true, true, false, true]), (162, [true, true, true, true, true, true, true, true, false, true])] }
def xf : b5y.tb.RF := fun φ => match φ with
 | 69 => fun (d : List UInt8) => (fun (d1 : List UInt8) => (
    some (a1t d1) : Option (List UInt8))) d
 | 123 => fun (d : Int) => (fun (d1 : Int) => (
    bif a4n d1 then
     some (I3 d1)
    else
     none : Option (List UInt8))) d
 | 130 => fun (d : List XK) => (fun (d1 : List XK) => (
    bif Nat.ble (s5 d1).length j4 then
     some (s5 d1)
    else
     none : Option (List UInt8))) d
 | _ => fun _ => none
def T : Tbl := b5y.tbl xf
def U0 {A : Type} (f : A) (_ : Unit) : A := f
def U2 {A B R : Type} (f : A → B → R) (d : A × B) : R := f d.1 d.2
def U3 {A0 A1 A2 R : Type} (f : A0 → A1 → A2 → R) (d : A0 × A1 × A2) : R := U2 (f d.1) d.2
def U4 {A0 A1 A2 A3 R : Type} (f : A0 → A1 → A2 → A3 → R) (d : A0 × A1 × A2 × A3) : R := U3 (f d.1) d.2
def U5 {A0 A1 A2 A3 A4 R : Type} (f : A0 → A1 → A2 → A3 → A4 → R) (d : A0 × A1 × A2 × A3 × A4) : R := U4 (f d.1) d.2
def U6 {A0 A1 A2 A3 A4 A5 R : Type} (f : A0 → A1 → A2 → A3 → A4 → A5 → R) (d : A0 × A1 × A2 × A3 × A4 × A5) : R := U5 (f d.1) d.2
def U7 {A0 A1 A2 A3 A4 A5 A6 R : Type} (f : A0 → A1 → A2 → A3 → A4 → A5 → A6 → R) (d : A0 × A1 × A2 × A3 × A4 × A5 × A6) : R := U6 (f d.1) d.2
def U8 {A0 A1 A2 A3 A4 A5 A6 A7 R : Type} (f : A0 → A1 → A2 → A3 → A4 → A5 → A6 → A7 → R) (d : A0 × A1 × A2 × A3 × A4 × A5 × A6 × A7) : R := U7 (f d.1) d.2
def U9 {A0 A1 A2 A3 A4 A5 A6 A7 A8 R : Type} (f : A0 → A1 → A2 → A3 → A4 → A5 → A6 → A7 → A8 → R) (d : A0 × A1 × A2 × A3 × A4 × A5 × A6 × A7 × A8) : R := U8 (f d.1) d.2
def U10 {A0 A1 A2 A3 A4 A5 A6 A7 A8 A9 R : Type} (f : A0 → A1 → A2 → A3 → A4 → A5 → A6 → A7 → A8 → A9 → R) (d : A0 × A1 × A2 × A3 × A4 × A5 × A6 × A7 × A8 × A9) : R := U9 (f d.1) d.2
def U11 {A0 A1 A2 A3 A4 A5 A6 A7 A8 A9 A10 R : Type} (f : A0 → A1 → A2 → A3 → A4 → A5 → A6 → A7 → A8 → A9 → A10 → R) (d : A0 × A1 × A2 × A3 × A4 × A5 × A6 × A7 × A8 × A9 × A10) : R := U10 (f d.1) d.2
def U12 {A0 A1 A2 A3 A4 A5 A6 A7 A8 A9 A10 A11 R : Type} (f : A0 → A1 → A2 → A3 → A4 → A5 → A6 → A7 → A8 → A9 → A10 → A11 → R) (d : A0 × A1 × A2 × A3 × A4 × A5 × A6 × A7 × A8 × A9 × A10 × A11) : R := U11 (f d.1) d.2
def U13 {A0 A1 A2 A3 A4 A5 A6 A7 A8 A9 A10 A11 A12 R : Type} (f : A0 → A1 → A2 → A3 → A4 → A5 → A6 → A7 → A8 → A9 → A10 → A11 → A12 → R) (d : A0 × A1 × A2 × A3 × A4 × A5 × A6 × A7 × A8 × A9 × A10 × A11 × A12) : R := U12 (f d.1) d.2
abbrev EqF (f : Nat) (X : T.RF → T.RB → (T.kin f).ct.denote → Option (L8 (T.kouts f)).denote) : Prop := ∀ rf rb d, X rf rb d = T.a2r rf rb f d
abbrev EqB (f : Nat) (X : T.RF → T.RB → (T.bk f).ins.ct.denote → Option (G7 (T.bk f).exits).denote) : Prop := ∀ rf rb d, X rf rb d = T.a0A rf rb f d
theorem EqF.o {f X} (e : EqF f X) {d y} (h : X T.rf T.rb d = some y) : T.rf f d = some y := T.c4V ((e _ _ d).symm.trans h)
theorem EqB.o {f X} (e : EqB f X) {d y} (h : X T.rf T.rb d = some y) : T.rb f d = some y := T.c4P ((e _ _ d).symm.trans h)
def c0 (rf : T.RF) (d1 : XPg) : Option Bool := rf 0 d1
def c1 (rf : T.RF) (d1 : XPg) : Option Bool := rf 1 d1
def c2 (rf : T.RF) : Option Bool := rf 2 ()
def c3 (rf : T.RF) (d1 : List UInt8) : Option (XPg × Int × Int) := rf 3 d1
def c4 (rf : T.RF) (d1 : List UInt8) : Option (List XK × Int × Int) := rf 4 d1
def c5 (rf : T.RF) (d1 : List UInt8) (d2 : Int) : Option (XK × Int) := rf 5 (d1, d2)
def c6 (rf : T.RF) (d1 : Int) : Option Bool := rf 6 d1
def c7 (rf : T.RF) (d1 : List UInt8) : Option Int := rf 7 d1
def c8 (rf : T.RF) (d1 : Int) : Option Bool := rf 8 d1
def c9 (rf : T.RF) (d1 : List UInt8) (d2 : Int) : Option (XK × Int) := rf 9 (d1, d2)
def c10 (rf : T.RF) (d1 : List UInt8) : Option Bool := rf 10 d1
def c11 (rf : T.RF) : Option (List (List UInt8)) := rf 11 ()
def c12 (rf : T.RF) (d1 : List UInt8) : Option Bool := rf 12 d1
def c13 (rf : T.RF) (d1 : List UInt8) : Option (List UInt8) := rf 13 d1
def c14 (rf : T.RF) : Option (List (List UInt8)) := rf 14 ()
def c16 (rf : T.RF) (d1 : Int) (d2 : Int) (d3 : Int) (d4 : List XK) : Option (Int × Int × Int × List XK × Bool) := rf 16 (d1, d2, d3, d4)
def c18 (rf : T.RF) (d1 : Int) (d2 : Int) (d3 : Int) (d4 : List XK) (d5 : Int) : Option (List XK × Int × Int × Int) := rf 18 (d1, d2, d3, d4, d5)
def c19 (rf : T.RF) (d1 : List XK) (d2 : Int) : Option Int := rf 19 (d1, d2)
def c20 (rf : T.RF) (d1 : List XK × Int × Int × Int) : Option ((List XK × Int × Int × Int) × XUn) := rf 20 d1
def c21 (rf : T.RF) (d1 : List XK × Int × Int × Int) (d2 : List UInt8) : Option ((List XK × Int × Int × Int) × Bool) := rf 21 (d1, d2)
def c22 (rf : T.RF) (d1 : List XK × Int × Int × Int) (d2 : List UInt8) : Option ((List XK × Int × Int × Int) × Bool) := rf 22 (d1, d2)
def c23 (rf : T.RF) (d1 : List XK × Int × Int × Int) : Option ((List XK × Int × Int × Int) × Bool) := rf 23 d1
def c24 (rf : T.RF) (d1 : List XK × Int × Int × Int) : Option ((List XK × Int × Int × Int) × List UInt8) := rf 24 d1
def c25 (rf : T.RF) (d1 : List XK × Int × Int × Int) : Option ((List XK × Int × Int × Int) × Bool) := rf 25 d1
def c26 (rf : T.RF) (d1 : List XK × Int × Int × Int) (d2 : Int) : Option (List XK × Int × Int × Int) := rf 26 (d1, d2)
def c27 (rf : T.RF) (d1 : List XK × Int × Int × Int) : Option ((List XK × Int × Int × Int) × List XPm) := rf 27 d1
def c28 (rf : T.RF) (d1 : List XK × Int × Int × Int) (d2 : List UInt8) : Option (List XK × Int × Int × Int) := rf 28 (d1, d2)
def c29 (rf : T.RF) (d1 : List XK × Int × Int × Int) (d2 : Int) : Option (List XK × Int × Int × Int) := rf 29 (d1, d2)
def c30 (rf : T.RF) (d1 : List XK × Int × Int × Int) : Option ((List XK × Int × Int × Int) × XPm) := rf 30 d1
def c31 (rf : T.RF) (d1 : List XK × Int × Int × Int) : Option ((List XK × Int × Int × Int) × List XIt) := rf 31 d1
def c32 (rf : T.RF) (d1 : List XK × Int × Int × Int) : Option ((List XK × Int × Int × Int) × Bool) := rf 32 d1
def c33 (rf : T.RF) (d1 : List XK × Int × Int × Int) : Option ((List XK × Int × Int × Int) × XIt × Bool) := rf 33 d1
def c34 (rf : T.RF) (d1 : List XK × Int × Int × Int) : Option ((List XK × Int × Int × Int) × List XN) := rf 34 d1
def c35 (rf : T.RF) (d1 : List XK) (d2 : Int) : Option (List XN × Int × Int × Int) := rf 35 (d1, d2)
def c36 (rf : T.RF) (d1 : List XK × Int × Int × Int × Int) : Option ((List XK × Int × Int × Int × Int) × List XN) := rf 36 d1
def c37 (rf : T.RF) (d1 : List XK × Int × Int × Int × Int) : Option ((List XK × Int × Int × Int × Int) × List XN) := rf 37 d1
def c38 (rf : T.RF) (d1 : List XK × Int × Int × Int × Int) : Option ((List XK × Int × Int × Int × Int) × List XN) := rf 38 d1
def c39 (rf : T.RF) (d1 : List XK × Int × Int × Int × Int) : Option ((List XK × Int × Int × Int × Int) × List XN) := rf 39 d1
def c40 (rf : T.RF) (d1 : List XK × Int × Int × Int × Int) : Option ((List XK × Int × Int × Int × Int) × List XN) := rf 40 d1
def c41 (rf : T.RF) (d1 : List XK × Int × Int × Int × Int) : Option ((List XK × Int × Int × Int × Int) × List XN) := rf 41 d1
def c42 (rf : T.RF) (d1 : List XK × Int × Int × Int × Int) : Option ((List XK × Int × Int × Int × Int) × List XN) := rf 42 d1
def c43 (rf : T.RF) (d1 : List XK × Int × Int × Int × Int) : Option ((List XK × Int × Int × Int × Int) × List XN) := rf 43 d1
def c44 (rf : T.RF) (d1 : List XK × Int × Int × Int × Int) : Option ((List XK × Int × Int × Int × Int) × List XN) := rf 44 d1
def c45 (rf : T.RF) (d1 : List XK × Int × Int × Int × Int) (d2 : Int) : Option ((List XK × Int × Int × Int × Int) × List XN) := rf 45 (d1, d2)
def c46 (rf : T.RF) (d1 : List XK × Int × Int × Int × Int) (d2 : XK) : Option ((List XK × Int × Int × Int × Int) × List XN) := rf 46 (d1, d2)
def c47 (rf : T.RF) (d1 : Int) (d2 : Int) (d3 : List UInt8) (d4 : List (List XN)) : Option (List XN) := rf 47 (d1, d2, d3, d4)
def c48 (rf : T.RF) (d1 : Int) (d2 : Int) (d3 : List UInt8) : Option XN := rf 48 (d1, d2, d3)
def c49 (rf : T.RF) (d1 : XN) : Option (List Int) := rf 49 d1
def c50 (rf : T.RF) (d1 : List XN) (d2 : List XN) : Option (List XN) := rf 50 (d1, d2)
def c51 (rf : T.RF) (d1 : XN) (d2 : Int) : Option XN := rf 51 (d1, d2)
def c52 (rf : T.RF) (d1 : XN) (d2 : List Int) : Option XN := rf 52 (d1, d2)
def c53 (rf : T.RF) (d1 : List XK × Int × Int × Int × Int) (d2 : List UInt8) : Option ((List XK × Int × Int × Int × Int) × List XN) := rf 53 (d1, d2)
def c54 (rf : T.RF) (d1 : List XK × Int × Int × Int × Int) (d2 : List UInt8) : Option ((List XK × Int × Int × Int × Int) × Bool) := rf 54 (d1, d2)
def c55 (rf : T.RF) (d1 : List XK × Int × Int × Int × Int) (d2 : List UInt8) : Option ((List XK × Int × Int × Int × Int) × Bool) := rf 55 (d1, d2)
def c56 (rf : T.RF) (d1 : List XK × Int × Int × Int × Int) : Option ((List XK × Int × Int × Int × Int) × List (List XN)) := rf 56 d1
def c57 (rf : T.RF) (d1 : List XK × Int × Int × Int × Int) (d2 : List UInt8) : Option (List XK × Int × Int × Int × Int) := rf 57 (d1, d2)
def c58 (rf : T.RF) (d1 : List UInt8) : Option Int := rf 58 d1
def c59 (rf : T.RF) (d1 : List XK × Int × Int × Int × Int) : Option ((List XK × Int × Int × Int × Int) × List XN) := rf 59 d1
def c60 (rf : T.RF) (d1 : List XK × Int × Int × Int × Int) : Option ((List XK × Int × Int × Int × Int) × List XN) := rf 60 d1
def c61 (rf : T.RF) (d1 : List XK × Int × Int × Int × Int) (d2 : Int) (d3 : List XN) (d4 : List XN) : Option ((List XK × Int × Int × Int × Int) × List XN) := rf 61 (d1, d2, d3, d4)
def c62 (rf : T.RF) (d1 : List XN) : Option Int := rf 62 d1
def c63 (rf : T.RF) (d1 : List XK × Int × Int × Int) : Option ((List XK × Int × Int × Int) × List (List XN)) := rf 63 d1
def c64 (rf : T.RF) (d1 : List XK × Int × Int × Int) : Option ((List XK × Int × Int × Int) × List XPm) := rf 64 d1
def c65 (rf : T.RF) (d1 : List XK × Int × Int × Int) : Option ((List XK × Int × Int × Int) × List XEq) := rf 65 d1
def c66 (rf : T.RF) (d1 : XPg) : Option (List UInt8) := rf 66 d1
def c67 (rf : T.RF) (d1 : XPg) : Option Bool := rf 67 d1
def c68 (rf : T.RF) (d1 : List UInt8) : Option Bool := rf 68 d1
def c69 (rf : T.RF) (d1 : List UInt8) : Option (List UInt8) := rf 69 d1
def c70 (rf : T.RF) (d1 : Int) : Option Bool := rf 70 d1
def c71 (rf : T.RF) (d1 : List UInt8) : Option Bool := rf 71 d1
def c72 (rf : T.RF) (d1 : List (List UInt8)) (d2 : List UInt8) : Option (Int × Bool) := rf 72 (d1, d2)
def c73 (rf : T.RF) (d1 : List UInt8) (d2 : List UInt8) : Option Bool := rf 73 (d1, d2)
def c74 (rf : T.RF) (d1 : List UInt8) : Option Bool := rf 74 d1
def c75 (rf : T.RF) (d1 : List UInt8) : Option Bool := rf 75 d1
def c76 (rf : T.RF) (d1 : List XUn) : Option Bool := rf 76 d1
def c77 (rf : T.RF) (d1 : List XUn) : Option Bool := rf 77 d1
def c78 (rf : T.RF) (d1 : List XUn) : Option Int := rf 78 d1
def c79 (rf : T.RF) (d1 : XUn) : Option Bool := rf 79 d1
def c80 (rf : T.RF) (d1 : XUn) : Option Bool := rf 80 d1
def c81 (rf : T.RF) (d1 : List XPm) : Option Bool := rf 81 d1
def c82 (rf : T.RF) (d1 : List XPm) : Option Bool := rf 82 d1
def c83 (rf : T.RF) (d1 : List XPm) : Option Int := rf 83 d1
def c84 (rf : T.RF) (d1 : XPm) : Option Bool := rf 84 d1
def c85 (rf : T.RF) (d1 : XPm) : Option Bool := rf 85 d1
def c86 (rf : T.RF) (d1 : List XEq) : Option Bool := rf 86 d1
def c87 (rf : T.RF) (d1 : List XEq) : Option Bool := rf 87 d1
def c88 (rf : T.RF) (d1 : List XEq) : Option Int := rf 88 d1
def c89 (rf : T.RF) (d1 : XEq) : Option Bool := rf 89 d1
def c90 (rf : T.RF) (d1 : XEq) : Option Bool := rf 90 d1
def c91 (rf : T.RF) (d1 : List XN) : Option Bool := rf 91 d1
def c92 (rf : T.RF) (d1 : List XN) : Option Bool := rf 92 d1
def c93 (rf : T.RF) (d1 : XN) : Option Bool := rf 93 d1
def c94 (rf : T.RF) (d1 : XN) : Option (List Int) := rf 94 d1
def c95 (rf : T.RF) (d1 : XN) (d2 : List Int) : Option XN := rf 95 (d1, d2)
def c96 (rf : T.RF) (d1 : List Bool) (d2 : Bool) : Option Bool := rf 96 (d1, d2)
def c97 (rf : T.RF) (d1 : List Bool) (d2 : Bool) : Option Int := rf 97 (d1, d2)
def c98 (rf : T.RF) (d1 : List XN) : Option Int := rf 98 d1
def c99 (rf : T.RF) (d1 : List XN) : Option (List Int) := rf 99 d1
def c5w (rf : T.RF) (d1 : List XN) : Option Bool := rf 100 d1
def b9q (rf : T.RF) (d1 : List XN) : Option Int := rf 101 d1
def c5x (rf : T.RF) (d1 : XN) : Option Bool := rf 102 d1
def c5y (rf : T.RF) (d1 : List XIt) : Option Bool := rf 103 d1
def c5z (rf : T.RF) (d1 : List XIt) : Option Bool := rf 104 d1
def b9r (rf : T.RF) (d1 : List XIt) : Option Int := rf 105 d1
def c5A (rf : T.RF) (d1 : XIt) : Option Bool := rf 106 d1
def b6u (rf : T.RF) (d1 : XIt) : Option Bool := rf 107 d1
def b4C (rf : T.RF) (d1 : List (List XN)) : Option Bool := rf 108 d1
def c5B (rf : T.RF) (d1 : List (List XN)) : Option Bool := rf 109 d1
def b9s (rf : T.RF) (d1 : List (List XN)) : Option Int := rf 110 d1
def c5C (rf : T.RF) (d1 : List XN) : Option Bool := rf 111 d1
def c5D (rf : T.RF) (d1 : List XK) (d2 : XUn) : Option (List XK) := rf 112 (d1, d2)
def E0 (rf : T.RF) (d1 : List XK) (d2 : List (List UInt8)) : Option (List XK) := rf 113 (d1, d2)
def b6v (rf : T.RF) (d1 : List XK) (d2 : List XPm) : Option (List XK) := rf 114 (d1, d2)
def b9t (rf : T.RF) (d1 : List XK) (d2 : List XPm) (d3 : List UInt8) : Option (List XK) := rf 115 (d1, d2, d3)
def b4D (rf : T.RF) (d1 : List XK) (d2 : XPm) : Option (List XK) := rf 116 (d1, d2)
def c5E (rf : T.RF) (d1 : List XK) (d2 : XIt) : Option (List XK) := rf 117 (d1, d2)
def a6j (rf : T.RF) (d1 : List XK) (d2 : List XN) : Option (List XK) := rf 118 (d1, d2)
def b9u (rf : T.RF) (d1 : List XN) : Option (List UInt8) := rf 119 d1
def a6k (rf : T.RF) (d1 : List XN) (d2 : List XK) (d3 : Int) : Option (List XN × List XK) := rf 120 (d1, d2, d3)
def b9v (rf : T.RF) (d1 : Int) : Option XPm := rf 121 d1
def c6D (rf : T.RF) : Option (List UInt8 × Int × List UInt8 × Int × List UInt8 × Int × List UInt8 × Int × List UInt8 × Int × List UInt8 × Int × List UInt8 × Int × List UInt8 × Int × List UInt8 × Int × List UInt8 × Int × List UInt8 × Int × List UInt8 × Int × List UInt8 × Int × List UInt8 × Int × List UInt8 × Int × List UInt8 × Int × List UInt8 × Int × List UInt8 × Int × List UInt8 × Int × List UInt8 × Int × List UInt8 × Int × List UInt8 × Int × List UInt8 × Int × List UInt8 × Int × List UInt8 × Int × List UInt8 × Int × List UInt8 × XK) := rf 122 ()
def b9w (rf : T.RF) (d1 : Int) : Option (List UInt8) := rf 123 d1
def T5 (rf : T.RF) (d1 : List XN) (d2 : List XK) (d3 : List (List UInt8)) : Option (List XN × List XK) := rf 124 (d1, d2, d3)
def c5F (rf : T.RF) (d1 : Bool) : Option (List UInt8) := rf 125 d1
def c5G (rf : T.RF) (d1 : Bool) : Option (List UInt8) := rf 126 d1
def b9x (rf : T.RF) (d1 : List XN) (d2 : List XK) (d3 : Int) : Option (List XN × List XK) := rf 127 (d1, d2, d3)
def a0N (rf : T.RF) (d1 : List XN) (d2 : List XK) (d3 : Int) (d4 : Int) : Option (List XN × List XK) := rf 128 (d1, d2, d3, d4)
def c5H (rf : T.RF) (d1 : Int) : Option Int := rf 129 d1
def b4E (rf : T.RF) (d1 : List XK) : Option (List UInt8) := rf 130 d1
def c5I (rf : T.RF) (d1 : List XK) (d2 : List (List XN)) (d3 : List UInt8) : Option (List XK) := rf 131 (d1, d2, d3)
def a7S (rf : T.RF) (d1 : XPg) : Option XPg := rf 132 d1
def c5J (rf : T.RF) (d1 : List XUn) : Option (List XUn) := rf 133 d1
def L3 (rf : T.RF) (d1 : List XPm) : Option (List XPm) := rf 134 d1
def a6l (rf : T.RF) (d1 : List XEq) : Option (List XEq) := rf 135 d1
def b9y (rf : T.RF) (d1 : List XIt) : Option (List XIt) := rf 136 d1
def K4 (rf : T.RF) (d1 : List XN) : Option (List XN) := rf 137 d1
def c5K (rf : T.RF) (d1 : List XN) (d2 : Int) : Option (List XN) := rf 138 (d1, d2)
def b9z (rf : T.RF) (d1 : List XN) (d2 : List XN) (d3 : Int) : Option (List XN) := rf 139 (d1, d2, d3)
def b9A (rf : T.RF) (d1 : List (List XN)) : Option (List (List XN)) := rf 140 d1
def b9B (rf : T.RF) (d1 : XPg) : Option XPg := rf 141 d1
def b6w (rf : T.RF) (d1 : XUn) : Option XUn := rf 142 d1
def a7T (rf : T.RF) (d1 : List XN) : Option (List XN) := rf 143 d1
def c5L (rf : T.RF) (d1 : List XN) (d2 : Int) : Option (List XN) := rf 144 (d1, d2)
def b9C (rf : T.RF) (d1 : List XN) : Option Bool := rf 145 d1
def c5M (rf : T.RF) (d1 : XN) : Option Bool := rf 146 d1
def c5N (rf : T.RF) (d1 : XN) : Option Bool := rf 147 d1
def b9D (rf : T.RF) (d1 : List XN) (d2 : Int) : Option Bool := rf 148 (d1, d2)
def b9E (rf : T.RF) (d1 : List XN) (d2 : List XN) (d3 : Int) : Option (List XN) := rf 149 (d1, d2, d3)
def a9v (rf : T.RF) (d1 : XPg) (d2 : XPg) : Option Bool := rf 150 (d1, d2)
def b9F (rf : T.RF) (d1 : XUn) (d2 : XUn) : Option Bool := rf 151 (d1, d2)
def b9G (rf : T.RF) (d1 : List XPm) (d2 : List XPm) : Option Bool := rf 152 (d1, d2)
def b4F (rf : T.RF) (d1 : List XN) (d2 : List XN) : Option Bool := rf 153 (d1, d2)
def c5O (rf : T.RF) (d1 : List (List XN)) (d2 : List (List XN)) : Option Bool := rf 154 (d1, d2)
def c5P (rf : T.RF) (d1 : XPg) : Option (List UInt8) := rf 155 d1
def b9H (rf : T.RF) (d1 : XPg) : Option Bool := rf 156 d1
def c5Q (rf : T.RF) (d1 : XUn) : Option Bool := rf 157 d1
def b9I (rf : T.RF) (d1 : List XPm) : Option Bool := rf 158 d1
def a4e (rf : T.RF) (d1 : XPm) : Option Bool := rf 159 d1
def I7 (rf : T.RF) (d1 : List XN) : Option Bool := rf 160 d1
def c5R (rf : T.RF) (d1 : XIt) : Option Bool := rf 161 d1
def c5S (rf : T.RF) (d1 : XUn) : Option (List UInt8) := rf 162 d1
def c5T (rf : T.RF) (d1 : XIt) : Option (List UInt8) := rf 163 d1
def a9w (rf : T.RF) (d1 : List XN) : Option (List UInt8) := rf 164 d1
def a9x (rf : T.RF) (d1 : List XN) (d2 : Int) : Option (List UInt8) := rf 165 (d1, d2)
def b4G (rf : T.RF) (d1 : Int) : Option (List UInt8) := rf 166 d1
def b9J (rf : T.RF) (d1 : List XN) (d2 : Int) : Option (List UInt8) := rf 167 (d1, d2)
def a3a (rf : T.RF) (d1 : List XN) (d2 : Int) (d3 : Int) : Option (List UInt8) := rf 168 (d1, d2, d3)
def b9K (rf : T.RF) (d1 : Int) : Option Int := rf 169 d1
def b2c (rf : T.RF) (d1 : Int) : Option (List UInt8) := rf 170 d1
def b2d (rf : T.RF) (d1 : XPm) : Option (List UInt8) := rf 171 d1
def b9L (rf : T.RF) (d1 : List XPm) : Option (List UInt8) := rf 172 d1
def k0 (rb : T.RB) (d1 : XPg) (d2 : Int) : Option ((XPg × Bool) ⊕ XPg) := rb 0 (d1, d2)
def k1 (rb : T.RB) (d1 : XUn) (d2 : Int) : Option ((XUn × Bool) ⊕ XUn) := rb 1 (d1, d2)
def k2 (rb : T.RB) (d1 : XUn) (d2 : Int) : Option ((XUn × Bool) ⊕ XUn) := rb 2 (d1, d2)
def k3 (rb : T.RB) (d1 : XIt) (d2 : Int) : Option ((XIt × Bool) ⊕ XIt) := rb 3 (d1, d2)
def k6 (rb : T.RB) (d1 : List UInt8) (d2 : Int) : Option Int := rb 6 (d1, d2)
def k7 (rb : T.RB) (d1 : List UInt8) (d2 : Int) (d3 : Int) : Option Int := rb 7 (d1, d2, d3)
def k8 (rb : T.RB) (d1 : List UInt8) (d2 : Int) : Option Int := rb 8 (d1, d2)
def k9 (rb : T.RB) (d1 : List (List UInt8)) (d2 : List UInt8) (d3 : Int) : Option ((List (List UInt8) × Bool) ⊕ (List (List UInt8))) := rb 9 (d1, d2, d3)
def k10 (rb : T.RB) (d1 : List UInt8) (d2 : Int) : Option (Bool ⊕ Unit) := rb 10 (d1, d2)
def k11 (rb : T.RB) (d1 : List (List UInt8)) (d2 : List UInt8) (d3 : Int) : Option ((List (List UInt8) × List UInt8) ⊕ (List (List UInt8))) := rb 11 (d1, d2, d3)
def k12 (rb : T.RB) (d1 : Int × Int) (d2 : List XK) (d3 : List UInt8) (d4 : Int) : Option (((Int × Int) × List XK) ⊕ ((Int × Int) × List XK)) := rb 12 (d1, d2, d3, d4)
def k13 (rb : T.RB) (d1 : List UInt8) (d2 : Int) : Option Int := rb 13 (d1, d2)
def k17 (rb : T.RB) (d1 : List XK × Int × Int × Int) (d2 : List XPm) : Option (((List XK × Int × Int × Int) × List XPm) ⊕ (List XK × Int × Int × Int)) := rb 17 (d1, d2)
def k22 (rb : T.RB) (d1 : List XN) (d2 : List XN) (d3 : Int) (d4 : Int) : Option (List XN) := rb 22 (d1, d2, d3, d4)
def k23 (rb : T.RB) (d1 : List XN) (d2 : List Int) (d3 : Int) (d4 : List (List XN)) (d5 : Int) (d6 : Int) : Option ((List XN) ⊕ (List XN × List Int × Int)) := rb 23 (d1, d2, d3, d4, d5, d6)
def k25 (rb : T.RB) (d1 : List XK × Int × Int × Int × Int) (d2 : List (List XN)) : Option (((List XK × Int × Int × Int × Int) × List (List XN)) ⊕ (List XK × Int × Int × Int × Int)) := rb 25 (d1, d2)
def k27 (rb : T.RB) (d1 : List XK × Int × Int × Int × Int) (d2 : List XN) : Option ((List XK × Int × Int × Int × Int) × List XN) := rb 27 (d1, d2)
def k29 (rb : T.RB) (d1 : List XK × Int × Int × Int × Int) (d2 : List XN) : Option ((List XK × Int × Int × Int × Int) × List XN) := rb 29 (d1, d2)
def k31 (rb : T.RB) (d1 : List XK × Int × Int × Int × Int) (d2 : List XN) : Option ((List XK × Int × Int × Int × Int) × List XN) := rb 31 (d1, d2)
def k33 (rb : T.RB) (d1 : List XK × Int × Int × Int × Int) (d2 : List XN) : Option ((List XK × Int × Int × Int × Int) × List XN) := rb 33 (d1, d2)
def k35 (rb : T.RB) (d1 : List XK × Int × Int × Int × Int) (d2 : List XN) : Option ((List XK × Int × Int × Int × Int) × List XN) := rb 35 (d1, d2)
def k43 (rb : T.RB) (d1 : List Int) (d2 : List XN) (d3 : Int) : Option (List Int) := rb 43 (d1, d2, d3)
def k44 (rb : T.RB) (d1 : List Int) (d2 : List Int) (d3 : Int) (d4 : Int) : Option (List Int × List Int) := rb 44 (d1, d2, d3, d4)
def k46 (rb : T.RB) (d1 : Int × Int) (d2 : List XK) (d3 : Int) : Option (((Int × Int) × List XN × Int) ⊕ ((Int × Int) × List XN × Int)) := rb 46 (d1, d2, d3)
def k47 (rb : T.RB) (d1 : List XK × Int × Int × Int) (d2 : Int × Int) (d3 : List XN) (d4 : Int) : Option ((List XK × Int × Int × Int) × (Int × Int) × List XN) := rb 47 (d1, d2, d3, d4)
def k49 (rb : T.RB) (d1 : List XK × Int × Int × Int) (d2 : List (List XN)) : Option (((List XK × Int × Int × Int) × List (List XN)) ⊕ (List XK × Int × Int × Int)) := rb 49 (d1, d2)
def k50 (rb : T.RB) (d1 : List XK × Int × Int × Int) (d2 : List XIt) : Option ((List XK × Int × Int × Int) × List XIt) := rb 50 (d1, d2)
def k52 (rb : T.RB) (d1 : List XK × Int × Int × Int) (d2 : List XPm) : Option (((List XK × Int × Int × Int) × List XPm) ⊕ (List XK × Int × Int × Int)) := rb 52 (d1, d2)
def k54 (rb : T.RB) (d1 : List XK × Int × Int × Int) (d2 : List XEq) : Option ((List XK × Int × Int × Int) × List XEq) := rb 54 (d1, d2)
def k69 (rb : T.RB) (d1 : List XK × Int × Int × Int) (d2 : List UInt8) (d3 : List UInt8) (d4 : List XUn) : Option ((List XK × Int × Int × Int) × List UInt8 × List UInt8 × List XUn) := rb 69 (d1, d2, d3, d4)
def k70 (rb : T.RB) (d1 : List UInt8) (d2 : List UInt8) (d3 : Int × Int) (d4 : List XK × Int × Int × Int) (d5 : List UInt8) (d6 : List UInt8) (d7 : List XUn) (d8 : List XUn) : Option ((List UInt8 × List UInt8 × (Int × Int) × (List XK × Int × Int × Int) × List UInt8 × List UInt8 × List XUn × List XUn × List XUn) ⊕ (List UInt8 × List UInt8 × (Int × Int) × (List XK × Int × Int × Int) × List UInt8 × List UInt8 × List XUn × List XUn)) := rb 70 (d1, d2, d3, d4, d5, d6, d7, d8)
def k71 (rb : T.RB) (d1 : List (List UInt8)) (d2 : List UInt8) (d3 : Int) (d4 : Int) : Option Int := rb 71 (d1, d2, d3, d4)
def k72 (rb : T.RB) (d1 : List XUn) (d2 : Int) (d3 : Int) : Option (Int ⊕ Unit) := rb 72 (d1, d2, d3)
def k73 (rb : T.RB) (d1 : List XPm) (d2 : Int) (d3 : Int) : Option (Int ⊕ Unit) := rb 73 (d1, d2, d3)
def k74 (rb : T.RB) (d1 : List XEq) (d2 : Int) (d3 : Int) : Option (Int ⊕ Unit) := rb 74 (d1, d2, d3)
def k75 (rb : T.RB) (d1 : List Bool) (d2 : List XN) (d3 : List XN) (d4 : Int) (d5 : Int) : Option ((List Bool × Bool) ⊕ (List Bool)) := rb 75 (d1, d2, d3, d4, d5)
def k76 (rb : T.RB) (d1 : XN) (d2 : Int) : Option (XN × Bool) := rb 76 (d1, d2)
def k77 (rb : T.RB) (d1 : XN) (d2 : XN) (d3 : Int) : Option (XN × XN × Bool) := rb 77 (d1, d2, d3)
def k78 (rb : T.RB) (d1 : List Bool) (d2 : XN) (d3 : List Int) (d4 : List XN) (d5 : Int) (d6 : Int) (d7 : Int) : Option ((List Bool × XN × List Int × Bool) ⊕ (List Bool × XN × List Int)) := rb 78 (d1, d2, d3, d4, d5, d6, d7)
def k79 (rb : T.RB) (d1 : List Bool) (d2 : Bool) (d3 : Int) (d4 : Int) : Option (Int ⊕ Unit) := rb 79 (d1, d2, d3, d4)
def k86 (rb : T.RB) (d1 : List Int) (d2 : List XN) (d3 : Int) (d4 : Int) : Option (List Int) := rb 86 (d1, d2, d3, d4)
def k87 (rb : T.RB) (d1 : List Int) (d2 : List Int) (d3 : Int) (d4 : Int) (d5 : Int) : Option (List Int × List Int) := rb 87 (d1, d2, d3, d4, d5)
def k88 (rb : T.RB) (d1 : List XN) (d2 : Int) (d3 : Int) : Option (Int ⊕ Unit) := rb 88 (d1, d2, d3)
def k89 (rb : T.RB) (d1 : List XIt) (d2 : Int) (d3 : Int) : Option (Int ⊕ Unit) := rb 89 (d1, d2, d3)
def k90 (rb : T.RB) (d1 : List (List XN)) (d2 : Int) (d3 : Int) : Option (Int ⊕ Unit) := rb 90 (d1, d2, d3)
def k93 (rb : T.RB) (d1 : List XK) (d2 : List (List UInt8)) (d3 : Int) (d4 : Int) : Option (List XK) := rb 93 (d1, d2, d3, d4)
def k95 (rb : T.RB) (d1 : List XK) (d2 : List UInt8) (d3 : List XPm) (d4 : Int) (d5 : Int) : Option (List XK) := rb 95 (d1, d2, d3, d4, d5)
def k99 (rb : T.RB) (d1 : List XN) (d2 : List XK) (d3 : List (List UInt8)) (d4 : Int) (d5 : Int) : Option (List XN × List XK) := rb 99 (d1, d2, d3, d4, d5)
def b6V (rb : T.RB) (d1 : List XK) (d2 : List UInt8) (d3 : List (List XN)) (d4 : Int) (d5 : Int) : Option (List XK) := rb 101 (d1, d2, d3, d4, d5)
def b6W (rb : T.RB) (d1 : XUn) (d2 : List XK) : Option ((XUn × List XK) ⊕ (XUn × List XK)) := rb 106 (d1, d2)
def b6X (rb : T.RB) (d1 : List XK) (d2 : List XIt) (d3 : Int) (d4 : Int) : Option (List XK) := rb 107 (d1, d2, d3, d4)
def b4X (rb : T.RB) (d1 : XUn) (d2 : List XK) : Option ((XUn × List XK) ⊕ (XUn × List XK)) := rb 108 (d1, d2)
def b4Y (rb : T.RB) (d1 : List XK) (d2 : List XEq) (d3 : Int) (d4 : Int) : Option (List XK) := rb 109 (d1, d2, d3, d4)
def b6Y (rb : T.RB) (d1 : List XK) (d2 : List XUn) (d3 : Int) (d4 : Int) : Option (List XK) := rb 110 (d1, d2, d3, d4)
def b9Z (rb : T.RB) (d1 : List XN) (d2 : List Int) (d3 : List XN) (d4 : Int) (d5 : Int) : Option (List Int × List XN) := rb 120 (d1, d2, d3, d4, d5)
def b6Z (rb : T.RB) (d1 : List UInt8) (d2 : List UInt8) (d3 : List XUn) (d4 : Int) (d5 : Int) : Option (List UInt8 × List UInt8 × List XUn) := rb 170 (d1, d2, d3, d4, d5)
def c0a (rb : T.RB) (d1 : List XUn) (d2 : Bool) (d3 : List UInt8) (d4 : List UInt8) (d5 : Int) (d6 : List XUn) (d7 : List XPm) (d8 : List XPm) (d9 : List XEq) (d10 : List XIt) (d11 : Int) : Option (List XUn × Bool × List UInt8 × List UInt8 × Int × List XUn × List XPm × List XPm × List XEq × List XIt) := rb 171 (d1, d2, d3, d4, d5, d6, d7, d8, d9, d10, d11)
def b7a (rb : T.RB) (d1 : List XUn) (d2 : Bool) (d3 : List UInt8) (d4 : List UInt8) (d5 : Int) (d6 : List XUn) (d7 : List XPm) (d8 : List XPm) (d9 : List XEq) (d10 : List XIt) (d11 : Int) (d12 : Int) (d13 : Int) : Option (List XUn × Bool × List UInt8 × List UInt8 × Int × List XUn × List XPm × List XPm × List XEq × List XIt) := rb 172 (d1, d2, d3, d4, d5, d6, d7, d8, d9, d10, d11, d12, d13)
def b7b (rb : T.RB) (d1 : List XUn) (d2 : Bool) (d3 : List UInt8) (d4 : List UInt8) (d5 : Int) (d6 : List XUn) (d7 : List XPm) (d8 : List XPm) (d9 : List XEq) (d10 : List XIt) (d11 : Int) (d12 : Int) (d13 : Int) : Option (List XUn × Bool × List UInt8 × List UInt8 × Int × List XUn × List XPm × List XPm × List XEq × List XIt) := rb 173 (d1, d2, d3, d4, d5, d6, d7, d8, d9, d10, d11, d12, d13)
def c0b (rb : T.RB) (d1 : List XIt) (d2 : Int) (d3 : List UInt8) (d4 : Int) (d5 : List XIt) (d6 : List XN) (d7 : List XN) (d8 : List (List XN)) (d9 : Int) : Option (List XIt × Int × List UInt8 × Int × List XIt × List XN × List XN × List (List XN)) := rb 174 (d1, d2, d3, d4, d5, d6, d7, d8, d9)
def b0R (rb : T.RB) (d1 : List XIt) (d2 : Int) (d3 : List UInt8) (d4 : Int) (d5 : List XIt) (d6 : List XN) (d7 : List XN) (d8 : List (List XN)) (d9 : Int) (d10 : Int) (d11 : Int) : Option (List XIt × Int × List UInt8 × Int × List XIt × List XN × List XN × List (List XN)) := rb 175 (d1, d2, d3, d4, d5, d6, d7, d8, d9, d10, d11)
def b2o (rb : T.RB) (d1 : List Int) (d2 : List XN) (d3 : Int) : Option ((List Int × Bool) ⊕ (List Int)) := rb 178 (d1, d2, d3)
def b2p (rb : T.RB) (d1 : List Int) (d2 : List Int) (d3 : Int) (d4 : Int) : Option ((List Int × List Int × Bool) ⊕ (List Int × List Int)) := rb 179 (d1, d2, d3, d4)
def a9F (rb : T.RB) (d1 : XN) (d2 : List Int) (d3 : List XN) (d4 : Int) : Option ((XN × List Int × Bool) ⊕ (XN × List Int)) := rb 180 (d1, d2, d3, d4)
def b4Z (rb : T.RB) (d1 : List Int) (d2 : List XN) (d3 : Int) : Option ((List Int × Bool) ⊕ (List Int)) := rb 181 (d1, d2, d3)
def c0c (rb : T.RB) (d1 : List XN) (d2 : List Int) (d3 : List Int) (d4 : List XN) (d5 : Int) : Option (List Int × List XN × List Int) := rb 183 (d1, d2, d3, d4, d5)
def b5a (rb : T.RB) (d1 : XUn) (d2 : Bool) (d3 : List UInt8) (d4 : List UInt8) (d5 : Int) (d6 : List XPm) (d7 : List XPm) (d8 : List XEq) (d9 : List XIt) (d10 : Int) : Option (XUn × Bool × List UInt8 × List UInt8 × Int × List XPm × List XPm × List XIt × List XEq) := rb 198 (d1, d2, d3, d4, d5, d6, d7, d8, d9, d10)
def c0d (rb : T.RB) (d1 : XUn) (d2 : Bool) (d3 : List UInt8) (d4 : List UInt8) (d5 : Int) (d6 : List XPm) (d7 : List XPm) (d8 : List XEq) (d9 : List XIt) (d10 : Int) : Option (XUn × Bool × List UInt8 × List UInt8 × Int × List XPm × List XPm × List XEq × List XIt) := rb 199 (d1, d2, d3, d4, d5, d6, d7, d8, d9, d10)
def b5b (rb : T.RB) (d1 : XUn) (d2 : Int) (d3 : List UInt8) (d4 : Int) (d5 : List XN) (d6 : List XN) (d7 : List (List XN)) (d8 : Int) (d9 : Int) : Option (XUn × XIt) := rb 200 (d1, d2, d3, d4, d5, d6, d7, d8, d9)
def b5c (rb : T.RB) (d1 : XPg) (d2 : List UInt8) (d3 : List UInt8) (d4 : List XUn) (d5 : Int) : Option (XPg × List UInt8 × List UInt8 × List XUn) := rb 203 (d1, d2, d3, d4, d5)
def c0e (rb : T.RB) (d1 : XPg) (d2 : XPg) (d3 : Int) : Option ((XPg × XPg × Bool) ⊕ (XPg × XPg)) := rb 204 (d1, d2, d3)
def c0f (rb : T.RB) (d1 : List XPm) (d2 : List XPm) (d3 : Int) : Option (Bool ⊕ Unit) := rb 205 (d1, d2, d3)
def b7c (rb : T.RB) (d1 : XUn) (d2 : XUn) (d3 : Int) : Option ((XUn × XUn × Bool) ⊕ (XUn × XUn)) := rb 206 (d1, d2, d3)
def c0g (rb : T.RB) (d1 : List XN) (d2 : List XN) (d3 : Int) : Option (Bool ⊕ Unit) := rb 207 (d1, d2, d3)
def b7d (rb : T.RB) (d1 : XUn) (d2 : XUn) (d3 : Int) : Option ((XUn × XUn × Bool) ⊕ (XUn × XUn)) := rb 208 (d1, d2, d3)
def c0h (rb : T.RB) (d1 : List (List XN)) (d2 : List (List XN)) (d3 : Int) : Option (Bool ⊕ Unit) := rb 209 (d1, d2, d3)
def b7e (rb : T.RB) (d1 : XPg) (d2 : Int) : Option ((XPg × Bool) ⊕ XPg) := rb 210 (d1, d2)
def c0i (rb : T.RB) (d1 : List XPm) (d2 : Int) : Option (Bool ⊕ Unit) := rb 211 (d1, d2)
def b2q (rb : T.RB) (d1 : XUn) (d2 : Int) : Option ((XUn × Bool) ⊕ XUn) := rb 212 (d1, d2)
def b7f (rb : T.RB) (d1 : List XN) (d2 : Int) : Option (Bool ⊕ Unit) := rb 213 (d1, d2)
def b2r (rb : T.RB) (d1 : XUn) (d2 : Int) : Option ((XUn × Bool) ⊕ XUn) := rb 214 (d1, d2)
def a6O (rb : T.RB) (d1 : XIt) (d2 : Int) : Option ((XIt × Bool) ⊕ XIt) := rb 215 (d1, d2)
def c0j (rb : T.RB) (d1 : XPg) (d2 : List UInt8) (d3 : Int) : Option (XPg × List UInt8) := rb 216 (d1, d2, d3)
def c0k (rb : T.RB) (d1 : XUn) (d2 : List UInt8) (d3 : Int) : Option (XUn × List UInt8) := rb 217 (d1, d2, d3)
def b7g (rb : T.RB) (d1 : List (List UInt8)) (d2 : List XN) (d3 : Int) : Option (List (List UInt8)) := rb 219 (d1, d2, d3)
def b7h (rb : T.RB) (d1 : List (List UInt8)) (d2 : List UInt8) (d3 : Int) : Option (List (List UInt8) × List UInt8) := rb 220 (d1, d2, d3)
def b7i (rb : T.RB) (d1 : XIt) (d2 : List UInt8) (d3 : Int) : Option (XIt × List UInt8) := rb 221 (d1, d2, d3)
def b7j (rb : T.RB) (d1 : List XPm) (d2 : List UInt8) (d3 : Int) : Option (List UInt8) := rb 222 (d1, d2, d3)
def c0l (rb : T.RB) (d1 : XUn) (d2 : List UInt8) : Option (XUn × List UInt8) := rb 223 (d1, d2)
def b5d (rb : T.RB) (d1 : XUn) (d2 : List UInt8) (d3 : Int) : Option (XUn × List UInt8) := rb 224 (d1, d2, d3)
def c0m (rb : T.RB) (d1 : XUn) (d2 : List UInt8) (d3 : Int) : Option (XUn × List UInt8) := rb 225 (d1, d2, d3)
def b0 (rf : T.RF) (rb : T.RB) (d1 : XPg) (d2 : Int) : Option ((XPg × Bool) ⊕ XPg) :=
 bif decide (d2 < (((d1.1.length : Nat) : Int))) then
  bif inb d2 d1.1.length then
   (nth d1.1 d2.toNat).bind fun x1 =>
   bif decide ((((x1.2.2.1.length : Nat) : Int)) > 30) then
    some (.inl (d1, false))
   else
   bif decide ((((x1.2.2.2.2.2.1.length : Nat) : Int)) > 30) then
    some (.inl (d1, false))
   else
   bif decide ((((x1.2.2.2.2.2.2.1.length : Nat) : Int)) > 30) then
    some (.inl (d1, false))
   else
   bif decide ((((x1.2.2.2.2.2.2.2.length : Nat) : Int)) > 30) then
    some (.inl (d1, false))
   else
    (k1 rb x1 0).bind fun z2 =>
    match z2 with
    | .inl u3 =>
      some (.inl (d1, u3.2))
    | .inr w4 =>
      (k2 rb w4 0).bind fun z5 =>
      match z5 with
      | .inl u6 =>
        some (.inl (d1, u6.2))
      | .inr w7 =>
        k0 rb d1 (IntKind.i64.wrap (d2 + 1))
  else
   none
 else
  some (.inr d1)
theorem eb0 : EqB 0 fun a b => U2 (b0 a b) := fun _ _ _ => by kernel_rfl
theorem ob0 {d1 d2 y} (h : b0 T.rf T.rb d1 d2 = some y) : k0 T.rb d1 d2 = some y := eb0.o h
def b1 (rf : T.RF) (rb : T.RB) (d1 : XUn) (d2 : Int) : Option ((XUn × Bool) ⊕ XUn) :=
 bif decide (d2 < (((d1.2.2.2.2.2.2.1.length : Nat) : Int))) then
  bif inb d2 d1.2.2.2.2.2.2.1.length then
   (nth d1.2.2.2.2.2.2.1 d2.toNat).bind fun x1 =>
   bif decide ((((x1.2.length : Nat) : Int)) > 200) then
   some (.inl (d1, false))
   else
   k1 rb d1 (IntKind.i64.wrap (d2 + 1))
  else
   none
 else
  some (.inr d1)
theorem eb1 : EqB 1 fun a b => U2 (b1 a b) := fun _ _ _ => by kernel_rfl
theorem ob1 {d1 d2 y} (h : b1 T.rf T.rb d1 d2 = some y) : k1 T.rb d1 d2 = some y := eb1.o h
def b2 (rf : T.RF) (rb : T.RB) (d1 : XUn) (d2 : Int) : Option ((XUn × Bool) ⊕ XUn) :=
 bif decide (d2 < (((d1.2.2.2.2.2.2.2.length : Nat) : Int))) then
  bif inb d2 d1.2.2.2.2.2.2.2.length then
   (nth d1.2.2.2.2.2.2.2 d2.toNat).bind fun x1 =>
   bif decide ((((x1.2.2.2.1.length : Nat) : Int)) > 200) then
    some (.inl (d1, false))
   else
   bif decide ((((x1.2.2.2.2.1.length : Nat) : Int)) > 200) then
    some (.inl (d1, false))
   else
   bif decide ((((x1.2.2.2.2.2.length : Nat) : Int)) > 30) then
    some (.inl (d1, false))
   else
    (k3 rb x1 0).bind fun z2 =>
    match z2 with
    | .inl u3 =>
      some (.inl (d1, u3.2))
    | .inr w4 =>
      k2 rb d1 (IntKind.i64.wrap (d2 + 1))
  else
   none
 else
  some (.inr d1)
theorem eb2 : EqB 2 fun a b => U2 (b2 a b) := fun _ _ _ => by kernel_rfl
theorem ob2 {d1 d2 y} (h : b2 T.rf T.rb d1 d2 = some y) : k2 T.rb d1 d2 = some y := eb2.o h
def b3 (rf : T.RF) (rb : T.RB) (d1 : XIt) (d2 : Int) : Option ((XIt × Bool) ⊕ XIt) :=
 bif decide (d2 < (((d1.2.2.2.2.2.length : Nat) : Int))) then
  bif inb d2 d1.2.2.2.2.2.length then
   (nth d1.2.2.2.2.2 d2.toNat).bind fun x1 =>
   bif decide ((((x1.length : Nat) : Int)) > 200) then
   some (.inl (d1, false))
   else
   k3 rb d1 (IntKind.i64.wrap (d2 + 1))
  else
   none
 else
  some (.inr d1)
theorem eb3 : EqB 3 fun a b => U2 (b3 a b) := fun _ _ _ => by kernel_rfl
theorem ob3 {d1 d2 y} (h : b3 T.rf T.rb d1 d2 = some y) : k3 T.rb d1 d2 = some y := eb3.o h
def r1 (rf : T.RF) (rb : T.RB) (d1 : XPg) : Option Bool :=
 bif decide ((((d1.1.length : Nat) : Int)) > 30) then
  some false
 else
  (k0 rb d1 0).bind fun z1 =>
  match z1 with
  | .inl u2 =>
    some u2.2
  | .inr w3 =>
    some true
theorem er1 : EqF 1 fun a b => r1 a b := fun _ _ _ => by kernel_rfl
theorem or1 {d1 y} (h : r1 T.rf T.rb d1 = some y) : c1 T.rf d1 = some y := er1.o h
def r6 (rf : T.RF) (rb : T.RB) (d1 : Int) : Option Bool :=
 bif decide (d1 ≥ 48) then
  some (decide (d1 ≤ 57))
 else
  some false
theorem er6 : EqF 6 fun a b => r6 a b := fun _ _ _ => by kernel_rfl
theorem or6 {d1 y} (h : r6 T.rf T.rb d1 = some y) : c6 T.rf d1 = some y := er6.o h
def b7 (rf : T.RF) (rb : T.RB) (d1 : List UInt8) (d2 : Int) (d3 : Int) : Option Int :=
 bif decide (d3 < (((d1.length : Nat) : Int))) then
  bif decide (d2 ≤ 2147483647) then
   bif inb d3 d1.length then
   (nth d1 d3.toNat).bind fun b1 =>
   k7 rb d1 (IntKind.i64.wrap ((IntKind.i64.wrap (10 * d2)) + (IntKind.i64.wrap (IntKind.u8.wrap ((((b1.toNat : Nat) : Int)) - 48))))) (IntKind.i64.wrap (d3 + 1))
   else
   none
  else
   some d2
 else
  some d2
theorem eb7 : EqB 7 fun a b => U3 (b7 a b) := fun _ _ _ => by kernel_rfl
def r7 (rf : T.RF) (rb : T.RB) (d1 : List UInt8) : Option Int :=
 (k7 rb d1 0 0).bind fun z1 =>
 some z1
theorem er7 : EqF 7 fun a b => r7 a b := fun _ _ _ => by kernel_rfl
def r8 (rf : T.RF) (rb : T.RB) (d1 : Int) : Option Bool :=
 bif decide (d1 ≥ 97) then
  bif decide (d1 ≤ 122) then
   some true
  else
   some (d1 == 95)
 else
  some (d1 == 95)
theorem er8 : EqF 8 fun a b => r8 a b := fun _ _ _ => by kernel_rfl
theorem or8 {d1 y} (h : r8 T.rf T.rb d1 = some y) : c8 T.rf d1 = some y := er8.o h
def r11 (rf : T.RF) (rb : T.RB) : Option (List (List UInt8)) :=
 some [([97, 110, 100] : List UInt8), ([97, 115, 115, 117, 109, 101] : List UInt8), ([98, 111, 111, 108] : List UInt8), ([99, 111, 110, 116, 114, 97, 99, 116] : List UInt8), ([100, 105, 118] : List UInt8), ([101, 108, 115, 101] : List UInt8), ([101, 110, 100] : List UInt8), ([101, 110, 115, 117, 114, 101] : List UInt8), ([102, 97, 108, 108, 98, 97, 99, 107] : List UInt8), ([102, 97, 108, 115, 101] : List UInt8), ([103, 104, 111, 115, 116] : List UInt8), ([103, 117, 97, 114, 97, 110, 116, 101, 101] : List UInt8), ([104, 105, 115, 116] : List UInt8), ([105, 102] : List UInt8), ([105, 109, 112, 111, 114, 116] : List UInt8), ([105, 110, 116] : List UInt8), ([108, 101, 116] : List UInt8), ([109, 97, 105, 110] : List UInt8), ([109, 111, 100] : List UInt8), ([109, 111, 100, 101] : List UInt8), ([110, 111, 100, 101] : List UInt8), ([110, 111, 116] : List UInt8), ([111, 110, 99, 101] : List UInt8), ([111, 114] : List UInt8), ([112, 114, 101] : List UInt8), ([112, 114, 101, 118] : List UInt8), ([114, 101, 113, 117, 105, 114, 101] : List UInt8), ([114, 101, 116, 117, 114, 110, 115] : List UInt8), ([115, 105, 110, 99, 101] : List UInt8), ([116, 101, 108] : List UInt8), ([116, 104, 101, 110] : List UInt8), ([116, 114, 117, 101] : List UInt8), ([118, 97, 114] : List UInt8), ([119, 105, 116, 104, 105, 110] : List UInt8), ([120, 111, 114] : List UInt8)]
theorem c7x : EqF 11 fun a b => U0 (r11 a b) := fun _ _ _ => by kernel_rfl
theorem d5o { y} (h : r11 T.rf T.rb = some y) : c11 T.rf = some y := c7x.o h
def b9 (rf : T.RF) (rb : T.RB) (d1 : List (List UInt8)) (d2 : List UInt8) (d3 : Int) : Option ((List (List UInt8) × Bool) ⊕ (List (List UInt8))) :=
 bif decide (d3 < (((d1.length : Nat) : Int))) then
  bif inb d3 d1.length then
   (nth d1 d3.toNat).bind fun x1 =>
   bif x1 == d2 then
   some (.inl (d1, true))
   else
   k9 rb d1 d2 (IntKind.i64.wrap (d3 + 1))
  else
   none
 else
  some (.inr d1)
theorem eb9 : EqB 9 fun a b => U3 (b9 a b) := fun _ _ _ => by kernel_rfl
theorem ob9 {d1 d2 d3 y} (h : b9 T.rf T.rb d1 d2 d3 = some y) : k9 T.rb d1 d2 d3 = some y := eb9.o h
def r10 (rf : T.RF) (rb : T.RB) (d1 : List UInt8) : Option Bool :=
 (c11 rf).bind fun y1 =>
 (k9 rb y1 d1 0).bind fun z2 =>
 match z2 with
 | .inl u3 =>
   some u3.2
 | .inr w4 =>
   some false
theorem c7w : EqF 10 fun a b => r10 a b := fun _ _ _ => by kernel_rfl
theorem d5n {d1 y} (h : r10 T.rf T.rb d1 = some y) : c10 T.rf d1 = some y := c7w.o h
def b10 (rf : T.RF) (rb : T.RB) (d1 : List UInt8) (d2 : Int) : Option (Bool ⊕ Unit) :=
 bif decide (d2 < (((d1.length : Nat) : Int))) then
  bif inb d2 d1.length then
   (nth d1 d2.toNat).bind fun b1 =>
   (c8 rf (((b1.toNat : Nat) : Int))).bind fun y2 =>
   bif !y2 then
   bif inb d2 d1.length then
   (nth d1 d2.toNat).bind fun b3 =>
   (c6 rf (((b3.toNat : Nat) : Int))).bind fun y4 =>
   bif !y4 then
   some (.inl false)
   else
   k10 rb d1 (IntKind.i64.wrap (d2 + 1))
   else
   none
   else
   k10 rb d1 (IntKind.i64.wrap (d2 + 1))
  else
   none
 else
  some (.inr ())
theorem c6U : EqB 10 fun a b => U2 (b10 a b) := fun _ _ _ => by kernel_rfl
theorem d0B {d1 d2 y} (h : b10 T.rf T.rb d1 d2 = some y) : k10 T.rb d1 d2 = some y := c6U.o h
def r12 (rf : T.RF) (rb : T.RB) (d1 : List UInt8) : Option Bool :=
 bif d1 == ([] : List UInt8) then
  some false
 else
 bif decide ((((d1.length : Nat) : Int)) > 40) then
  some false
 else
 bif inb 0 d1.length then
  (nth d1 0).bind fun b1 =>
  (c8 rf (((b1.toNat : Nat) : Int))).bind fun y2 =>
  bif !y2 then
   some false
  else
   (c10 rf d1).bind fun y3 =>
   bif y3 then
    some false
   else
    (k10 rb d1 0).bind fun z4 =>
    match z4 with
    | .inl u5 =>
      some u5
    | .inr w6 =>
      some true
 else
  none
theorem c7y : EqF 12 fun a b => r12 a b := fun _ _ _ => by kernel_rfl
theorem d5p {d1 y} (h : r12 T.rf T.rb d1 = some y) : c12 T.rf d1 = some y := c7y.o h
def r9 (rf : T.RF) (rb : T.RB) (d1 : List UInt8) (d2 : Int) : Option (XK × Int) :=
 (c10 rf d1).bind fun y1 =>
 bif y1 then
  some ((3, d1, d2), 0)
 else
  (c12 rf d1).bind fun y2 =>
  bif !y2 then
   some ((0, ([] : List UInt8), 0), 5)
  else
   some ((1, d1, d2), 0)
theorem er9 : EqF 9 fun a b => U2 (r9 a b) := fun _ _ _ => by kernel_rfl
def r14 (rf : T.RF) (rb : T.RB) : Option (List (List UInt8)) :=
 some [([45, 62] : List UInt8), ([61, 62] : List UInt8), ([60, 61] : List UInt8), ([62, 61] : List UInt8), ([60, 62] : List UInt8), ([61] : List UInt8), ([60] : List UInt8), ([62] : List UInt8), ([43] : List UInt8), ([45] : List UInt8), ([42] : List UInt8), ([40] : List UInt8), ([41] : List UInt8), ([44] : List UInt8), ([59] : List UInt8), ([58] : List UInt8)]
theorem d2N : EqF 14 fun a b => U0 (r14 a b) := fun _ _ _ => by kernel_rfl
def b11 (rf : T.RF) (rb : T.RB) (d1 : List (List UInt8)) (d2 : List UInt8) (d3 : Int) : Option ((List (List UInt8) × List UInt8) ⊕ (List (List UInt8))) :=
 bif decide (d3 < (((d1.length : Nat) : Int))) then
  bif inb d3 d1.length then
   (nth d1 d3.toNat).bind fun x1 =>
   bif decide ((((d2.length : Nat) : Int)) ≥ (((x1.length : Nat) : Int))) then
   bif inb d3 d1.length then
   (nth d1 d3.toNat).bind fun x2 =>
   bif F4 (((x2.length : Nat) : Int)) d2.length then
   bif inb d3 d1.length then
   (nth d1 d3.toNat).bind fun x3 =>
   bif (sub d2 (some (0, (x2.length - 0)))) == x3 then
   bif inb d3 d1.length then
   (nth d1 d3.toNat).bind fun x4 =>
   some (.inl (d1, x4))
   else
   none
   else
   k11 rb d1 d2 (IntKind.i64.wrap (d3 + 1))
   else
   none
   else
   none
   else
   none
   else
   k11 rb d1 d2 (IntKind.i64.wrap (d3 + 1))
  else
   none
 else
  some (.inr d1)
theorem d2y : EqB 11 fun a b => U3 (b11 a b) := fun _ _ _ => by kernel_rfl
def r13 (rf : T.RF) (rb : T.RB) (d1 : List UInt8) : Option (List UInt8) :=
 (c14 rf).bind fun y1 =>
 (k11 rb y1 d1 0).bind fun z2 =>
 match z2 with
 | .inl u3 =>
   some u3.2
 | .inr w4 =>
   some ([] : List UInt8)
theorem d2M : EqF 13 fun a b => r13 a b := fun _ _ _ => by kernel_rfl
def b6 (rf : T.RF) (rb : T.RB) (d1 : List UInt8) (d2 : Int) : Option Int :=
 bif decide (d2 < (((d1.length : Nat) : Int))) then
  bif inb d2 d1.length then
   (nth d1 d2.toNat).bind fun b1 =>
   (c6 rf (((b1.toNat : Nat) : Int))).bind fun y2 =>
   bif y2 then
   k6 rb d1 (IntKind.i64.wrap (d2 + 1))
   else
   some d2
  else
   none
 else
  some d2
theorem eb6 : EqB 6 fun a b => U2 (b6 a b) := fun _ _ _ => by kernel_rfl
def b8 (rf : T.RF) (rb : T.RB) (d1 : List UInt8) (d2 : Int) : Option Int :=
 bif decide (d2 < (((d1.length : Nat) : Int))) then
  bif inb d2 d1.length then
   (nth d1 d2.toNat).bind fun b1 =>
   (c8 rf (((b1.toNat : Nat) : Int))).bind fun y2 =>
   bif y2 then
   k8 rb d1 (IntKind.i64.wrap (d2 + 1))
   else
   bif inb d2 d1.length then
   (nth d1 d2.toNat).bind fun b3 =>
   (c6 rf (((b3.toNat : Nat) : Int))).bind fun y4 =>
   bif y4 then
   k8 rb d1 (IntKind.i64.wrap (d2 + 1))
   else
   some d2
   else
   none
  else
   none
 else
  some d2
theorem eb8 : EqB 8 fun a b => U2 (b8 a b) := fun _ _ _ => by kernel_rfl
def r5 (rf : T.RF) (rb : T.RB) (d1 : List UInt8) (d2 : Int) : Option (XK × Int) :=
 bif inb 0 d1.length then
  (nth d1 0).bind fun b1 =>
  (c6 rf (((b1.toNat : Nat) : Int))).bind fun y2 =>
  bif y2 then
   (k6 rb d1 0).bind fun z3 =>
   bif decide (z3 > 1) then
   bif inb 0 d1.length then
   (nth d1 0).bind fun b4 =>
   bif (((b4.toNat : Nat) : Int)) == 48 then
   some ((0, ([] : List UInt8), 0), 2)
   else
   bif F4 z3 d1.length then
   (c7 rf (sub d1 (some (0, (z3.toNat - 0))))).bind fun y5 =>
   bif decide (y5 > 2147483647) then
   some ((0, ([] : List UInt8), 0), 2)
   else
   bif F4 z3 d1.length then
   some ((2, sub d1 (some (0, (z3.toNat - 0))), d2), 0)
   else
   none
   else
   none
   else
   none
   else
   bif F4 z3 d1.length then
   (c7 rf (sub d1 (some (0, (z3.toNat - 0))))).bind fun y6 =>
   bif decide (y6 > 2147483647) then
   some ((0, ([] : List UInt8), 0), 2)
   else
   bif F4 z3 d1.length then
   some ((2, sub d1 (some (0, (z3.toNat - 0))), d2), 0)
   else
   none
   else
   none
  else
  bif inb 0 d1.length then
   (nth d1 0).bind fun b7 =>
   (c8 rf (((b7.toNat : Nat) : Int))).bind fun y8 =>
   bif y8 then
   (k8 rb d1 0).bind fun z9 =>
   bif F4 z9 d1.length then
   (c9 rf (sub d1 (some (0, (z9.toNat - 0)))) d2).bind fun y10 =>
   some y10
   else
   none
   else
   (c13 rf d1).bind fun y11 =>
   bif y11 == ([] : List UInt8) then
   some ((0, ([] : List UInt8), 0), 5)
   else
   some ((4, y11, d2), 0)
  else
   none
 else
  none
theorem er5 : EqF 5 fun a b => U2 (r5 a b) := fun _ _ _ => by kernel_rfl
def b12 (rf : T.RF) (rb : T.RB) (d1 : Int × Int) (d2 : List XK) (d3 : List UInt8) (d4 : Int) : Option (((Int × Int) × List XK) ⊕ ((Int × Int) × List XK)) :=
 bif decide (d4 < (((d3.length : Nat) : Int))) then
  bif inb d4 d3.length then
   (nth d3 d4.toNat).bind fun b1 =>
   bif (((b1.toNat : Nat) : Int)) == 32 then
   k12 rb d1 d2 d3 (IntKind.i64.wrap (d4 + 1))
   else
   bif inb d4 d3.length then
   (nth d3 d4.toNat).bind fun b2 =>
   bif (((b2.toNat : Nat) : Int)) == 9 then
   k12 rb d1 d2 d3 (IntKind.i64.wrap (d4 + 1))
   else
   bif inb d4 d3.length then
   (nth d3 d4.toNat).bind fun b3 =>
   bif (((b3.toNat : Nat) : Int)) == 10 then
   k12 rb d1 d2 d3 (IntKind.i64.wrap (d4 + 1))
   else
   bif inb d4 d3.length then
   (nth d3 d4.toNat).bind fun b4 =>
   bif (((b4.toNat : Nat) : Int)) == 13 then
   k12 rb d1 d2 d3 (IntKind.i64.wrap (d4 + 1))
   else
   bif decide ((IntKind.i64.wrap (d4 + 1)) < (((d3.length : Nat) : Int))) then
   bif inb d4 d3.length then
   (nth d3 d4.toNat).bind fun b5 =>
   bif (((b5.toNat : Nat) : Int)) == 45 then
   bif inb (IntKind.i64.wrap (d4 + 1)) d3.length then
   (nth d3 (IntKind.i64.wrap (d4 + 1)).toNat).bind fun b6 =>
   bif (((b6.toNat : Nat) : Int)) == 45 then
   (k13 rb d3 d4).bind fun z7 =>
   k12 rb d1 d2 d3 z7
   else
   bif F4 d4 d3.length then
   (c5 rf (sub d3 (some (d4.toNat, (d3.length - d4.toNat)))) d4).bind fun y8 =>
   bif y8.2 != 0 then
   some (.inl ((y8.2, d4), []))
   else
   bif (Nat.ble (d2.length + 1) j4) && true then
   k12 rb d1 (d2 ++ [y8.1]) d3 (IntKind.i64.wrap (d4 + (((y8.1.2.1.length : Nat) : Int))))
   else
   none
   else
   none
   else
   none
   else
   bif F4 d4 d3.length then
   (c5 rf (sub d3 (some (d4.toNat, (d3.length - d4.toNat)))) d4).bind fun y9 =>
   bif y9.2 != 0 then
   some (.inl ((y9.2, d4), []))
   else
   bif (Nat.ble (d2.length + 1) j4) && true then
   k12 rb d1 (d2 ++ [y9.1]) d3 (IntKind.i64.wrap (d4 + (((y9.1.2.1.length : Nat) : Int))))
   else
   none
   else
   none
   else
   none
   else
   bif F4 d4 d3.length then
   (c5 rf (sub d3 (some (d4.toNat, (d3.length - d4.toNat)))) d4).bind fun y10 =>
   bif y10.2 != 0 then
   some (.inl ((y10.2, d4), []))
   else
   bif (Nat.ble (d2.length + 1) j4) && true then
   k12 rb d1 (d2 ++ [y10.1]) d3 (IntKind.i64.wrap (d4 + (((y10.1.2.1.length : Nat) : Int))))
   else
   none
   else
   none
   else
   none
   else
   none
   else
   none
  else
   none
 else
  some (.inr (d1, d2))
theorem d2z : EqB 12 fun a b => U4 (b12 a b) := fun _ _ _ => by kernel_rfl
def b13 (rf : T.RF) (rb : T.RB) (d1 : List UInt8) (d2 : Int) : Option Int :=
 bif decide (d2 < (((d1.length : Nat) : Int))) then
  bif inb d2 d1.length then
   (nth d1 d2.toNat).bind fun b1 =>
   bif (((b1.toNat : Nat) : Int)) != 10 then
   k13 rb d1 (IntKind.i64.wrap (d2 + 1))
   else
   some d2
  else
   none
 else
  some d2
theorem d2A : EqB 13 fun a b => U2 (b13 a b) := fun _ _ _ => by kernel_rfl
def r4 (rf : T.RF) (rb : T.RB) (d1 : List UInt8) : Option (List XK × Int × Int) :=
 bif decide ((((d1.length : Nat) : Int)) > 100000) then
  some ([], 7, (-1))
 else
  (k12 rb (0, 0) [] d1 0).bind fun z1 =>
  match z1 with
  | .inl u2 =>
    some (u2.2, u2.1)
  | .inr w3 =>
    some (w3.2, 0, 0)
theorem er4 : EqF 4 fun a b => r4 a b := fun _ _ _ => by kernel_rfl
def r16 (rf : T.RF) (rb : T.RB) (d1 : Int) (d2 : Int) (d3 : Int) (d4 : List XK) : Option (Int × Int × Int × List XK × Bool) :=
 some (d1, d2, d3, d4, d2 == 0)
theorem d2P : EqF 16 fun a b => U4 (r16 a b) := fun _ _ _ => by kernel_rfl
def c6n (rf : T.RF) (rb : T.RB) (d1 : Int) (d2 : Int) (d3 : Int) (d4 : List XK) (d5 : List UInt8) : Option (Int × Int × Int × List XK × Bool) :=
 (c16 rf d1 d2 d3 d4).bind fun y1 =>
 bif !y1.2.2.2.2 then
  agN 1 (
   some (y1.1, y1.2.1, y1.2.2.1, y1.2.2.2.1, false)
  )
 else
  agN 1 (
   bif decide (y1.1 ≥ (((y1.2.2.2.1.length : Nat) : Int))) then
   some (y1.1, y1.2.1, y1.2.2.1, y1.2.2.2.1, false)
   else
   bif inb y1.1 y1.2.2.2.1.length then
   (nth y1.2.2.2.1 y1.1.toNat).bind fun x2 =>
   bif x2.1 == 4 then
   some (y1.1, y1.2.1, y1.2.2.1, y1.2.2.2.1, x2.2.1 == d5)
   else
   bif x2.1 == 3 then
   some (y1.1, y1.2.1, y1.2.2.1, y1.2.2.2.1, x2.2.1 == d5)
   else
   some (y1.1, y1.2.1, y1.2.2.1, y1.2.2.2.1, false)
   else
   none
  )
def r15 (rf : T.RF) (rb : T.RB) (d1 : Int) (d2 : Int) (d3 : Int) (d4 : List XK) (d5 : List UInt8) : Option (Int × Int × Int × List XK × Bool) :=
 (c16 rf d1 d2 d3 d4).bind fun y1 =>
 bif !y1.2.2.2.2 then
  some (y1.1, y1.2.1, y1.2.2.1, y1.2.2.2.1, false)
 else
 bif decide (y1.1 ≥ (((y1.2.2.2.1.length : Nat) : Int))) then
  some (y1.1, y1.2.1, y1.2.2.1, y1.2.2.2.1, false)
 else
 bif inb y1.1 y1.2.2.2.1.length then
  (nth y1.2.2.2.1 y1.1.toNat).bind fun x2 =>
  bif x2.1 == 4 then
   some (y1.1, y1.2.1, y1.2.2.1, y1.2.2.2.1, x2.2.1 == d5)
  else
  bif x2.1 == 3 then
   some (y1.1, y1.2.1, y1.2.2.1, y1.2.2.2.1, x2.2.1 == d5)
  else
   some (y1.1, y1.2.1, y1.2.2.1, y1.2.2.2.1, false)
 else
  none
theorem d2O : EqF 15 fun a b => U5 (c6n a b) := fun _ _ _ => by kernel_rfl
theorem d6s (rf rb d1 d2 d3 d4 d5) : c6n rf rb d1 d2 d3 d4 d5 = r15 rf rb d1 d2 d3 d4 d5 := by
 unfold c6n r15; simp only [D4, l0, o8]
def r19 (rf : T.RF) (rb : T.RB) (d1 : List XK) (d2 : Int) : Option Int :=
 bif decide (d2 < 0) then
  some (-1)
 else
 bif decide (d2 ≥ (((d1.length : Nat) : Int))) then
  some (-1)
 else
 bif inb d2 d1.length then
  (nth d1 d2.toNat).bind fun x1 =>
  some x1.2.2
 else
  none
theorem d2S : EqF 19 fun a b => U2 (r19 a b) := fun _ _ _ => by kernel_rfl
def c6o (rf : T.RF) (rb : T.RB) (d1 : Int) (d2 : Int) (d3 : Int) (d4 : List XK) (d5 : Int) : Option (List XK × Int × Int × Int) :=
 (c16 rf d1 d2 d3 d4).bind fun y1 =>
 bif y1.2.2.2.2 then
  agN 1 (
   (c19 rf y1.2.2.2.1 y1.1).bind fun y2 =>
   some (y1.2.2.2.1, y1.1, d5, y2)
  )
 else
  some (y1.2.2.2.1, y1.1, y1.2.1, y1.2.2.1)
def r18 (rf : T.RF) (rb : T.RB) (d1 : Int) (d2 : Int) (d3 : Int) (d4 : List XK) (d5 : Int) : Option (List XK × Int × Int × Int) :=
 (c16 rf d1 d2 d3 d4).bind fun y1 =>
 bif y1.2.2.2.2 then
  (c19 rf y1.2.2.2.1 y1.1).bind fun y2 =>
  some (y1.2.2.2.1, y1.1, d5, y2)
 else
  some (y1.2.2.2.1, y1.1, y1.2.1, y1.2.2.1)
theorem d2R : EqF 18 fun a b => U5 (c6o a b) := fun _ _ _ => by kernel_rfl
theorem d6t (rf rb d1 d2 d3 d4 d5) : c6o rf rb d1 d2 d3 d4 d5 = r18 rf rb d1 d2 d3 d4 d5 := by
 unfold c6o r18; simp only [D4, l0, o8]
def r17 (rf : T.RF) (rb : T.RB) (d1 : Int) (d2 : Int) (d3 : Int) (d4 : List XK) (d5 : Int) : Option (List XK × Int × Int × Int) :=
 bif decide (d5 ≥ 200) then
  (c18 rf d1 d2 d3 d4 7).bind fun y1 =>
  some y1
 else
  some (d4, d1, d2, d3)
theorem d2Q : EqF 17 fun a b => U5 (r17 a b) := fun _ _ _ => by kernel_rfl
def r23 (rf : T.RF) (rb : T.RB) (d1 : List XK × Int × Int × Int) : Option ((List XK × Int × Int × Int) × Bool) :=
 some (d1, d1.2.2.1 == 0)
theorem d2W : EqF 23 fun a b => r23 a b := fun _ _ _ => by kernel_rfl
def c6p (rf : T.RF) (rb : T.RB) (d1 : List XK × Int × Int × Int) (d2 : List UInt8) : Option ((List XK × Int × Int × Int) × Bool) :=
 (c23 rf d1).bind fun y1 =>
 bif !y1.2 then
  agN 1 (
   some (y1.1, false)
  )
 else
  agN 1 (
   bif decide (y1.1.2.1 ≥ (((y1.1.1.length : Nat) : Int))) then
   some (y1.1, false)
   else
   bif inb y1.1.2.1 y1.1.1.length then
   (nth y1.1.1 y1.1.2.1.toNat).bind fun x2 =>
   bif x2.1 == 4 then
   some (y1.1, x2.2.1 == d2)
   else
   bif x2.1 == 3 then
   some (y1.1, x2.2.1 == d2)
   else
   some (y1.1, false)
   else
   none
  )
def r22 (rf : T.RF) (rb : T.RB) (d1 : List XK × Int × Int × Int) (d2 : List UInt8) : Option ((List XK × Int × Int × Int) × Bool) :=
 (c23 rf d1).bind fun y1 =>
 bif !y1.2 then
  some (y1.1, false)
 else
 bif decide (y1.1.2.1 ≥ (((y1.1.1.length : Nat) : Int))) then
  some (y1.1, false)
 else
 bif inb y1.1.2.1 y1.1.1.length then
  (nth y1.1.1 y1.1.2.1.toNat).bind fun x2 =>
  bif x2.1 == 4 then
   some (y1.1, x2.2.1 == d2)
  else
  bif x2.1 == 3 then
   some (y1.1, x2.2.1 == d2)
  else
   some (y1.1, false)
 else
  none
theorem d2V : EqF 22 fun a b => U2 (c6p a b) := fun _ _ _ => by kernel_rfl
theorem d6u (rf rb d1 d2) : c6p rf rb d1 d2 = r22 rf rb d1 d2 := by
 unfold c6p r22; simp only [D4, l0, o8]
def r21 (rf : T.RF) (rb : T.RB) (d1 : List XK × Int × Int × Int) (d2 : List UInt8) : Option ((List XK × Int × Int × Int) × Bool) :=
 (c22 rf d1 d2).bind fun y1 =>
 bif !y1.2 then
  some (y1.1, false)
 else
  some ((y1.1.1, IntKind.i64.wrap (y1.1.2.1 + 1), y1.1.2.2), true)
theorem d2U : EqF 21 fun a b => U2 (r21 a b) := fun _ _ _ => by kernel_rfl
def c6q (rf : T.RF) (rb : T.RB) (d1 : List XK × Int × Int × Int) : Option ((List XK × Int × Int × Int) × Bool) :=
 (c23 rf d1).bind fun y1 =>
 bif y1.2 then
  agN 1 (
   bif decide (y1.1.2.1 < (((y1.1.1.length : Nat) : Int))) then
   agN 1 (
   bif inb y1.1.2.1 y1.1.1.length then
   (nth y1.1.1 y1.1.2.1.toNat).bind fun x2 =>
   some (y1.1, x2.1 == 1)
   else
   none
   )
   else
   agN 1 (
   some (y1.1, false)
   )
  )
 else
  agN 1 (
   agN 1 (
   some (y1.1, false)
   )
  )
def r25 (rf : T.RF) (rb : T.RB) (d1 : List XK × Int × Int × Int) : Option ((List XK × Int × Int × Int) × Bool) :=
 (c23 rf d1).bind fun y1 =>
 bif y1.2 then
  bif decide (y1.1.2.1 < (((y1.1.1.length : Nat) : Int))) then
   bif inb y1.1.2.1 y1.1.1.length then
   (nth y1.1.1 y1.1.2.1.toNat).bind fun x2 =>
   some (y1.1, x2.1 == 1)
   else
   none
  else
   some (y1.1, false)
 else
  some (y1.1, false)
theorem d2Y : EqF 25 fun a b => c6q a b := fun _ _ _ => by kernel_rfl
theorem d6v (rf rb d1) : c6q rf rb d1 = r25 rf rb d1 := by
 unfold c6q r25; simp only [D4, l0, o8]
def c6r (rf : T.RF) (rb : T.RB) (d1 : List XK × Int × Int × Int) (d2 : Int) : Option (List XK × Int × Int × Int) :=
 (c23 rf d1).bind fun y1 =>
 bif y1.2 then
  agN 1 (
   (c19 rf y1.1.1 y1.1.2.1).bind fun y2 =>
   some (y1.1.1, y1.1.2.1, d2, y2)
  )
 else
  some y1.1
def r26 (rf : T.RF) (rb : T.RB) (d1 : List XK × Int × Int × Int) (d2 : Int) : Option (List XK × Int × Int × Int) :=
 (c23 rf d1).bind fun y1 =>
 bif y1.2 then
  (c19 rf y1.1.1 y1.1.2.1).bind fun y2 =>
  some (y1.1.1, y1.1.2.1, d2, y2)
 else
  some y1.1
theorem d2Z : EqF 26 fun a b => U2 (c6r a b) := fun _ _ _ => by kernel_rfl
theorem d6w (rf rb d1 d2) : c6r rf rb d1 d2 = r26 rf rb d1 d2 := by
 unfold c6r r26; simp only [D4, l0, o8]
def r24 (rf : T.RF) (rb : T.RB) (d1 : List XK × Int × Int × Int) : Option ((List XK × Int × Int × Int) × List UInt8) :=
 (c25 rf d1).bind fun y1 =>
 bif !y1.2 then
  (c26 rf y1.1 5).bind fun y2 =>
  some (y2, ([] : List UInt8))
 else
 bif inb (IntKind.i64.wrap ((IntKind.i64.wrap (y1.1.2.1 + 1)) - 1)) y1.1.1.length then
  (nth y1.1.1 (IntKind.i64.wrap ((IntKind.i64.wrap (y1.1.2.1 + 1)) - 1)).toNat).bind fun x3 =>
  some ((y1.1.1, IntKind.i64.wrap (y1.1.2.1 + 1), y1.1.2.2), x3.2.1)
 else
  none
theorem d2X : EqF 24 fun a b => r24 a b := fun _ _ _ => by kernel_rfl
def r28 (rf : T.RF) (rb : T.RB) (d1 : List XK × Int × Int × Int) (d2 : List UInt8) : Option (List XK × Int × Int × Int) :=
 (c21 rf d1 d2).bind fun y1 =>
 bif !y1.2 then
  (c26 rf y1.1 5).bind fun y2 =>
  some y2
 else
  some y1.1
theorem d3b : EqF 28 fun a b => U2 (r28 a b) := fun _ _ _ => by kernel_rfl
def r29 (rf : T.RF) (rb : T.RB) (d1 : List XK × Int × Int × Int) (d2 : Int) : Option (List XK × Int × Int × Int) :=
 bif decide (d2 ≥ 200) then
  (c26 rf d1 7).bind fun y1 =>
  some y1
 else
  some d1
theorem d3c : EqF 29 fun a b => U2 (r29 a b) := fun _ _ _ => by kernel_rfl
def r30 (rf : T.RF) (rb : T.RB) (d1 : List XK × Int × Int × Int) : Option ((List XK × Int × Int × Int) × XPm) :=
 (c24 rf d1).bind fun y1 =>
 (c28 rf y1.1 ([58] : List UInt8)).bind fun y2 =>
 (c21 rf y2 ([98, 111, 111, 108] : List UInt8)).bind fun y3 =>
 bif y3.2 then
  some (y3.1, y1.2, 1)
 else
  (c21 rf y3.1 ([105, 110, 116] : List UInt8)).bind fun y4 =>
  bif y4.2 then
   some (y4.1, y1.2, 2)
  else
   (c26 rf y4.1 5).bind fun y5 =>
   some (y5, y1.2, 0)
theorem d3d : EqF 30 fun a b => r30 a b := fun _ _ _ => by kernel_rfl
def b17 (rf : T.RF) (rb : T.RB) (d1 : List XK × Int × Int × Int) (d2 : List XPm) : Option (((List XK × Int × Int × Int) × List XPm) ⊕ (List XK × Int × Int × Int)) :=
 (c23 rf d1).bind fun y1 =>
 bif y1.2 then
  (c29 rf y1.1 (((d2.length : Nat) : Int))).bind fun y2 =>
  (c30 rf y2).bind fun y3 =>
  bif (Nat.ble (d2.length + 1) j4) && true then
   (c21 rf y3.1 ([41] : List UInt8)).bind fun y4 =>
   bif y4.2 then
   some (.inl (y4.1, d2 ++ [y3.2]))
   else
   (c28 rf y4.1 ([59] : List UInt8)).bind fun y5 =>
   k17 rb y5 (d2 ++ [y3.2])
  else
   none
 else
  some (.inr y1.1)
theorem d2B : EqB 17 fun a b => U2 (b17 a b) := fun _ _ _ => by kernel_rfl
def r27 (rf : T.RF) (rb : T.RB) (d1 : List XK × Int × Int × Int) : Option ((List XK × Int × Int × Int) × List XPm) :=
 (c28 rf d1 ([40] : List UInt8)).bind fun y1 =>
 (c21 rf y1 ([41] : List UInt8)).bind fun y2 =>
 bif y2.2 then
  some (y2.1, [])
 else
  (k17 rb y2.1 []).bind fun z3 =>
  match z3 with
  | .inl u4 =>
    some u4
  | .inr w5 =>
    some (w5, [])
theorem d3a : EqF 27 fun a b => r27 a b := fun _ _ _ => by kernel_rfl
def r32 (rf : T.RF) (rb : T.RB) (d1 : List XK × Int × Int × Int) : Option ((List XK × Int × Int × Int) × Bool) :=
 (c22 rf d1 ([97, 115, 115, 117, 109, 101] : List UInt8)).bind fun y1 =>
 bif y1.2 then
  some (y1.1, true)
 else
  (c22 rf y1.1 ([103, 117, 97, 114, 97, 110, 116, 101, 101] : List UInt8)).bind fun y2 =>
  bif y2.2 then
   some (y2.1, true)
  else
   (c22 rf y2.1 ([103, 104, 111, 115, 116] : List UInt8)).bind fun y3 =>
   bif y3.2 then
   some (y3.1, true)
   else
   (c22 rf y3.1 ([109, 111, 100, 101] : List UInt8)).bind fun y4 =>
   bif y4.2 then
   some (y4.1, true)
   else
   (c22 rf y4.1 ([105, 109, 112, 111, 114, 116] : List UInt8)).bind fun y5 =>
   some y5
theorem d3f : EqF 32 fun a b => r32 a b := fun _ _ _ => by kernel_rfl
def c6t (rf : T.RF) (rb : T.RB) (d1 : List XK × Int × Int × Int × Int) (d2 : Int) : Option ((List XK × Int × Int × Int × Int) × List XN) :=
 bif d1.2.2.2.1 == 0 then
  agN 1 (
   (c19 rf d1.1 d1.2.1).bind fun y1 =>
   some ((d1.1, d1.2.1, d1.2.2.1, d2, y1), [])
  )
 else
  some (d1, [])
def r45 (rf : T.RF) (rb : T.RB) (d1 : List XK × Int × Int × Int × Int) (d2 : Int) : Option ((List XK × Int × Int × Int × Int) × List XN) :=
 bif d1.2.2.2.1 == 0 then
  (c19 rf d1.1 d1.2.1).bind fun y1 =>
  some ((d1.1, d1.2.1, d1.2.2.1, d2, y1), [])
 else
  some (d1, [])
theorem d3j : EqF 45 fun a b => U2 (c6t a b) := fun _ _ _ => by kernel_rfl
theorem d6y (rf rb d1 d2) : c6t rf rb d1 d2 = r45 rf rb d1 d2 := by
 unfold c6t r45; simp only [D4, l0, o8]
def r48 (rf : T.RF) (rb : T.RB) (d1 : Int) (d2 : Int) (d3 : List UInt8) : Option XN :=
 some (d1, (-1), (-1), (-1), d2, d3)
theorem c7P : EqF 48 fun a b => U3 (r48 a b) := fun _ _ _ => by kernel_rfl
theorem d5B {d1 d2 d3 y} (h : r48 T.rf T.rb d1 d2 d3 = some y) : c48 T.rf d1 d2 d3 = some y := c7P.o h
def r49 (rf : T.RF) (rb : T.RB) (d1 : XN) : Option (List Int) :=
 bif d1.1 == 4 then
  bif d1.1 == 4 then
   some [d1.2.1]
  else
  bif d1.1 == 26 then
   some [d1.2.1, d1.2.2.1, d1.2.2.2.1]
  else
  bif d1.1 == 27 then
   bif d1.2.1 != (-1) then
   some [d1.2.1]
   else
   some []
  else
  bif d1.1 == 28 then
   bif d1.2.2.1 != (-1) then
   some [d1.2.2.1, d1.2.1]
   else
   some [d1.2.1]
  else
  bif decide (d1.1 ≥ 6) then
   bif decide (d1.1 ≤ 20) then
   some [d1.2.1, d1.2.2.1]
   else
   some []
  else
   some []
 else
 bif d1.1 == 5 then
  bif d1.1 == 5 then
   some [d1.2.1]
  else
  bif d1.1 == 26 then
   some [d1.2.1, d1.2.2.1, d1.2.2.2.1]
  else
  bif d1.1 == 27 then
   bif d1.2.1 != (-1) then
   some [d1.2.1]
   else
   some []
  else
  bif d1.1 == 28 then
   bif d1.2.2.1 != (-1) then
   some [d1.2.2.1, d1.2.1]
   else
   some [d1.2.1]
  else
  bif decide (d1.1 ≥ 6) then
   bif decide (d1.1 ≤ 20) then
   some [d1.2.1, d1.2.2.1]
   else
   some []
  else
   some []
 else
 bif d1.1 == 21 then
  bif d1.1 == 21 then
   some [d1.2.1]
  else
  bif d1.1 == 26 then
   some [d1.2.1, d1.2.2.1, d1.2.2.2.1]
  else
  bif d1.1 == 27 then
   bif d1.2.1 != (-1) then
   some [d1.2.1]
   else
   some []
  else
  bif d1.1 == 28 then
   bif d1.2.2.1 != (-1) then
   some [d1.2.2.1, d1.2.1]
   else
   some [d1.2.1]
  else
  bif decide (d1.1 ≥ 6) then
   bif decide (d1.1 ≤ 20) then
   some [d1.2.1, d1.2.2.1]
   else
   some []
  else
   some []
 else
 bif d1.1 == 22 then
  bif d1.1 == 22 then
   some [d1.2.1]
  else
  bif d1.1 == 26 then
   some [d1.2.1, d1.2.2.1, d1.2.2.2.1]
  else
  bif d1.1 == 27 then
   bif d1.2.1 != (-1) then
   some [d1.2.1]
   else
   some []
  else
  bif d1.1 == 28 then
   bif d1.2.2.1 != (-1) then
   some [d1.2.2.1, d1.2.1]
   else
   some [d1.2.1]
  else
  bif decide (d1.1 ≥ 6) then
   bif decide (d1.1 ≤ 20) then
   some [d1.2.1, d1.2.2.1]
   else
   some []
  else
   some []
 else
 bif d1.1 == 23 then
  bif d1.1 == 23 then
   some [d1.2.1]
  else
  bif d1.1 == 26 then
   some [d1.2.1, d1.2.2.1, d1.2.2.2.1]
  else
  bif d1.1 == 27 then
   bif d1.2.1 != (-1) then
   some [d1.2.1]
   else
   some []
  else
  bif d1.1 == 28 then
   bif d1.2.2.1 != (-1) then
   some [d1.2.2.1, d1.2.1]
   else
   some [d1.2.1]
  else
  bif decide (d1.1 ≥ 6) then
   bif decide (d1.1 ≤ 20) then
   some [d1.2.1, d1.2.2.1]
   else
   some []
  else
   some []
 else
 bif d1.1 == 24 then
  bif d1.1 == 24 then
   some [d1.2.1]
  else
  bif d1.1 == 26 then
   some [d1.2.1, d1.2.2.1, d1.2.2.2.1]
  else
  bif d1.1 == 27 then
   bif d1.2.1 != (-1) then
   some [d1.2.1]
   else
   some []
  else
  bif d1.1 == 28 then
   bif d1.2.2.1 != (-1) then
   some [d1.2.2.1, d1.2.1]
   else
   some [d1.2.1]
  else
  bif decide (d1.1 ≥ 6) then
   bif decide (d1.1 ≤ 20) then
   some [d1.2.1, d1.2.2.1]
   else
   some []
  else
   some []
 else
 bif d1.1 == 25 then
  some [d1.2.1]
 else
 bif d1.1 == 26 then
  some [d1.2.1, d1.2.2.1, d1.2.2.2.1]
 else
 bif d1.1 == 27 then
  bif d1.2.1 != (-1) then
   some [d1.2.1]
  else
   some []
 else
 bif d1.1 == 28 then
  bif d1.2.2.1 != (-1) then
   some [d1.2.2.1, d1.2.1]
  else
   some [d1.2.1]
 else
 bif decide (d1.1 ≥ 6) then
  bif decide (d1.1 ≤ 20) then
   some [d1.2.1, d1.2.2.1]
  else
   some []
 else
  some []
theorem c7Q : EqF 49 fun a b => r49 a b := fun _ _ _ => by kernel_rfl
theorem d5C {d1 y} (h : r49 T.rf T.rb d1 = some y) : c49 T.rf d1 = some y := c7Q.o h
def r51 (rf : T.RF) (rb : T.RB) (d1 : XN) (d2 : Int) : Option XN :=
 bif decide (d1.2.1 ≥ 0) then
  bif decide (d1.2.2.1 ≥ 0) then
   bif decide (d1.2.2.2.1 ≥ 0) then
   some (d1.1, IntKind.i64.wrap (d1.2.1 + d2), IntKind.i64.wrap (d1.2.2.1 + d2), IntKind.i64.wrap (d1.2.2.2.1 + d2), d1.2.2.2.2)
   else
   some (d1.1, IntKind.i64.wrap (d1.2.1 + d2), IntKind.i64.wrap (d1.2.2.1 + d2), d1.2.2.2)
  else
  bif decide (d1.2.2.2.1 ≥ 0) then
   some (d1.1, IntKind.i64.wrap (d1.2.1 + d2), d1.2.2.1, IntKind.i64.wrap (d1.2.2.2.1 + d2), d1.2.2.2.2)
  else
   some (d1.1, IntKind.i64.wrap (d1.2.1 + d2), d1.2.2)
 else
 bif decide (d1.2.2.1 ≥ 0) then
  bif decide (d1.2.2.2.1 ≥ 0) then
   some (d1.1, d1.2.1, IntKind.i64.wrap (d1.2.2.1 + d2), IntKind.i64.wrap (d1.2.2.2.1 + d2), d1.2.2.2.2)
  else
   some (d1.1, d1.2.1, IntKind.i64.wrap (d1.2.2.1 + d2), d1.2.2.2)
 else
 bif decide (d1.2.2.2.1 ≥ 0) then
  some (d1.1, d1.2.1, d1.2.2.1, IntKind.i64.wrap (d1.2.2.2.1 + d2), d1.2.2.2.2)
 else
  some d1
theorem c7S : EqF 51 fun a b => U2 (r51 a b) := fun _ _ _ => by kernel_rfl
theorem d5E {d1 d2 y} (h : r51 T.rf T.rb d1 d2 = some y) : c51 T.rf d1 d2 = some y := c7S.o h
def b22 (rf : T.RF) (rb : T.RB) (d1 : List XN) (d2 : List XN) (d3 : Int) (d4 : Int) : Option (List XN) :=
 bif decide (d4 < (((d2.length : Nat) : Int))) then
  bif inb d4 d2.length then
   (nth d2 d4.toNat).bind fun x1 =>
   (c51 rf x1 d3).bind fun y2 =>
   bif (Nat.ble (d1.length + 1) j4) && true then
   k22 rb (d1 ++ [y2]) d2 d3 (IntKind.i64.wrap (d4 + 1))
   else
   none
  else
   none
 else
  some d1
theorem c6V : EqB 22 fun a b => U4 (b22 a b) := fun _ _ _ => by kernel_rfl
theorem d0E {d1 d2 d3 d4 y} (h : b22 T.rf T.rb d1 d2 d3 d4 = some y) : k22 T.rb d1 d2 d3 d4 = some y := c6V.o h
def r50 (rf : T.RF) (rb : T.RB) (d1 : List XN) (d2 : List XN) : Option (List XN) :=
 (k22 rb d1 d2 (((d1.length : Nat) : Int)) 0).bind fun z1 =>
 some z1
theorem c7R : EqF 50 fun a b => U2 (r50 a b) := fun _ _ _ => by kernel_rfl
theorem d5D {d1 d2 y} (h : r50 T.rf T.rb d1 d2 = some y) : c50 T.rf d1 d2 = some y := c7R.o h
def r52 (rf : T.RF) (rb : T.RB) (d1 : XN) (d2 : List Int) : Option XN :=
 bif d1.1 == 28 then
  bif (((d2.length : Nat) : Int)) == 2 then
   bif inb 0 d2.length then
   (nth d2 0).bind fun x1 =>
   bif inb 1 d2.length then
   (nth d2 1).bind fun x2 =>
   some (d1.1, x2, x1, d1.2.2.2)
   else
   none
   else
   none
  else
  bif decide ((((d2.length : Nat) : Int)) > 0) then
   bif inb 0 d2.length then
   (nth d2 0).bind fun x3 =>
   bif decide ((((d2.length : Nat) : Int)) > 1) then
   bif inb 1 d2.length then
   (nth d2 1).bind fun x4 =>
   bif decide ((((d2.length : Nat) : Int)) > 2) then
   bif inb 2 d2.length then
   (nth d2 2).bind fun x5 =>
   some (d1.1, x3, x4, x5, d1.2.2.2.2)
   else
   none
   else
   some (d1.1, x3, x4, d1.2.2.2)
   else
   none
   else
   bif decide ((((d2.length : Nat) : Int)) > 2) then
   bif inb 2 d2.length then
   (nth d2 2).bind fun x6 =>
   some (d1.1, x3, d1.2.2.1, x6, d1.2.2.2.2)
   else
   none
   else
   some (d1.1, x3, d1.2.2)
   else
   none
  else
  bif decide ((((d2.length : Nat) : Int)) > 1) then
   bif inb 1 d2.length then
   (nth d2 1).bind fun x7 =>
   bif decide ((((d2.length : Nat) : Int)) > 2) then
   bif inb 2 d2.length then
   (nth d2 2).bind fun x8 =>
   some (d1.1, d1.2.1, x7, x8, d1.2.2.2.2)
   else
   none
   else
   some (d1.1, d1.2.1, x7, d1.2.2.2)
   else
   none
  else
  bif decide ((((d2.length : Nat) : Int)) > 2) then
   bif inb 2 d2.length then
   (nth d2 2).bind fun x9 =>
   some (d1.1, d1.2.1, d1.2.2.1, x9, d1.2.2.2.2)
   else
   none
  else
   some d1
 else
 bif decide ((((d2.length : Nat) : Int)) > 0) then
  bif inb 0 d2.length then
   (nth d2 0).bind fun x10 =>
   bif decide ((((d2.length : Nat) : Int)) > 1) then
   bif inb 1 d2.length then
   (nth d2 1).bind fun x11 =>
   bif decide ((((d2.length : Nat) : Int)) > 2) then
   bif inb 2 d2.length then
   (nth d2 2).bind fun x12 =>
   some (d1.1, x10, x11, x12, d1.2.2.2.2)
   else
   none
   else
   some (d1.1, x10, x11, d1.2.2.2)
   else
   none
   else
   bif decide ((((d2.length : Nat) : Int)) > 2) then
   bif inb 2 d2.length then
   (nth d2 2).bind fun x13 =>
   some (d1.1, x10, d1.2.2.1, x13, d1.2.2.2.2)
   else
   none
   else
   some (d1.1, x10, d1.2.2)
  else
   none
 else
 bif decide ((((d2.length : Nat) : Int)) > 1) then
  bif inb 1 d2.length then
   (nth d2 1).bind fun x14 =>
   bif decide ((((d2.length : Nat) : Int)) > 2) then
   bif inb 2 d2.length then
   (nth d2 2).bind fun x15 =>
   some (d1.1, d1.2.1, x14, x15, d1.2.2.2.2)
   else
   none
   else
   some (d1.1, d1.2.1, x14, d1.2.2.2)
  else
   none
 else
 bif decide ((((d2.length : Nat) : Int)) > 2) then
  bif inb 2 d2.length then
   (nth d2 2).bind fun x16 =>
   some (d1.1, d1.2.1, d1.2.2.1, x16, d1.2.2.2.2)
  else
   none
 else
  some d1
theorem c7T : EqF 52 fun a b => U2 (r52 a b) := fun _ _ _ => by kernel_rfl
theorem d5F {d1 d2 y} (h : r52 T.rf T.rb d1 d2 = some y) : c52 T.rf d1 d2 = some y := c7T.o h
def b23 (rf : T.RF) (rb : T.RB) (d1 : List XN) (d2 : List Int) (d3 : Int) (d4 : List (List XN)) (d5 : Int) (d6 : Int) : Option ((List XN) ⊕ (List XN × List Int × Int)) :=
 bif decide (d6 < (((d4.length : Nat) : Int))) then
  bif inb d6 d4.length then
   (nth d4 d6.toNat).bind fun x1 =>
   bif (((x1.length : Nat) : Int)) == 0 then
   some (.inl [])
   else
   bif inb d6 d4.length then
   (nth d4 d6.toNat).bind fun x2 =>
   (c50 rf d1 x2).bind fun y3 =>
   bif (Nat.ble (d2.length + 1) j4) && true then
   bif d3 == 27 then
   (c48 rf 28 0 ([] : List UInt8)).bind fun y4 =>
   bif (Nat.ble (y3.length + 1) j4) && true then
   k23 rb (y3 ++ [(y4.1, IntKind.i64.wrap ((((y3.length : Nat) : Int)) - 1), d5, y4.2.2.2)]) (d2 ++ [IntKind.i64.wrap ((((y3.length : Nat) : Int)) - 1)]) d3 d4 (((y3.length : Nat) : Int)) (IntKind.i64.wrap (d6 + 1))
   else
   none
   else
   k23 rb y3 (d2 ++ [IntKind.i64.wrap ((((y3.length : Nat) : Int)) - 1)]) d3 d4 d5 (IntKind.i64.wrap (d6 + 1))
   else
   none
   else
   none
  else
   none
 else
  some (.inr (d1, d2, d5))
theorem c6W : EqB 23 fun a b => U6 (b23 a b) := fun _ _ _ => by kernel_rfl
theorem d0G {d1 d2 d3 d4 d5 d6 y} (h : b23 T.rf T.rb d1 d2 d3 d4 d5 d6 = some y) : k23 T.rb d1 d2 d3 d4 d5 d6 = some y := c6W.o h
def r47 (rf : T.RF) (rb : T.RB) (d1 : Int) (d2 : Int) (d3 : List UInt8) (d4 : List (List XN)) : Option (List XN) :=
 (c48 rf d1 d2 d3).bind fun y1 =>
 (c49 rf y1).bind fun y2 =>
 bif d1 == 28 then
  some []
 else
 bif d1 != 27 then
  bif (((y2.length : Nat) : Int)) != (((d4.length : Nat) : Int)) then
   some []
  else
   (k23 rb [] [] d1 d4 (-1) 0).bind fun z3 =>
   match z3 with
   | .inl u4 =>
     some u4
   | .inr w5 =>
     bif d1 == 27 then
      bif (Nat.ble (w5.1.length + 1) j4) && true then
       some (w5.1 ++ [(y1.1, w5.2.2, y1.2.2)])
      else
       none
     else
      (c52 rf y1 w5.2.1).bind fun y6 =>
      bif (Nat.ble (w5.1.length + 1) j4) && true then
       some (w5.1 ++ [y6])
      else
       none
 else
  (k23 rb [] [] d1 d4 (-1) 0).bind fun z7 =>
  match z7 with
  | .inl u8 =>
    some u8
  | .inr w9 =>
    bif d1 == 27 then
     bif (Nat.ble (w9.1.length + 1) j4) && true then
      some (w9.1 ++ [(y1.1, w9.2.2, y1.2.2)])
     else
      none
    else
     (c52 rf y1 w9.2.1).bind fun y10 =>
     bif (Nat.ble (w9.1.length + 1) j4) && true then
      some (w9.1 ++ [y10])
     else
      none
theorem c7O : EqF 47 fun a b => U4 (r47 a b) := fun _ _ _ => by kernel_rfl
theorem d5A {d1 d2 d3 d4 y} (h : r47 T.rf T.rb d1 d2 d3 d4 = some y) : c47 T.rf d1 d2 d3 d4 = some y := c7O.o h
def r55 (rf : T.RF) (rb : T.RB) (d1 : List XK × Int × Int × Int × Int) (d2 : List UInt8) : Option ((List XK × Int × Int × Int × Int) × Bool) :=
 bif d1.2.2.2.1 != 0 then
  some (d1, false)
 else
 bif decide (d1.2.1 ≥ (((d1.1.length : Nat) : Int))) then
  some (d1, false)
 else
 bif inb d1.2.1 d1.1.length then
  (nth d1.1 d1.2.1.toNat).bind fun x1 =>
  bif x1.1 == 4 then
   some (d1, x1.2.1 == d2)
  else
  bif x1.1 == 3 then
   some (d1, x1.2.1 == d2)
  else
   some (d1, false)
 else
  none
theorem c7V : EqF 55 fun a b => U2 (r55 a b) := fun _ _ _ => by kernel_rfl
theorem d5H {d1 d2 y} (h : r55 T.rf T.rb d1 d2 = some y) : c55 T.rf d1 d2 = some y := c7V.o h
def r54 (rf : T.RF) (rb : T.RB) (d1 : List XK × Int × Int × Int × Int) (d2 : List UInt8) : Option ((List XK × Int × Int × Int × Int) × Bool) :=
 (c55 rf d1 d2).bind fun y1 =>
 bif !y1.2 then
  some (y1.1, false)
 else
  some ((y1.1.1, IntKind.i64.wrap (y1.1.2.1 + 1), y1.1.2.2), true)
theorem c7U : EqF 54 fun a b => U2 (r54 a b) := fun _ _ _ => by kernel_rfl
theorem d5G {d1 d2 y} (h : r54 T.rf T.rb d1 d2 = some y) : c54 T.rf d1 d2 = some y := c7U.o h
def r57 (rf : T.RF) (rb : T.RB) (d1 : List XK × Int × Int × Int × Int) (d2 : List UInt8) : Option (List XK × Int × Int × Int × Int) :=
 (c54 rf d1 d2).bind fun y1 =>
 bif !y1.2 then
  (c45 rf y1.1 5).bind fun y2 =>
  some y2.1
 else
  some y1.1
theorem c7W : EqF 57 fun a b => U2 (r57 a b) := fun _ _ _ => by kernel_rfl
theorem d5I {d1 d2 y} (h : r57 T.rf T.rb d1 d2 = some y) : c57 T.rf d1 d2 = some y := c7W.o h
def b25 (rf : T.RF) (rb : T.RB) (d1 : List XK × Int × Int × Int × Int) (d2 : List (List XN)) : Option (((List XK × Int × Int × Int × Int) × List (List XN)) ⊕ (List XK × Int × Int × Int × Int)) :=
 bif d1.2.2.2.1 == 0 then
  (c36 rf d1).bind fun y1 =>
  bif (Nat.ble (d2.length + 1) j4) && true then
   (c54 rf y1.1 ([41] : List UInt8)).bind fun y2 =>
   bif y2.2 then
   some (.inl (y2.1, d2 ++ [y1.2]))
   else
   (c57 rf y2.1 ([44] : List UInt8)).bind fun y3 =>
   k25 rb y3 (d2 ++ [y1.2])
  else
   none
 else
  some (.inr d1)
theorem d2C : EqB 25 fun a b => U2 (b25 a b) := fun _ _ _ => by kernel_rfl
def r56 (rf : T.RF) (rb : T.RB) (d1 : List XK × Int × Int × Int × Int) : Option ((List XK × Int × Int × Int × Int) × List (List XN)) :=
 (c54 rf d1 ([41] : List UInt8)).bind fun y1 =>
 bif y1.2 then
  some (y1.1, [])
 else
  (k25 rb y1.1 []).bind fun z2 =>
  match z2 with
  | .inl u3 =>
    some u3
  | .inr w4 =>
    some (w4, [])
theorem d3l : EqF 56 fun a b => r56 a b := fun _ _ _ => by kernel_rfl
def r53 (rf : T.RF) (rb : T.RB) (d1 : List XK × Int × Int × Int × Int) (d2 : List UInt8) : Option ((List XK × Int × Int × Int × Int) × List XN) :=
 (c54 rf (d1.1, IntKind.i64.wrap (d1.2.1 + 1), d1.2.2) ([40] : List UInt8)).bind fun y1 =>
 bif !y1.2 then
  (c47 rf 3 0 d2 []).bind fun y2 =>
  some (y1.1, y2)
 else
  (c56 rf y1.1).bind fun y3 =>
  bif y3.1.2.2.2.1 != 0 then
   some (y3.1, [])
  else
   (c47 rf 27 0 d2 y3.2).bind fun y4 =>
   some (y3.1, y4)
theorem d3k : EqF 53 fun a b => U2 (r53 a b) := fun _ _ _ => by kernel_rfl
def r58 (rf : T.RF) (rb : T.RB) (d1 : List UInt8) : Option Int :=
 bif d1 == ([110, 111, 116] : List UInt8) then
  some 4
 else
 bif d1 == ([45] : List UInt8) then
  some 5
 else
 bif d1 == ([112, 114, 101] : List UInt8) then
  some 21
 else
 bif d1 == ([111, 110, 99, 101] : List UInt8) then
  some 22
 else
 bif d1 == ([104, 105, 115, 116] : List UInt8) then
  some 23
 else
 bif d1 == ([112, 114, 101, 118] : List UInt8) then
  some 24
 else
 bif d1 == ([119, 105, 116, 104, 105, 110] : List UInt8) then
  some 25
 else
  some 0
theorem c7X : EqF 58 fun a b => r58 a b := fun _ _ _ => by kernel_rfl
theorem d5J {d1 y} (h : r58 T.rf T.rb d1 = some y) : c58 T.rf d1 = some y := c7X.o h
def r59 (rf : T.RF) (rb : T.RB) (d1 : List XK × Int × Int × Int × Int) : Option ((List XK × Int × Int × Int × Int) × List XN) :=
 bif decide ((IntKind.i64.wrap (d1.2.1 + 1)) ≥ (((d1.1.length : Nat) : Int))) then
  (c45 rf (d1.1, IntKind.i64.wrap (d1.2.1 + 1), d1.2.2) 5).bind fun y1 =>
  some y1
 else
 bif inb (IntKind.i64.wrap (d1.2.1 + 1)) d1.1.length then
  (nth d1.1 (IntKind.i64.wrap (d1.2.1 + 1)).toNat).bind fun x2 =>
  bif x2.1 != 2 then
   (c45 rf (d1.1, IntKind.i64.wrap (d1.2.1 + 1), d1.2.2) 5).bind fun y3 =>
   some y3
  else
  bif inb (IntKind.i64.wrap (d1.2.1 + 1)) d1.1.length then
   (nth d1.1 (IntKind.i64.wrap (d1.2.1 + 1)).toNat).bind fun x4 =>
   (c7 rf x4.2.1).bind fun y5 =>
   bif decide (y5 > 1000) then
   (c45 rf (d1.1, IntKind.i64.wrap (d1.2.1 + 1), d1.2.2) 5).bind fun y6 =>
   some y6
   else
   bif inb (IntKind.i64.wrap (d1.2.1 + 1)) d1.1.length then
   (nth d1.1 (IntKind.i64.wrap (d1.2.1 + 1)).toNat).bind fun x7 =>
   (c7 rf x7.2.1).bind fun y8 =>
   (c44 rf (d1.1, IntKind.i64.wrap ((IntKind.i64.wrap (d1.2.1 + 1)) + 1), d1.2.2)).bind fun y9 =>
   bif y9.1.2.2.2.1 != 0 then
   some (y9.1, [])
   else
   (c47 rf 25 y8 ([] : List UInt8) [y9.2]).bind fun y10 =>
   some (y9.1, y10)
   else
   none
  else
   none
 else
  none
theorem d3m : EqF 59 fun a b => r59 a b := fun _ _ _ => by kernel_rfl
def r60 (rf : T.RF) (rb : T.RB) (d1 : List XK × Int × Int × Int × Int) : Option ((List XK × Int × Int × Int × Int) × List XN) :=
 (c36 rf d1).bind fun y1 =>
 (c57 rf y1.1 ([116, 104, 101, 110] : List UInt8)).bind fun y2 =>
 (c36 rf y2).bind fun y3 =>
 (c57 rf y3.1 ([101, 108, 115, 101] : List UInt8)).bind fun y4 =>
 (c36 rf y4).bind fun y5 =>
 bif y5.1.2.2.2.1 != 0 then
  some (y5.1, [])
 else
  (c47 rf 26 0 ([] : List UInt8) [y1.2, y3.2, y5.2]).bind fun y6 =>
  some (y5.1, y6)
theorem d3n : EqF 60 fun a b => r60 a b := fun _ _ _ => by kernel_rfl
def r46 (rf : T.RF) (rb : T.RB) (d1 : List XK × Int × Int × Int × Int) (d2 : XK) : Option ((List XK × Int × Int × Int × Int) × List XN) :=
 bif d2.1 == 2 then
  (c7 rf d2.2.1).bind fun y1 =>
  (c47 rf 1 y1 ([] : List UInt8) []).bind fun y2 =>
  some ((d1.1, IntKind.i64.wrap (d1.2.1 + 1), d1.2.2), y2)
 else
 bif d2.1 == 1 then
  (c53 rf d1 d2.2.1).bind fun y3 =>
  some y3
 else
 bif d2.1 != 4 then
  bif d2.1 != 3 then
   (c45 rf d1 5).bind fun y4 =>
   some y4
  else
   (c58 rf d2.2.1).bind fun y5 =>
   bif y5 == 25 then
   (c59 rf d1).bind fun y6 =>
   some y6
   else
   bif decide (y5 > 0) then
   (c44 rf (d1.1, IntKind.i64.wrap (d1.2.1 + 1), d1.2.2)).bind fun y7 =>
   bif y7.1.2.2.2.1 != 0 then
   some (y7.1, [])
   else
   (c47 rf y5 0 ([] : List UInt8) [y7.2]).bind fun y8 =>
   some (y7.1, y8)
   else
   (c54 rf d1 ([116, 114, 117, 101] : List UInt8)).bind fun y9 =>
   bif y9.2 then
   (c47 rf 2 1 ([] : List UInt8) []).bind fun y10 =>
   some (y9.1, y10)
   else
   (c54 rf y9.1 ([102, 97, 108, 115, 101] : List UInt8)).bind fun y11 =>
   bif y11.2 then
   (c47 rf 2 0 ([] : List UInt8) []).bind fun y12 =>
   some (y11.1, y12)
   else
   (c54 rf y11.1 ([40] : List UInt8)).bind fun y13 =>
   bif y13.2 then
   (c36 rf y13.1).bind fun y14 =>
   (c57 rf y14.1 ([41] : List UInt8)).bind fun y15 =>
   some (y15, y14.2)
   else
   (c54 rf y13.1 ([105, 102] : List UInt8)).bind fun y16 =>
   bif y16.2 then
   (c60 rf y16.1).bind fun y17 =>
   some y17
   else
   (c45 rf y16.1 5).bind fun y18 =>
   some y18
 else
  (c58 rf d2.2.1).bind fun y19 =>
  bif y19 == 25 then
   (c59 rf d1).bind fun y20 =>
   some y20
  else
  bif decide (y19 > 0) then
   (c44 rf (d1.1, IntKind.i64.wrap (d1.2.1 + 1), d1.2.2)).bind fun y21 =>
   bif y21.1.2.2.2.1 != 0 then
   some (y21.1, [])
   else
   (c47 rf y19 0 ([] : List UInt8) [y21.2]).bind fun y22 =>
   some (y21.1, y22)
  else
   (c54 rf d1 ([116, 114, 117, 101] : List UInt8)).bind fun y23 =>
   bif y23.2 then
   (c47 rf 2 1 ([] : List UInt8) []).bind fun y24 =>
   some (y23.1, y24)
   else
   (c54 rf y23.1 ([102, 97, 108, 115, 101] : List UInt8)).bind fun y25 =>
   bif y25.2 then
   (c47 rf 2 0 ([] : List UInt8) []).bind fun y26 =>
   some (y25.1, y26)
   else
   (c54 rf y25.1 ([40] : List UInt8)).bind fun y27 =>
   bif y27.2 then
   (c36 rf y27.1).bind fun y28 =>
   (c57 rf y28.1 ([41] : List UInt8)).bind fun y29 =>
   some (y29, y28.2)
   else
   (c54 rf y27.1 ([105, 102] : List UInt8)).bind fun y30 =>
   bif y30.2 then
   (c60 rf y30.1).bind fun y31 =>
   some y31
   else
   (c45 rf y30.1 5).bind fun y32 =>
   some y32
theorem c7N : EqF 46 fun a b => U2 (r46 a b) := fun _ _ _ => by kernel_rfl
theorem d5z {d1 d2 y} (h : r46 T.rf T.rb d1 d2 = some y) : c46 T.rf d1 d2 = some y := c7N.o h
def r44 (rf : T.RF) (rb : T.RB) (d1 : List XK × Int × Int × Int × Int) : Option ((List XK × Int × Int × Int × Int) × List XN) :=
 bif d1.2.2.2.1 != 0 then
  some (d1, [])
 else
 bif decide (d1.2.2.1 ≥ 200) then
  (c45 rf d1 6).bind fun y1 =>
  some y1
 else
 bif decide (d1.2.1 ≥ (((d1.1.length : Nat) : Int))) then
  (c45 rf d1 5).bind fun y2 =>
  some y2
 else
 bif inb d1.2.1 d1.1.length then
  (nth d1.1 d1.2.1.toNat).bind fun x3 =>
  (c46 rf (d1.1, d1.2.1, IntKind.i64.wrap (d1.2.2.1 + 1), d1.2.2.2) x3).bind fun y4 =>
  some ((y4.1.1, y4.1.2.1, IntKind.i64.wrap (y4.1.2.2.1 - 1), y4.1.2.2.2), y4.2)
 else
  none
theorem c7M : EqF 44 fun a b => r44 a b := fun _ _ _ => by kernel_rfl
theorem d5y {d1 y} (h : r44 T.rf T.rb d1 = some y) : c44 T.rf d1 = some y := c7M.o h
def r61 (rf : T.RF) (rb : T.RB) (d1 : List XK × Int × Int × Int × Int) (d2 : Int) (d3 : List XN) (d4 : List XN) : Option ((List XK × Int × Int × Int × Int) × List XN) :=
 bif d1.2.2.2.1 != 0 then
  some (d1, [])
 else
  (c47 rf d2 0 ([] : List UInt8) [d3, d4]).bind fun y1 =>
  some (d1, y1)
theorem d3o : EqF 61 fun a b => U4 (r61 a b) := fun _ _ _ => by kernel_rfl
def b27 (rf : T.RF) (rb : T.RB) (d1 : List XK × Int × Int × Int × Int) (d2 : List XN) : Option ((List XK × Int × Int × Int × Int) × List XN) :=
 (c55 rf d1 ([42] : List UInt8)).bind fun y1 =>
 bif y1.2 then
  (c55 rf y1.1 ([100, 105, 118] : List UInt8)).bind fun y2 =>
  bif y2.2 then
   (c55 rf y2.1 ([109, 111, 100] : List UInt8)).bind fun y3 =>
   bif y3.2 then
   (c44 rf (y3.1.1, IntKind.i64.wrap (y3.1.2.1 + 1), y3.1.2.2)).bind fun y4 =>
   (c61 rf y4.1 18 d2 y4.2).bind fun y5 =>
   k27 rb y5.1 y5.2
   else
   (c44 rf (y3.1.1, IntKind.i64.wrap (y3.1.2.1 + 1), y3.1.2.2)).bind fun y6 =>
   (c61 rf y6.1 17 d2 y6.2).bind fun y7 =>
   k27 rb y7.1 y7.2
  else
   (c55 rf y2.1 ([109, 111, 100] : List UInt8)).bind fun y8 =>
   bif y8.2 then
   (c44 rf (y8.1.1, IntKind.i64.wrap (y8.1.2.1 + 1), y8.1.2.2)).bind fun y9 =>
   (c61 rf y9.1 18 d2 y9.2).bind fun y10 =>
   k27 rb y10.1 y10.2
   else
   (c44 rf (y8.1.1, IntKind.i64.wrap (y8.1.2.1 + 1), y8.1.2.2)).bind fun y11 =>
   (c61 rf y11.1 16 d2 y11.2).bind fun y12 =>
   k27 rb y12.1 y12.2
 else
  (c55 rf y1.1 ([100, 105, 118] : List UInt8)).bind fun y13 =>
  bif y13.2 then
   (c55 rf y13.1 ([100, 105, 118] : List UInt8)).bind fun y14 =>
   bif y14.2 then
   (c55 rf y14.1 ([109, 111, 100] : List UInt8)).bind fun y15 =>
   bif y15.2 then
   (c44 rf (y15.1.1, IntKind.i64.wrap (y15.1.2.1 + 1), y15.1.2.2)).bind fun y16 =>
   (c61 rf y16.1 18 d2 y16.2).bind fun y17 =>
   k27 rb y17.1 y17.2
   else
   (c44 rf (y15.1.1, IntKind.i64.wrap (y15.1.2.1 + 1), y15.1.2.2)).bind fun y18 =>
   (c61 rf y18.1 17 d2 y18.2).bind fun y19 =>
   k27 rb y19.1 y19.2
   else
   (c55 rf y14.1 ([109, 111, 100] : List UInt8)).bind fun y20 =>
   bif y20.2 then
   (c44 rf (y20.1.1, IntKind.i64.wrap (y20.1.2.1 + 1), y20.1.2.2)).bind fun y21 =>
   (c61 rf y21.1 18 d2 y21.2).bind fun y22 =>
   k27 rb y22.1 y22.2
   else
   (c44 rf (y20.1.1, IntKind.i64.wrap (y20.1.2.1 + 1), y20.1.2.2)).bind fun y23 =>
   (c61 rf y23.1 16 d2 y23.2).bind fun y24 =>
   k27 rb y24.1 y24.2
  else
   (c55 rf y13.1 ([109, 111, 100] : List UInt8)).bind fun y25 =>
   bif y25.2 then
   (c55 rf y25.1 ([100, 105, 118] : List UInt8)).bind fun y26 =>
   bif y26.2 then
   (c55 rf y26.1 ([109, 111, 100] : List UInt8)).bind fun y27 =>
   bif y27.2 then
   (c44 rf (y27.1.1, IntKind.i64.wrap (y27.1.2.1 + 1), y27.1.2.2)).bind fun y28 =>
   (c61 rf y28.1 18 d2 y28.2).bind fun y29 =>
   k27 rb y29.1 y29.2
   else
   (c44 rf (y27.1.1, IntKind.i64.wrap (y27.1.2.1 + 1), y27.1.2.2)).bind fun y30 =>
   (c61 rf y30.1 17 d2 y30.2).bind fun y31 =>
   k27 rb y31.1 y31.2
   else
   (c55 rf y26.1 ([109, 111, 100] : List UInt8)).bind fun y32 =>
   bif y32.2 then
   (c44 rf (y32.1.1, IntKind.i64.wrap (y32.1.2.1 + 1), y32.1.2.2)).bind fun y33 =>
   (c61 rf y33.1 18 d2 y33.2).bind fun y34 =>
   k27 rb y34.1 y34.2
   else
   (c44 rf (y32.1.1, IntKind.i64.wrap (y32.1.2.1 + 1), y32.1.2.2)).bind fun y35 =>
   (c61 rf y35.1 16 d2 y35.2).bind fun y36 =>
   k27 rb y36.1 y36.2
   else
   some (y25.1, d2)
theorem c6X : EqB 27 fun a b => U2 (b27 a b) := fun _ _ _ => by kernel_rfl
theorem d5g {d1 d2 y} (h : b27 T.rf T.rb d1 d2 = some y) : k27 T.rb d1 d2 = some y := c6X.o h
def r43 (rf : T.RF) (rb : T.RB) (d1 : List XK × Int × Int × Int × Int) : Option ((List XK × Int × Int × Int × Int) × List XN) :=
 (c44 rf d1).bind fun y1 =>
 (k27 rb y1.1 y1.2).bind fun z2 =>
 some z2
theorem c7L : EqF 43 fun a b => r43 a b := fun _ _ _ => by kernel_rfl
theorem d5x {d1 y} (h : r43 T.rf T.rb d1 = some y) : c43 T.rf d1 = some y := c7L.o h
def b29 (rf : T.RF) (rb : T.RB) (d1 : List XK × Int × Int × Int × Int) (d2 : List XN) : Option ((List XK × Int × Int × Int × Int) × List XN) :=
 (c55 rf d1 ([43] : List UInt8)).bind fun y1 =>
 bif y1.2 then
  (c55 rf y1.1 ([45] : List UInt8)).bind fun y2 =>
  bif y2.2 then
   (c43 rf (y2.1.1, IntKind.i64.wrap (y2.1.2.1 + 1), y2.1.2.2)).bind fun y3 =>
   (c61 rf y3.1 15 d2 y3.2).bind fun y4 =>
   k29 rb y4.1 y4.2
  else
   (c43 rf (y2.1.1, IntKind.i64.wrap (y2.1.2.1 + 1), y2.1.2.2)).bind fun y5 =>
   (c61 rf y5.1 14 d2 y5.2).bind fun y6 =>
   k29 rb y6.1 y6.2
 else
  (c55 rf y1.1 ([45] : List UInt8)).bind fun y7 =>
  bif y7.2 then
   (c55 rf y7.1 ([45] : List UInt8)).bind fun y8 =>
   bif y8.2 then
   (c43 rf (y8.1.1, IntKind.i64.wrap (y8.1.2.1 + 1), y8.1.2.2)).bind fun y9 =>
   (c61 rf y9.1 15 d2 y9.2).bind fun y10 =>
   k29 rb y10.1 y10.2
   else
   (c43 rf (y8.1.1, IntKind.i64.wrap (y8.1.2.1 + 1), y8.1.2.2)).bind fun y11 =>
   (c61 rf y11.1 14 d2 y11.2).bind fun y12 =>
   k29 rb y12.1 y12.2
  else
   some (y7.1, d2)
theorem c6Y : EqB 29 fun a b => U2 (b29 a b) := fun _ _ _ => by kernel_rfl
theorem d5h {d1 d2 y} (h : b29 T.rf T.rb d1 d2 = some y) : k29 T.rb d1 d2 = some y := c6Y.o h
def r42 (rf : T.RF) (rb : T.RB) (d1 : List XK × Int × Int × Int × Int) : Option ((List XK × Int × Int × Int × Int) × List XN) :=
 (c43 rf d1).bind fun y1 =>
 (k29 rb y1.1 y1.2).bind fun z2 =>
 some z2
theorem c7K : EqF 42 fun a b => r42 a b := fun _ _ _ => by kernel_rfl
theorem d5w {d1 y} (h : r42 T.rf T.rb d1 = some y) : c42 T.rf d1 = some y := c7K.o h
def r41 (rf : T.RF) (rb : T.RB) (d1 : List XK × Int × Int × Int × Int) : Option ((List XK × Int × Int × Int × Int) × List XN) :=
 (c42 rf d1).bind fun y1 =>
 (c54 rf y1.1 ([61] : List UInt8)).bind fun y2 =>
 bif y2.2 then
  (c42 rf y2.1).bind fun y3 =>
  (c61 rf y3.1 10 y1.2 y3.2).bind fun y4 =>
  some y4
 else
  (c54 rf y2.1 ([60, 62] : List UInt8)).bind fun y5 =>
  bif y5.2 then
   (c42 rf y5.1).bind fun y6 =>
   (c61 rf y6.1 11 y1.2 y6.2).bind fun y7 =>
   some y7
  else
   (c54 rf y5.1 ([60] : List UInt8)).bind fun y8 =>
   bif y8.2 then
   (c42 rf y8.1).bind fun y9 =>
   (c61 rf y9.1 12 y1.2 y9.2).bind fun y10 =>
   some y10
   else
   (c54 rf y8.1 ([60, 61] : List UInt8)).bind fun y11 =>
   bif y11.2 then
   (c42 rf y11.1).bind fun y12 =>
   (c61 rf y12.1 13 y1.2 y12.2).bind fun y13 =>
   some y13
   else
   (c54 rf y11.1 ([62] : List UInt8)).bind fun y14 =>
   bif y14.2 then
   (c42 rf y14.1).bind fun y15 =>
   (c61 rf y15.1 12 y15.2 y1.2).bind fun y16 =>
   some y16
   else
   (c54 rf y14.1 ([62, 61] : List UInt8)).bind fun y17 =>
   bif y17.2 then
   (c42 rf y17.1).bind fun y18 =>
   (c61 rf y18.1 13 y18.2 y1.2).bind fun y19 =>
   some y19
   else
   some (y17.1, y1.2)
theorem c7J : EqF 41 fun a b => r41 a b := fun _ _ _ => by kernel_rfl
theorem d5v {d1 y} (h : r41 T.rf T.rb d1 = some y) : c41 T.rf d1 = some y := c7J.o h
def b31 (rf : T.RF) (rb : T.RB) (d1 : List XK × Int × Int × Int × Int) (d2 : List XN) : Option ((List XK × Int × Int × Int × Int) × List XN) :=
 (c54 rf d1 ([97, 110, 100] : List UInt8)).bind fun y1 =>
 bif y1.2 then
  (c41 rf y1.1).bind fun y2 =>
  (c61 rf y2.1 6 d2 y2.2).bind fun y3 =>
  k31 rb y3.1 y3.2
 else
  some (y1.1, d2)
theorem c6Z : EqB 31 fun a b => U2 (b31 a b) := fun _ _ _ => by kernel_rfl
theorem d5i {d1 d2 y} (h : b31 T.rf T.rb d1 d2 = some y) : k31 T.rb d1 d2 = some y := c6Z.o h
def r40 (rf : T.RF) (rb : T.RB) (d1 : List XK × Int × Int × Int × Int) : Option ((List XK × Int × Int × Int × Int) × List XN) :=
 (c41 rf d1).bind fun y1 =>
 (k31 rb y1.1 y1.2).bind fun z2 =>
 some z2
theorem c7I : EqF 40 fun a b => r40 a b := fun _ _ _ => by kernel_rfl
theorem d5u {d1 y} (h : r40 T.rf T.rb d1 = some y) : c40 T.rf d1 = some y := c7I.o h
end
end Go.Proofs.YtlobhcgbmpcdlaaGreatDoor.R
