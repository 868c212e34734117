import Derived.Test.YtlobhcgbmpcdlaaGreatDoorBmF
import Derived.Test.YtlobhcgbmpcdlaaGreatDoorProg
import Derived.KernelRfl
namespace Go.Proofs.YtlobhcgbmpcdlaaGreatDoor.R
noncomputable section
open Go Go.Bm Go.Proofs
set_option linter.unusedVariables false
set_option linter.unusedSimpArgs false
set_option maxRecDepth 100000
abbrev XPm : Type := List UInt8 × Int
abbrev D5 : CT := (.prod .str (.int .i64))
abbrev XN : Type := Int × Int × Int × Int × Int × List UInt8
abbrev XNc : CT := (.prod (.int .i64) (.prod (.int .i64) (.prod (.int .i64) (.prod (.int .i64) (.prod (.int .i64) .str)))))
abbrev XK : Type := Int × XPm
abbrev XKc : CT := (.prod (.int .i64) D5)
abbrev XEq : Type := List UInt8 × List XN
abbrev V5 : CT := (.prod .str (.list XNc))
abbrev XIt : Type := Int × List UInt8 × Int × List XN × List XN × List (List XN)
abbrev L1 : CT := (.prod (.int .i64) (.prod .str (.prod (.int .i64) (.prod (.list XNc) (.prod (.list XNc) (.list (.list XNc)))))))
abbrev XUn : Type := Bool × List UInt8 × List XPm × List UInt8 × Int × List XPm × List XEq × List XIt
abbrev B4 : CT := (.prod .bool (.prod .str (.prod (.list D5) (.prod .str (.prod (.int .i64) (.prod (.list D5) (.prod (.list V5) (.list L1))))))))
abbrev XPg : Type := List XUn × List UInt8 × List UInt8
abbrev S7 : CT := (.prod (.list B4) (.prod .str .str))
abbrev XR : Type := List XK × Int × Int × Int
abbrev XRc : CT := (.prod (.list XKc) (.prod (.int .i64) (.prod (.int .i64) (.int .i64))))
abbrev XS : Type := List XK × Int × Int × Int × Int
abbrev XSc : CT := (.prod (.list XKc) (.prod (.int .i64) (.prod (.int .i64) (.prod (.int .i64) (.int .i64)))))
def c6Y : OrdT := (.only 35 .done)
def c6Z : OrdT := (.take 34 c6Y)
def c7a : OrdT := (.take 33 c6Z)
def c7b : OrdT := (.only 32 c7a)
def c7c : OrdT := (.take 31 c7b)
def c7d : OrdT := (.take 30 c7c)
def c7e : OrdT := (.only 29 c7d)
def c7f : OrdT := (.take 28 c7e)
def c7g : OrdT := (.take 27 c7f)
def c7h : OrdT := (.only 26 c7g)
def c7i : OrdT := (.take 25 c7h)
def c7j : OrdT := (.take 24 c7i)
def c2n : OrdT := (.only 23 c7j)
def a9F : OrdT := (.only 18 c2n)
def Y5 : OrdT := (.only 13 a9F)
def b4T : OrdT := (.alt 18 (.only 22 c2n) (.only 22 a9F))
def a1v : OrdT := (.alt 13 (.only 17 a9F) (.only 17 Y5))
def c7k : OrdT := (.take 25 (.only 26 .done))
def c7l : OrdT := (.only 23 (.take 24 c7k))
def c7m : OrdT := (.take 21 (.take 22 c7l))
def c7n : OrdT := (.take 19 (.only 20 c7m))
def Y6 : OrdT := (.only 17 (.take 18 c7n))
def a1w : OrdT := (.alt 13 b4T (.only 22 Y5))
def a5Z : OrdT := (.take 14 (.take 15 (.only 16 .done)))
def c2o : OrdT := (.take 11 (.take 12 (.take 13 (.only 14 .done))))
def b4U : OrdT := (.take 5 (.take 6 (.take 7 (.take 8 (.take 9 (.only 10 (.only 11 .done)))))))
def b7U : OrdT := (.take 4 (.take 6 (.take 7 (.take 8 (.alt 5 (.only 9 (.only 10 c2o)) (.only 9 (.only 5 (.only 10 c2o))))))))
def I8 : OrdT := (.only 8 Y5)
def c2p : OrdT := (.only 1 (.take 2 (.take 3 (.take 4 (.take 5 (.take 6 (.take 8 (.take 9 (.take 10 (.alt 7 (.only 11 (.take 12 (.take 13 (.take 14 .done)))) (.only 11 (.take 12 (.only 7 (.take 13 (.take 14 .done)))))))))))))))
def c2q : OrdT := (.take 20 (.take 21 (.alt 18 (.only 22 (.take 23 (.take 24 (.take 25 (.take 26 (.take 27 (.take 28 .done))))))) (.only 22 (.only 18 (.take 23 (.take 24 (.take 25 (.take 26 (.take 27 (.take 28 .done)))))))))))
def b7b : Tabs := {
 tabL := [(3, .leaf (.int .i64 0)),
 (4, .leaf (.bool false)),
 (5, .leaf (.int .u8 0)),
 (9, .leaf (.str [])),
 (21, .leaf (.int .i32 0)),
 (22, .slice B4 42),
 (24, .struct [(0, 1, false), (1, 1, false), (2, 1, false)] [.nils, .str [], .str []]),
 (30, .leaf (.int .i64 0)),
 (32, .struct [(0, 1, false), (1, 1, false)] [.int .i64 0, .int .i64 0]),
 (36, .slice D5 38),
 (38, .struct [(0, 1, false), (1, 1, false)] [.str [], .int .i64 0]),
 (39, .slice V5 46),
 (40, .slice L1 49),
 (42, .struct [(0, 1, false), (1, 1, false), (2, 1, false), (3, 2, true), (5, 1, false), (6, 1, false), (7, 1, false)] [.bool false, .str [], .nils, .str [], .int .i64 0, .nils, .nils, .nils]),
 (44, .slice XNc 135),
 (46, .struct [(0, 1, false), (1, 1, false)] [.str [], .nils]),
 (47, .slice (.list XNc) 44),
 (49, .struct [(0, 1, false), (1, 1, false), (2, 1, false), (3, 1, false), (4, 1, false), (5, 1, false)] [.int .i64 0, .str [], .int .i64 0, .nils, .nils, .nils]),
 (51, .slice XKc 88),
 (53, .struct [(0, 1, false)] [.nils]),
 (59, .leaf (.nilf)),
 (74, .struct [(0, 1, false), (1, 1, false), (2, 2, true)] [.nils, .int .i64 0, .int .i64 0, .int .i64 0]),
 (86, .slice .str 9),
 (88, .struct [(0, 1, false), (1, 1, false), (2, 1, false)] [.int .i64 0, .str [], .int .i64 0]),
 (105, .leaf (.nilf)),
 (107, .leaf (.nilf)),
 (109, .leaf (.nilf)),
 (112, .leaf (.nilf)),
 (135, .struct [(0, 1, false), (1, 1, false), (2, 1, false), (3, 1, false), (4, 1, false), (5, 1, false)] [.int .i64 0, .int .i64 0, .int .i64 0, .int .i64 0, .int .i64 0, .str []]),
 (144, .struct [(0, 1, false), (1, 1, false)] [.nils, .nils]),
 (151, .leaf (.int .u64 0)),
 (158, .slice (.int .i64) 3),
 (162, .slice .bool 4),
 (170, .struct [(0, 1, false), (1, 1, false)] [.str [], .int .i64 0]),
 (178, .leaf (.nilp)),
 (179, .slice .unit 178),
 (183, .struct [(0, 1, false), (1, 1, false), (2, 1, false), (3, 2, true)] [.nils, .int .i64 0, .int .i64 0, .int .i64 0, .int .i64 0]),
 (184, .arr D5 28 true [.str [], .int .i64 0, .str [], .int .i64 0, .str [], .int .i64 0, .str [], .int .i64 0, .str [], .int .i64 0, .str [], .int .i64 0, .str [], .int .i64 0, .str [], .int .i64 0, .str [], .int .i64 0, .str [], .int .i64 0, .str [], .int .i64 0, .str [], .int .i64 0, .str [], .int .i64 0, .str [], .int .i64 0, .str [], .int .i64 0, .str [], .int .i64 0, .str [], .int .i64 0, .str [], .int .i64 0, .str [], .int .i64 0, .str [], .int .i64 0, .str [], .int .i64 0, .str [], .int .i64 0, .str [], .int .i64 0, .str [], .int .i64 0, .str [], .int .i64 0, .str [], .int .i64 0, .str [], .int .i64 0, .str [], .int .i64 0])]
 eqtL := [38, 135]
 keysL := [(4, [0]), (5, [155]), (6, [156]), (7, [157]), (8, [158]), (9, [1]), (10, [2]), (11, [66]), (13, [67]), (15, [150]), (16, [132]), (17, [141]), (18, [3]), (19, [112]), (20, [113]), (21, [130]), (23, [68]), (24, [76]), (25, [80]), (26, [12]), (28, [151]), (29, [133]), (30, [134]), (31, [135]), (32, [136]), (33, [137]), (34, [140]), (35, [142]), (36, [4]), (37, [15, 22]), (38, [17, 29]), (39, [20]), (40, [28]), (41, [24]), (42, [21]), (43, [16, 23]), (44, [18, 26]), (45, [114]), (46, [117]), (47, [115]), (48, [116]), (49, [118]), (57, [69]), (59, [70]), (60, [71]), (61, [77]), (62, [79]), (63, [81]), (64, [85]), (65, [86]), (66, [90]), (67, [103]), (68, [107]), (69, [8]), (70, [10]), (71, [6]), (76, [152]), (77, [153]), (78, [154]), (79, [138]), (80, [143]), (81, [5]), (82, [27]), (83, [31]), (84, [30]), (85, [64]), (86, [65]), (87, [25]), (88, [19]), (89, [131]), (90, [119]), (96, [72]), (97, [78]), (98, [82]), (99, [84]), (100, [87]), (101, [89]), (102, [91]), (103, [104]), (104, [106]), (105, [108]), (106, [11]), (107, [145]), (108, [92]), (109, [139]), (110, [144]), (111, [7]), (112, [9]), (113, [13]), (114, [32]), (115, [33]), (116, [34]), (117, [120]), (125, [73]), (126, [75]), (127, [83]), (128, [88]), (129, [102]), (130, [100]), (131, [105]), (132, [109]), (133, [111]), (134, [146]), (135, [147]), (136, [49]), (137, [148]), (138, [62]), (139, [93]), (140, [94]), (141, [96]), (142, [98]), (143, [95]), (144, [149]), (145, [14]), (146, [63]), (147, [35]), (148, [121]), (149, [124]), (150, [123]), (151, [125]), (152, [127]), (153, [128]), (154, [74]), (155, [101]), (156, [110]), (157, [97]), (158, [99]), (159, [52]), (160, [36]), (161, [122]), (163, [126]), (164, [129]), (165, [37]), (166, [54]), (167, [61]), (169, [38]), (170, [55]), (171, [47]), (176, [39]), (177, [48]), (178, [50]), (184, [40]), (185, [51]), (188, [41]), (189, [42]), (190, [43]), (191, [44]), (192, [45]), (193, [46]), (194, [53]), (195, [58]), (196, [59]), (197, [57]), (198, [60]), (199, [56])]
 a7A := [69, 123, 130]
 gp := c1u Tryz.prog 0 1
 gvL := [(0, ⟨(.list .str), B3⟩)]
 kinL := [⟨[], [.agg [.pl S7]]⟩,
 ⟨[], [.agg [.pl S7]]⟩,
 ⟨[], []⟩,
 ⟨[], [.one (.pl .str)]⟩,
 ⟨[], [.one (.pl .str)]⟩,
 ⟨[], [.one (.pl .str), .one (.pl (.int .i64))]⟩,
 ⟨[], [.one (.pl (.int .u8))]⟩,
 ⟨[], [.one (.pl .str)]⟩,
 ⟨[], [.one (.pl (.int .u8))]⟩,
 ⟨[], [.one (.pl .str), .one (.pl (.int .i64))]⟩,
 ⟨[], [.one (.pl .str)]⟩,
 ⟨[], []⟩,
 ⟨[], [.one (.pl .str)]⟩,
 ⟨[], [.one (.pl .str)]⟩,
 ⟨[], []⟩,
 ⟨[(true, .box [.sl 1, .pl (.int .i64), .pl (.int .i64), .pl (.int .i64)]), (true, .arr XKc)], [.one (.ptr 0 0), .one (.pl .str)]⟩,
 ⟨[(true, .box [.sl 1, .pl (.int .i64), .pl (.int .i64), .pl (.int .i64)]), (true, .arr XKc)], [.one (.ptr 0 0)]⟩,
 ⟨[(true, .box [.sl 1, .pl (.int .i64), .pl (.int .i64), .pl (.int .i64)]), (true, .arr XKc)], [.one (.ptr 0 0), .one (.pl (.int .i64))]⟩,
 ⟨[(true, .box [.sl 1, .pl (.int .i64), .pl (.int .i64), .pl (.int .i64)]), (true, .arr XKc)], [.one (.ptr 0 0), .one (.pl (.int .i64))]⟩,
 ⟨[], [.one (.pl (.list XKc)), .one (.pl (.int .i64))]⟩,
 ⟨[(true, .box [.pl XRc])], [.one (.ptr 0 0)]⟩,
 ⟨[(true, .box [.pl XRc])], [.one (.ptr 0 0), .one (.pl .str)]⟩,
 ⟨[(true, .box [.pl XRc])], [.one (.ptr 0 0), .one (.pl .str)]⟩,
 ⟨[(true, .box [.pl XRc])], [.one (.ptr 0 0)]⟩,
 ⟨[(true, .box [.pl XRc])], [.one (.ptr 0 0)]⟩,
 ⟨[(true, .box [.pl XRc])], [.one (.ptr 0 0)]⟩,
 ⟨[(true, .box [.pl XRc])], [.one (.ptr 0 0), .one (.pl (.int .i64))]⟩,
 ⟨[(true, .box [.pl XRc])], [.one (.ptr 0 0)]⟩,
 ⟨[(true, .box [.pl XRc])], [.one (.ptr 0 0), .one (.pl .str)]⟩,
 ⟨[(true, .box [.pl XRc])], [.one (.ptr 0 0), .one (.pl (.int .i64))]⟩,
 ⟨[(true, .box [.pl XRc])], [.one (.ptr 0 0)]⟩,
 ⟨[(true, .box [.pl XRc])], [.one (.ptr 0 0)]⟩,
 ⟨[(true, .box [.pl XRc])], [.one (.ptr 0 0)]⟩,
 ⟨[(true, .box [.pl XRc])], [.one (.ptr 0 0)]⟩,
 ⟨[(true, .box [.pl XRc])], [.one (.ptr 0 0)]⟩,
 ⟨[], [.one (.pl (.list XKc)), .one (.pl (.int .i64))]⟩,
 ⟨[(true, .box [.pl XSc])], [.one (.ptr 0 0)]⟩,
 ⟨[(true, .box [.pl XSc])], [.one (.ptr 0 0)]⟩,
 ⟨[(true, .box [.pl XSc])], [.one (.ptr 0 0)]⟩,
 ⟨[(true, .box [.pl XSc])], [.one (.ptr 0 0)]⟩,
 ⟨[(true, .box [.pl XSc])], [.one (.ptr 0 0)]⟩,
 ⟨[(true, .box [.pl XSc])], [.one (.ptr 0 0)]⟩,
 ⟨[(true, .box [.pl XSc])], [.one (.ptr 0 0)]⟩,
 ⟨[(true, .box [.pl XSc])], [.one (.ptr 0 0)]⟩,
 ⟨[(true, .box [.pl XSc])], [.one (.ptr 0 0)]⟩,
 ⟨[(true, .box [.pl XSc])], [.one (.ptr 0 0), .one (.pl (.int .i64))]⟩,
 ⟨[(true, .box [.pl XSc])], [.one (.ptr 0 0), .agg [.pl XKc]]⟩,
 ⟨[], [.one (.pl (.int .i64)), .one (.pl (.int .i64)), .one (.pl .str), .one (.pl (.list (.list XNc)))]⟩,
 ⟨[], [.one (.pl (.int .i64)), .one (.pl (.int .i64)), .one (.pl .str)]⟩,
 ⟨[], [.agg [.pl XNc]]⟩,
 ⟨[(true, .arr XNc)], [.one (.sl 0), .one (.pl (.list XNc))]⟩,
 ⟨[], [.agg [.pl XNc], .one (.pl (.int .i64))]⟩,
 ⟨[], [.agg [.pl XNc], .one (.pl (.list (.int .i64)))]⟩,
 ⟨[(true, .box [.pl XSc])], [.one (.ptr 0 0), .one (.pl .str)]⟩,
 ⟨[(true, .box [.pl XSc])], [.one (.ptr 0 0), .one (.pl .str)]⟩,
 ⟨[(true, .box [.pl XSc])], [.one (.ptr 0 0), .one (.pl .str)]⟩,
 ⟨[(true, .box [.pl XSc])], [.one (.ptr 0 0)]⟩,
 ⟨[(true, .box [.pl XSc])], [.one (.ptr 0 0), .one (.pl .str)]⟩,
 ⟨[], [.one (.pl .str)]⟩,
 ⟨[(true, .box [.pl XSc])], [.one (.ptr 0 0)]⟩,
 ⟨[(true, .box [.pl XSc])], [.one (.ptr 0 0)]⟩,
 ⟨[(true, .box [.pl XSc])], [.one (.ptr 0 0), .one (.pl (.int .i64)), .one (.pl (.list XNc)), .one (.pl (.list XNc))]⟩,
 ⟨[], [.one (.pl (.list XNc))]⟩,
 ⟨[(true, .box [.pl XRc])], [.one (.ptr 0 0)]⟩,
 ⟨[(true, .box [.pl XRc])], [.one (.ptr 0 0)]⟩,
 ⟨[(true, .box [.pl XRc])], [.one (.ptr 0 0)]⟩,
 ⟨[], [.agg [.pl S7]]⟩,
 ⟨[], [.agg [.pl S7]]⟩,
 ⟨[], [.one (.pl .str)]⟩,
 ⟨[], [.one (.pl .str), .one (.fn 58 [] [])]⟩,
 ⟨[], [.one (.pl (.int .i32))]⟩,
 ⟨[], [.one (.pl .str)]⟩,
 ⟨[], [.one (.pl (.list .str)), .one (.pl .str)]⟩,
 ⟨[], [.one (.pl .str), .one (.pl .str)]⟩,
 ⟨[], [.one (.pl .str)]⟩,
 ⟨[], [.one (.pl .str)]⟩,
 ⟨[], [.one (.pl (.list B4)), .one (.fn 25 [] [])]⟩,
 ⟨[(true, .box [.fn 25 [] []])], [.one (.pl (.list B4)), .one (.fn 62 [] [some 0])]⟩,
 ⟨[(true, .box [.fn 25 [] []])], [.one (.pl (.list B4)), .one (.fn 62 [] [some 0])]⟩,
 ⟨[(true, .box [.fn 25 [] []])], [.agg [.pl B4], .one (.ptr 0 0)]⟩,
 ⟨[], [.agg [.pl B4]]⟩,
 ⟨[], [.one (.pl (.list D5)), .one (.fn 64 [] [])]⟩,
 ⟨[(true, .box [.fn 64 [] []])], [.one (.pl (.list D5)), .one (.fn 99 [] [some 0])]⟩,
 ⟨[(true, .box [.fn 64 [] []])], [.one (.pl (.list D5)), .one (.fn 99 [] [some 0])]⟩,
 ⟨[(true, .box [.fn 64 [] []])], [.agg [.pl D5], .one (.ptr 0 0)]⟩,
 ⟨[], [.agg [.pl D5]]⟩,
 ⟨[], [.one (.pl (.list V5)), .one (.fn 66 [] [])]⟩,
 ⟨[(true, .box [.fn 66 [] []])], [.one (.pl (.list V5)), .one (.fn 101 [] [some 0])]⟩,
 ⟨[(true, .box [.fn 66 [] []])], [.one (.pl (.list V5)), .one (.fn 101 [] [some 0])]⟩,
 ⟨[(true, .box [.fn 66 [] []])], [.agg [.pl V5], .one (.ptr 0 0)]⟩,
 ⟨[], [.agg [.pl V5]]⟩,
 ⟨[], [.one (.pl (.list XNc))]⟩,
 ⟨[], [.one (.pl (.list XNc))]⟩,
 ⟨[], [.agg [.pl XNc]]⟩,
 ⟨[], [.agg [.pl XNc]]⟩,
 ⟨[], [.agg [.pl XNc], .one (.pl (.list (.int .i64)))]⟩,
 ⟨[], [.one (.pl (.list .bool)), .one (.pl .bool)]⟩,
 ⟨[], [.one (.pl (.list .bool)), .one (.pl .bool)]⟩,
 ⟨[], [.one (.pl (.list XNc))]⟩,
 ⟨[], [.one (.pl (.list XNc))]⟩,
 ⟨[], [.one (.pl (.list XNc)), .one (.fn 129 [] [])]⟩,
 ⟨[], [.one (.pl (.list XNc)), .one (.fn 129 [] [])]⟩,
 ⟨[], [.agg [.pl XNc]]⟩,
 ⟨[], [.one (.pl (.list L1)), .one (.fn 68 [] [])]⟩,
 ⟨[(true, .box [.fn 68 [] []])], [.one (.pl (.list L1)), .one (.fn 104 [] [some 0])]⟩,
 ⟨[(true, .box [.fn 68 [] []])], [.one (.pl (.list L1)), .one (.fn 104 [] [some 0])]⟩,
 ⟨[(true, .box [.fn 68 [] []])], [.agg [.pl L1], .one (.ptr 0 0)]⟩,
 ⟨[], [.agg [.pl L1]]⟩,
 ⟨[], [.one (.pl (.list (.list XNc))), .one (.fn 102 [] [])]⟩,
 ⟨[(true, .box [.fn 102 [] []])], [.one (.pl (.list (.list XNc))), .one (.fn 133 [] [some 0])]⟩,
 ⟨[(true, .box [.fn 102 [] []])], [.one (.pl (.list (.list XNc))), .one (.fn 133 [] [some 0])]⟩,
 ⟨[(true, .box [.fn 102 [] []])], [.one (.pl (.list XNc)), .one (.ptr 0 0)]⟩,
 ⟨[(true, .box [.sl 1]), (true, .arr XKc)], [.one (.ptr 0 0), .agg [.pl B4]]⟩,
 ⟨[(true, .box [.sl 1]), (true, .arr XKc)], [.one (.ptr 0 0), .one (.pl (.list .str))]⟩,
 ⟨[(true, .box [.sl 1]), (true, .arr XKc)], [.one (.ptr 0 0), .one (.pl (.list D5))]⟩,
 ⟨[(true, .box [.sl 1]), (true, .arr XKc)], [.one (.ptr 0 0), .one (.pl (.list D5)), .one (.fn 48 [] []), .one (.pl .str)]⟩,
 ⟨[(true, .box [.sl 1]), (true, .arr XKc)], [.one (.ptr 0 0), .agg [.pl D5]]⟩,
 ⟨[(true, .box [.sl 1]), (true, .arr XKc)], [.one (.ptr 0 0), .agg [.pl L1]]⟩,
 ⟨[(true, .box [.sl 1]), (true, .arr XKc)], [.one (.ptr 0 0), .one (.pl (.list XNc))]⟩,
 ⟨[], [.one (.pl (.list XNc))]⟩,
 ⟨[(true, .box [.pl (.list XNc), .sl 1]), (true, .arr XKc)], [.one (.ptr 0 0), .one (.pl (.int .i64))]⟩,
 ⟨[], [.one (.pl (.int .i64))]⟩,
 ⟨[], []⟩,
 ⟨[], [.one (.pl (.int .i64))]⟩,
 ⟨[(true, .box [.pl (.list XNc), .sl 1]), (true, .arr XKc)], [.one (.ptr 0 0), .one (.pl (.list .str))]⟩,
 ⟨[], [.one (.pl .bool)]⟩,
 ⟨[], [.one (.pl .bool)]⟩,
 ⟨[(true, .box [.pl (.list XNc), .sl 1]), (true, .arr XKc)], [.one (.ptr 0 0), .one (.pl (.int .i64))]⟩,
 ⟨[(true, .box [.pl (.list XNc), .sl 1]), (true, .arr XKc)], [.one (.ptr 0 0), .one (.pl (.int .i64)), .one (.pl (.int .i64))]⟩,
 ⟨[], [.one (.pl (.int .i64))]⟩,
 ⟨[], [.one (.pl (.list XKc))]⟩,
 ⟨[(true, .box [.sl 1]), (true, .arr XKc)], [.one (.ptr 0 0), .one (.pl (.list (.list XNc))), .one (.fn 49 [] []), .one (.pl .str)]⟩,
 ⟨[], [.agg [.pl S7]]⟩,
 ⟨[], [.one (.pl (.list B4))]⟩,
 ⟨[], [.one (.pl (.list D5))]⟩,
 ⟨[], [.one (.pl (.list V5))]⟩,
 ⟨[], [.one (.pl (.list L1))]⟩,
 ⟨[], [.one (.pl (.list XNc))]⟩,
 ⟨[], [.one (.pl (.list XNc)), .one (.pl (.int .i64))]⟩,
 ⟨[(true, .arr XNc)], [.one (.sl 0), .one (.pl (.list XNc)), .one (.pl (.int .i64))]⟩,
 ⟨[], [.one (.pl (.list (.list XNc)))]⟩,
 ⟨[], [.agg [.pl S7]]⟩,
 ⟨[], [.agg [.pl B4]]⟩,
 ⟨[], [.one (.pl (.list XNc))]⟩,
 ⟨[], [.one (.pl (.list XNc)), .one (.pl (.int .i64))]⟩,
 ⟨[], [.one (.pl (.list XNc))]⟩,
 ⟨[], [.agg [.pl XNc]]⟩,
 ⟨[], [.agg [.pl XNc]]⟩,
 ⟨[], [.one (.pl (.list XNc)), .one (.pl (.int .i64))]⟩,
 ⟨[(true, .arr XNc)], [.one (.pl (.list XNc)), .one (.pl (.int .i64)), .one (.sl 0)]⟩,
 ⟨[], [.agg [.pl S7], .agg [.pl S7]]⟩,
 ⟨[], [.agg [.pl B4], .agg [.pl B4]]⟩,
 ⟨[], [.one (.pl (.list D5)), .one (.pl (.list D5))]⟩,
 ⟨[], [.one (.pl (.list XNc)), .one (.pl (.list XNc))]⟩,
 ⟨[], [.one (.pl (.list (.list XNc))), .one (.pl (.list (.list XNc)))]⟩,
 ⟨[], [.one (.pl .str)]⟩,
 ⟨[], [.agg [.pl S7]]⟩,
 ⟨[], [.agg [.pl S7], .agg [.pl S7]]⟩,
 ⟨[], [.agg [.pl S7]]⟩]
 koutsL := [[⟨[], [.one (.pl .bool)]⟩],
 [⟨[], [.one (.pl .bool)]⟩],
 [⟨[], [.one (.pl .bool)]⟩],
 [⟨[], [.agg [.pl S7], .agg [.pl (.prod (.int .i64) (.int .i64))]]⟩],
 [⟨[(true, .arr XKc)], [.one (.sl 0), .agg [.pl (.prod (.int .i64) (.int .i64))]]⟩],
 [⟨[], [.agg [.pl XKc], .one (.pl (.int .i64))]⟩],
 [⟨[], [.one (.pl .bool)]⟩],
 [⟨[], [.one (.pl (.int .i64))]⟩],
 [⟨[], [.one (.pl .bool)]⟩],
 [⟨[], [.agg [.pl XKc], .one (.pl (.int .i64))]⟩],
 [⟨[], [.one (.pl .bool)]⟩],
 [⟨[(true, .arr .str)], [.one (.sl 0)]⟩],
 [⟨[], [.one (.pl .bool)]⟩],
 [⟨[], [.one (.pl .str)]⟩],
 [⟨[(true, .arr .str)], [.one (.sl 0)]⟩],
 [⟨[(true, .box [.sl 1, .pl (.int .i64), .pl (.int .i64), .pl (.int .i64)]), (true, .arr XKc)], [.one (.pl .bool)]⟩],
 [⟨[(true, .box [.sl 1, .pl (.int .i64), .pl (.int .i64), .pl (.int .i64)]), (true, .arr XKc)], [.one (.pl .bool)]⟩],
 [⟨[(true, .box [.pl XRc]), (true, .gone)], []⟩],
 [⟨[(true, .box [.pl XRc]), (true, .gone)], []⟩],
 [⟨[], [.one (.pl (.int .i64))]⟩],
 [⟨[(true, .box [.pl XRc])], [.agg [.pl B4]]⟩],
 [⟨[(true, .box [.pl XRc])], [.one (.pl .bool)]⟩],
 [⟨[(true, .box [.pl XRc])], [.one (.pl .bool)]⟩],
 [⟨[(true, .box [.pl XRc])], [.one (.pl .bool)]⟩],
 [⟨[(true, .box [.pl XRc])], [.one (.pl .str)]⟩],
 [⟨[(true, .box [.pl XRc])], [.one (.pl .bool)]⟩],
 [⟨[(true, .box [.pl XRc])], []⟩],
 [⟨[(true, .box [.pl XRc]), (true, .arr D5)], [.one (.sl 1)]⟩],
 [⟨[(true, .box [.pl XRc])], []⟩],
 [⟨[(true, .box [.pl XRc])], []⟩],
 [⟨[(true, .box [.pl XRc])], [.agg [.pl D5]]⟩],
 [⟨[(true, .box [.pl XRc]), (true, .arr L1)], [.one (.sl 1)]⟩],
 [⟨[(true, .box [.pl XRc])], [.one (.pl .bool)]⟩],
 [⟨[(true, .box [.pl XRc])], [.agg [.pl L1], .one (.pl .bool)]⟩],
 [⟨[(true, .box [.pl XRc])], [.one (.pl (.list XNc))]⟩],
 [⟨[], [.one (.pl (.list XNc)), .one (.pl (.int .i64)), .agg [.pl (.prod (.int .i64) (.int .i64))]]⟩],
 [⟨[(true, .box [.pl XSc]), (true, .arr XNc)], [.one (.sl 1)]⟩],
 [⟨[(true, .box [.pl XSc]), (true, .arr XNc)], [.one (.sl 1)]⟩],
 [⟨[(true, .box [.pl XSc]), (true, .arr XNc)], [.one (.sl 1)]⟩],
 [⟨[(true, .box [.pl XSc]), (true, .arr XNc)], [.one (.sl 1)]⟩],
 [⟨[(true, .box [.pl XSc]), (true, .arr XNc)], [.one (.sl 1)]⟩],
 [⟨[(true, .box [.pl XSc]), (true, .arr XNc)], [.one (.sl 1)]⟩],
 [⟨[(true, .box [.pl XSc]), (true, .arr XNc)], [.one (.sl 1)]⟩],
 [⟨[(true, .box [.pl XSc]), (true, .arr XNc)], [.one (.sl 1)]⟩],
 [⟨[(true, .box [.pl XSc]), (true, .arr XNc)], [.one (.sl 1)]⟩],
 [⟨[(true, .box [.pl XSc]), (true, .arr XNc)], [.one (.sl 1)]⟩],
 [⟨[(true, .box [.pl XSc]), (true, .arr XNc)], [.one (.sl 1)]⟩],
 [⟨[(true, .arr XNc)], [.one (.sl 0)]⟩],
 [⟨[], [.agg [.pl XNc]]⟩],
 [⟨[(true, .arr (.int .i64))], [.one (.sl 0)]⟩],
 [⟨[(true, .gone), (true, .arr XNc)], [.one (.sl 1)]⟩],
 [⟨[], [.agg [.pl XNc]]⟩],
 [⟨[], [.agg [.pl XNc]]⟩],
 [⟨[(true, .box [.pl XSc]), (true, .arr XNc)], [.one (.sl 1)]⟩],
 [⟨[(true, .box [.pl XSc])], [.one (.pl .bool)]⟩],
 [⟨[(true, .box [.pl XSc])], [.one (.pl .bool)]⟩],
 [⟨[(true, .box [.pl XSc]), (true, .arr (.list XNc))], [.one (.sl 1)]⟩],
 [⟨[(true, .box [.pl XSc])], []⟩],
 [⟨[], [.one (.pl (.int .i64))]⟩],
 [⟨[(true, .box [.pl XSc]), (true, .arr XNc)], [.one (.sl 1)]⟩],
 [⟨[(true, .box [.pl XSc]), (true, .arr XNc)], [.one (.sl 1)]⟩],
 [⟨[(true, .box [.pl XSc]), (true, .arr XNc)], [.one (.sl 1)]⟩],
 [⟨[], [.one (.pl (.int .i64))]⟩],
 [⟨[(true, .box [.pl XRc]), (true, .arr (.list XNc))], [.one (.sl 1)]⟩],
 [⟨[(true, .box [.pl XRc]), (true, .arr D5)], [.one (.sl 1)]⟩],
 [⟨[(true, .box [.pl XRc]), (true, .arr V5)], [.one (.sl 1)]⟩],
 [⟨[], [.one (.pl .str)]⟩],
 [⟨[], [.one (.pl .bool)]⟩],
 [⟨[], [.one (.pl .bool)]⟩],
 [⟨[], [.one (.pl .str)]⟩],
 [⟨[], [.one (.pl .bool)]⟩],
 [⟨[], [.one (.pl .bool)]⟩],
 [⟨[], [.one (.pl (.int .i64)), .one (.pl .bool)]⟩],
 [⟨[], [.one (.pl .bool)]⟩],
 [⟨[], [.one (.pl .bool)]⟩],
 [⟨[], [.one (.pl .bool)]⟩],
 [⟨[], [.one (.pl .bool)]⟩],
 [⟨[(true, .box [.fn 25 [] []])], [.one (.pl .bool)]⟩],
 [⟨[(true, .box [.fn 25 [] []])], [.one (.pl (.int .i64))]⟩],
 [⟨[(true, .box [.fn 25 [] []])], [.one (.pl .bool)]⟩],
 [⟨[], [.one (.pl .bool)]⟩],
 [⟨[], [.one (.pl .bool)]⟩],
 [⟨[(true, .box [.fn 64 [] []])], [.one (.pl .bool)]⟩],
 [⟨[(true, .box [.fn 64 [] []])], [.one (.pl (.int .i64))]⟩],
 [⟨[(true, .box [.fn 64 [] []])], [.one (.pl .bool)]⟩],
 [⟨[], [.one (.pl .bool)]⟩],
 [⟨[], [.one (.pl .bool)]⟩],
 [⟨[(true, .box [.fn 66 [] []])], [.one (.pl .bool)]⟩],
 [⟨[(true, .box [.fn 66 [] []])], [.one (.pl (.int .i64))]⟩],
 [⟨[(true, .box [.fn 66 [] []])], [.one (.pl .bool)]⟩],
 [⟨[], [.one (.pl .bool)]⟩],
 [⟨[], [.one (.pl .bool)]⟩],
 [⟨[], [.one (.pl .bool)]⟩],
 [⟨[], [.one (.pl .bool)]⟩],
 [⟨[(true, .arr (.int .i64))], [.one (.sl 0)]⟩],
 [⟨[], [.agg [.pl XNc]]⟩],
 [⟨[], [.one (.pl .bool)]⟩],
 [⟨[], [.one (.pl (.int .i64))]⟩],
 [⟨[], [.one (.pl (.int .i64))]⟩],
 [⟨[(true, .arr (.int .i64))], [.one (.sl 0)]⟩],
 [⟨[], [.one (.pl .bool)]⟩],
 [⟨[], [.one (.pl (.int .i64))]⟩],
 [⟨[], [.one (.pl .bool)]⟩],
 [⟨[], [.one (.pl .bool)]⟩],
 [⟨[(true, .box [.fn 68 [] []])], [.one (.pl .bool)]⟩],
 [⟨[(true, .box [.fn 68 [] []])], [.one (.pl (.int .i64))]⟩],
 [⟨[(true, .box [.fn 68 [] []])], [.one (.pl .bool)]⟩],
 [⟨[], [.one (.pl .bool)]⟩],
 [⟨[], [.one (.pl .bool)]⟩],
 [⟨[(true, .box [.fn 102 [] []])], [.one (.pl .bool)]⟩],
 [⟨[(true, .box [.fn 102 [] []])], [.one (.pl (.int .i64))]⟩],
 [⟨[(true, .box [.fn 102 [] []])], [.one (.pl .bool)]⟩],
 [⟨[(true, .box [.sl 2]), (true, .gone), (true, .arr XKc)], []⟩],
 [⟨[(true, .box [.sl 2]), (true, .gone), (true, .arr XKc)], []⟩],
 [⟨[(true, .box [.sl 2]), (true, .gone), (true, .arr XKc)], []⟩],
 [⟨[(true, .box [.sl 2]), (true, .gone), (true, .arr XKc)], []⟩],
 [⟨[(true, .box [.sl 2]), (true, .gone), (true, .arr XKc)], []⟩],
 [⟨[(true, .box [.sl 2]), (true, .gone), (true, .arr XKc)], []⟩],
 [⟨[(true, .box [.sl 2]), (true, .gone), (true, .arr XKc)], []⟩],
 [⟨[], [.one (.pl .str)]⟩],
 [⟨[(true, .box [.pl (.list XNc), .sl 2]), (true, .gone), (true, .arr XKc)], []⟩],
 [⟨[], [.agg [.pl D5]]⟩],
 [⟨[], [.agg [.pl (.prod .str (.prod (.int .i64) (.prod .str (.prod (.int .i64) (.prod .str (.prod (.int .i64) (.prod .str (.prod (.int .i64) (.prod .str (.prod (.int .i64) (.prod .str (.prod (.int .i64) (.prod .str (.prod (.int .i64) (.prod .str (.prod (.int .i64) (.prod .str (.prod (.int .i64) (.prod .str (.prod (.int .i64) (.prod .str (.prod (.int .i64) (.prod .str (.prod (.int .i64) (.prod .str (.prod (.int .i64) (.prod .str (.prod (.int .i64) (.prod .str (.prod (.int .i64) (.prod .str (.prod (.int .i64) (.prod .str (.prod (.int .i64) (.prod .str (.prod (.int .i64) (.prod .str (.prod (.int .i64) (.prod .str (.prod (.int .i64) (.prod .str (.prod (.int .i64) (.prod .str (.prod (.int .i64) (.prod .str (.prod (.int .i64) (.prod .str (.prod (.int .i64) (.prod .str (.prod (.int .i64) (.prod .str (.prod (.int .i64) (.prod .str XKc)))))))))))))))))))))))))))))))))))))))))))))))))))))]]⟩],
 [⟨[], [.one (.pl .str)]⟩],
 [⟨[(true, .box [.pl (.list XNc), .sl 2]), (true, .gone), (true, .arr XKc)], []⟩],
 [⟨[], [.one (.pl .str)]⟩],
 [⟨[], [.one (.pl .str)]⟩],
 [⟨[(true, .box [.pl (.list XNc), .sl 2]), (true, .gone), (true, .arr XKc)], []⟩],
 [⟨[(true, .box [.pl (.list XNc), .sl 2]), (true, .gone), (true, .arr XKc)], []⟩],
 [⟨[], [.one (.pl (.int .i64))]⟩],
 [⟨[], [.one (.pl .str)]⟩],
 [⟨[(true, .box [.sl 2]), (true, .gone), (true, .arr XKc)], []⟩],
 [⟨[], [.agg [.pl S7]]⟩],
 [⟨[(true, .arr B4)], [.one (.sl 0)]⟩],
 [⟨[(true, .arr D5)], [.one (.sl 0)]⟩],
 [⟨[(true, .arr V5)], [.one (.sl 0)]⟩],
 [⟨[(true, .arr L1)], [.one (.sl 0)]⟩],
 [⟨[(true, .arr XNc)], [.one (.sl 0)]⟩],
 [⟨[(true, .arr XNc)], [.one (.sl 0)]⟩],
 [⟨[(true, .gone), (true, .arr XNc)], [.one (.sl 1)]⟩],
 [⟨[(true, .arr (.list XNc))], [.one (.sl 0)]⟩],
 [⟨[], [.agg [.pl S7]]⟩],
 [⟨[], [.agg [.pl B4]]⟩],
 [⟨[(true, .arr XNc)], [.one (.sl 0)]⟩],
 [⟨[(true, .arr XNc)], [.one (.sl 0)]⟩],
 [⟨[], [.one (.pl .bool)]⟩],
 [⟨[], [.one (.pl .bool)]⟩],
 [⟨[], [.one (.pl .bool)]⟩],
 [⟨[], [.one (.pl .bool)]⟩],
 [⟨[(true, .gone), (true, .arr XNc)], [.one (.sl 1)]⟩],
 [⟨[], [.one (.pl .bool)]⟩],
 [⟨[], [.one (.pl .bool)]⟩],
 [⟨[], [.one (.pl .bool)]⟩],
 [⟨[], [.one (.pl .bool)]⟩],
 [⟨[], [.one (.pl .bool)]⟩],
 [⟨[], [.one (.pl .bool)]⟩],
 [⟨[], [.one (.pl .bool)]⟩],
 [⟨[], [.one (.pl .bool)]⟩],
 [⟨[], [.one (.pl .bool)]⟩]]
 bkL := [⟨[1, 3], ⟨[(true, .box [.pl S7])], [.one (.ptr 0 0), .one (.pl (.int .i64))]⟩, [], [(.ret, [2], ⟨[(true, .box [.pl S7])], [.one (.pl .bool)]⟩), (.norm, [], ⟨[(true, .box [.pl S7])], []⟩)]⟩,
 ⟨[4, 5], ⟨[(true, .box [.pl B4])], [.one (.ptr 0 0), .one (.pl (.int .i64))]⟩, [1, 3, 4], [(.ret, [2], ⟨[(true, .box [.pl B4])], [.one (.pl .bool)]⟩), (.norm, [], ⟨[(true, .box [.pl B4])], []⟩)]⟩,
 ⟨[4, 6], ⟨[(true, .box [.pl B4])], [.one (.ptr 0 0), .one (.pl (.int .i64))]⟩, [1, 3], [(.ret, [2], ⟨[(true, .box [.pl B4])], [.one (.pl .bool)]⟩), (.norm, [], ⟨[(true, .box [.pl B4])], []⟩)]⟩,
 ⟨[7, 8], ⟨[(true, .box [.pl L1])], [.one (.ptr 0 0), .one (.pl (.int .i64))]⟩, [4, 6], [(.ret, [2], ⟨[(true, .box [.pl L1])], [.one (.pl .bool)]⟩), (.norm, [], ⟨[(true, .box [.pl L1])], []⟩)]⟩,
 j4,
 j4,
 ⟨[0, 6], ⟨[], [.one (.pl .str), .one (.pl (.int .i64))]⟩, [0, 1, 4, 5], [(.norm, [6], ⟨[], [.one (.pl (.int .i64))]⟩)]⟩,
 ⟨[0, 3, 4], ⟨[], [.one (.pl .str), .one (.pl (.int .i64)), .one (.pl (.int .i64))]⟩, [2], [(.norm, [3], ⟨[], [.one (.pl (.int .i64))]⟩)]⟩,
 ⟨[0, 6], ⟨[], [.one (.pl .str), .one (.pl (.int .i64))]⟩, [0, 1, 4, 5], [(.norm, [6], ⟨[], [.one (.pl (.int .i64))]⟩)]⟩,
 ⟨[0, 3, 4], ⟨[(true, .arr .str)], [.one (.pl .str), .one (.sl 0), .one (.pl (.int .i64))]⟩, [], [(.ret, [2], ⟨[(true, .arr .str)], [.one (.pl .bool)]⟩), (.norm, [], ⟨[(true, .arr .str)], []⟩)]⟩,
 ⟨[0, 3], ⟨[], [.one (.pl .str), .one (.pl (.int .i64))]⟩, [], [(.ret, [2], ⟨[], [.one (.pl .bool)]⟩), (.norm, [], ⟨[], []⟩)]⟩,
 ⟨[0, 3, 4], ⟨[(true, .arr .str)], [.one (.pl .str), .one (.sl 0), .one (.pl (.int .i64))]⟩, [], [(.ret, [2], ⟨[(true, .arr .str)], [.one (.pl .str)]⟩), (.norm, [], ⟨[(true, .arr .str)], []⟩)]⟩,
 ⟨[0, 3, 4, 5], ⟨[(true, .box [.pl (.prod (.int .i64) (.int .i64))]), (false, .arr XKc)], [.one (.pl .str), .one (.ptr 0 0), .one (.sl 1), .one (.pl (.int .i64))]⟩, [3], [(.ret, [2], ⟨[(true, .box [.pl (.prod (.int .i64) (.int .i64))]), (true, .gone), (true, .arr XKc)], [.one (.sl 2)]⟩), (.norm, [4], ⟨[(true, .box [.pl (.prod (.int .i64) (.int .i64))]), (true, .gone), (true, .arr XKc)], [.one (.sl 2)]⟩)]⟩,
 ⟨[0, 5], ⟨[], [.one (.pl .str), .one (.pl (.int .i64))]⟩, [0, 2, 3, 4], [(.norm, [5], ⟨[], [.one (.pl (.int .i64))]⟩)]⟩,
 j4,
 j4,
 j4,
 ⟨[0, 3], ⟨[(true, .box [.pl XRc]), (false, .arr D5)], [.one (.ptr 0 0), .one (.sl 1)]⟩, [], [(.ret, [2], ⟨[(true, .box [.pl XRc]), (true, .gone), (true, .arr D5)], [.one (.sl 2)]⟩), (.norm, [], ⟨[(true, .box [.pl XRc]), (true, .gone)], []⟩)]⟩,
 j4,
 j4,
 j4,
 j4,
 ⟨[0, 1, 5, 6], ⟨[(false, .arr XNc)], [.one (.sl 0), .one (.pl (.list XNc)), .one (.pl (.int .i64)), .one (.pl (.int .i64))]⟩, [4], [(.norm, [0], ⟨[(true, .gone), (true, .arr XNc)], [.one (.sl 1)]⟩)]⟩,
 ⟨[0, 3, 11, 12, 13, 14], ⟨[(false, .arr XNc), (false, .arr (.int .i64))], [.one (.pl (.int .i64)), .one (.pl (.list (.list XNc))), .one (.sl 0), .one (.sl 1), .one (.pl (.int .i64)), .one (.pl (.int .i64))]⟩, [0, 9], [(.ret, [8], ⟨[(true, .gone), (true, .gone), (true, .arr XNc)], [.one (.sl 2)]⟩), (.norm, [11, 12, 13], ⟨[(true, .gone), (true, .gone), (true, .arr XNc), (true, .arr (.int .i64))], [.one (.sl 2), .one (.sl 3), .one (.pl (.int .i64))]⟩)]⟩,
 j4,
 ⟨[0, 3], ⟨[(true, .box [.pl XSc]), (false, .arr (.list XNc))], [.one (.ptr 0 0), .one (.sl 1)]⟩, [], [(.ret, [2], ⟨[(true, .box [.pl XSc]), (true, .gone), (true, .arr (.list XNc))], [.one (.sl 2)]⟩), (.norm, [], ⟨[(true, .box [.pl XSc]), (true, .gone)], []⟩)]⟩,
 j4,
 ⟨[0, 3], ⟨[(true, .box [.pl XSc]), (false, .arr XNc)], [.one (.ptr 0 0), .one (.sl 1)]⟩, [2], [(.norm, [3], ⟨[(true, .box [.pl XSc]), (true, .gone), (true, .arr XNc)], [.one (.sl 2)]⟩)]⟩,
 j4,
 ⟨[0, 3], ⟨[(true, .box [.pl XSc]), (false, .arr XNc)], [.one (.ptr 0 0), .one (.sl 1)]⟩, [2], [(.norm, [3], ⟨[(true, .box [.pl XSc]), (true, .gone), (true, .arr XNc)], [.one (.sl 2)]⟩)]⟩,
 j4,
 ⟨[0, 3], ⟨[(true, .box [.pl XSc]), (false, .arr XNc)], [.one (.ptr 0 0), .one (.sl 1)]⟩, [2], [(.norm, [3], ⟨[(true, .box [.pl XSc]), (true, .gone), (true, .arr XNc)], [.one (.sl 2)]⟩)]⟩,
 j4,
 ⟨[0, 3], ⟨[(true, .box [.pl XSc]), (false, .arr XNc)], [.one (.ptr 0 0), .one (.sl 1)]⟩, [2], [(.norm, [3], ⟨[(true, .box [.pl XSc]), (true, .gone), (true, .arr XNc)], [.one (.sl 2)]⟩)]⟩,
 j4,
 ⟨[0, 3], ⟨[(true, .box [.pl XSc]), (false, .arr XNc)], [.one (.ptr 0 0), .one (.sl 1)]⟩, [2], [(.norm, [3], ⟨[(true, .box [.pl XSc]), (true, .gone), (true, .arr XNc)], [.one (.sl 2)]⟩)]⟩,
 j4,
 j4,
 j4,
 j4,
 j4,
 j4,
 j4,
 ⟨[0, 3, 4], ⟨[(true, .arr (.int .i64))], [.one (.pl (.list XNc)), .one (.sl 0), .one (.pl (.int .i64))]⟩, [0, 2, 3], [(.norm, [], ⟨[(true, .arr (.int .i64))], []⟩)]⟩,
 ⟨[3, 4, 5, 6], ⟨[(true, .arr (.int .i64)), (true, .arr (.int .i64))], [.one (.sl 0), .one (.pl (.int .i64)), .one (.sl 1), .one (.pl (.int .i64))]⟩, [0, 3, 4], [(.norm, [], ⟨[(true, .arr (.int .i64)), (true, .arr (.int .i64))], []⟩)]⟩,
 j4,
 ⟨[0, 1, 6], ⟨[(true, .box [.pl (.prod (.int .i64) (.int .i64))])], [.one (.pl (.list XKc)), .one (.pl (.int .i64)), .one (.ptr 0 0)]⟩, [6], [(.ret, [4, 5], ⟨[(true, .box [.pl (.prod (.int .i64) (.int .i64))]), (true, .arr XNc)], [.one (.sl 1), .one (.pl (.int .i64))]⟩), (.ret, [4, 5], ⟨[(true, .box [.pl (.prod (.int .i64) (.int .i64))])], [.one (.pl (.list XNc)), .one (.pl (.int .i64))]⟩)]⟩,
 ⟨[0, 3, 4, 5], ⟨[(true, .box [.pl XRc]), (true, .box [.pl (.prod (.int .i64) (.int .i64))])], [.one (.ptr 0 0), .one (.pl (.list XNc)), .one (.pl (.int .i64)), .one (.ptr 1 0)]⟩, [], [(.ret, [2], ⟨[(true, .box [.pl XRc]), (true, .box [.pl (.prod (.int .i64) (.int .i64))])], [.one (.pl (.list XNc))]⟩)]⟩,
 j4,
 ⟨[0, 3], ⟨[(true, .box [.pl XRc]), (false, .arr (.list XNc))], [.one (.ptr 0 0), .one (.sl 1)]⟩, [], [(.ret, [2], ⟨[(true, .box [.pl XRc]), (true, .gone), (true, .arr (.list XNc))], [.one (.sl 2)]⟩), (.norm, [], ⟨[(true, .box [.pl XRc]), (true, .gone)], []⟩)]⟩,
 ⟨[0, 3], ⟨[(true, .box [.pl XRc]), (false, .arr L1)], [.one (.ptr 0 0), .one (.sl 1)]⟩, [0, 2], [(.norm, [3], ⟨[(true, .box [.pl XRc]), (true, .gone), (true, .arr L1)], [.one (.sl 2)]⟩)]⟩,
 j4,
 ⟨[0, 3], ⟨[(true, .box [.pl XRc]), (false, .arr D5)], [.one (.ptr 0 0), .one (.sl 1)]⟩, [], [(.ret, [2], ⟨[(true, .box [.pl XRc]), (true, .gone), (true, .arr D5)], [.one (.sl 2)]⟩), (.norm, [], ⟨[(true, .box [.pl XRc]), (true, .gone)], []⟩)]⟩,
 j4,
 ⟨[0, 3], ⟨[(true, .box [.pl XRc]), (false, .arr V5)], [.one (.ptr 0 0), .one (.sl 1)]⟩, [0, 2], [(.norm, [3], ⟨[(true, .box [.pl XRc]), (true, .gone), (true, .arr V5)], [.one (.sl 2)]⟩)]⟩,
 j4,
 j4,
 j4,
 j4,
 j4,
 j4,
 j4,
 j4,
 j4,
 j4,
 j4,
 j4,
 j4,
 j4,
 ⟨[6, 7], ⟨[(true, .box [.pl XRc]), (true, .box [.sl 2, .pl .str, .pl .str]), (false, .arr B4)], [.one (.ptr 0 0), .one (.ptr 1 0)]⟩, [2, 3, 6, 7], [(.norm, [], ⟨[(true, .box [.pl XRc]), (true, .box [.sl 3, .pl .str, .pl .str]), (true, .gone), (true, .arr B4)], []⟩)]⟩,
 ⟨[2, 3, 6, 7], ⟨[(true, .box [.sl 4, .pl .str, .pl .str]), (true, .box [.pl (.prod (.int .i64) (.int .i64))]), (true, .box [.pl XRc]), (true, .box [.sl 5, .pl .str, .pl .str]), (true, .arr B4), (true, .arr B4)], [.one (.ptr 0 0), .one (.ptr 1 0), .one (.ptr 2 0), .one (.ptr 3 0)]⟩, [2, 3], [(.ret, [], ⟨[(true, .box [.sl 6, .pl .str, .pl .str]), (true, .box [.pl (.prod (.int .i64) (.int .i64))]), (true, .box [.pl XRc]), (true, .box [.sl 5, .pl .str, .pl .str]), (true, .arr B4), (true, .arr B4), (true, .arr B4)], []⟩), (.ret, [], ⟨[(true, .box [.sl 5, .pl .str, .pl .str]), (true, .box [.pl (.prod (.int .i64) (.int .i64))]), (true, .box [.pl XRc]), (true, .box [.sl 5, .pl .str, .pl .str]), (true, .arr B4), (true, .arr B4)], []⟩)]⟩,
 ⟨[0, 1, 7, 8], ⟨[], [.one (.pl (.list .str)), .one (.pl .str), .one (.pl (.int .i64)), .one (.pl (.int .i64))]⟩, [0, 1, 4, 5, 6], [(.norm, [7], ⟨[], [.one (.pl (.int .i64))]⟩)]⟩,
 ⟨[0, 1, 7, 8], ⟨[(true, .box [.fn 25 [] []])], [.one (.pl (.list B4)), .one (.fn 62 [] [some 0]), .one (.pl (.int .i64)), .one (.pl (.int .i64))]⟩, [], [(.ret, [4], ⟨[(true, .box [.fn 25 [] []])], [.one (.pl (.int .i64))]⟩), (.norm, [], ⟨[(true, .box [.fn 25 [] []])], []⟩)]⟩,
 ⟨[0, 1, 7, 8], ⟨[(true, .box [.fn 64 [] []])], [.one (.pl (.list D5)), .one (.fn 99 [] [some 0]), .one (.pl (.int .i64)), .one (.pl (.int .i64))]⟩, [], [(.ret, [4], ⟨[(true, .box [.fn 64 [] []])], [.one (.pl (.int .i64))]⟩), (.norm, [], ⟨[(true, .box [.fn 64 [] []])], []⟩)]⟩,
 ⟨[0, 1, 7, 8], ⟨[(true, .box [.fn 66 [] []])], [.one (.pl (.list V5)), .one (.fn 101 [] [some 0]), .one (.pl (.int .i64)), .one (.pl (.int .i64))]⟩, [], [(.ret, [4], ⟨[(true, .box [.fn 66 [] []])], [.one (.pl (.int .i64))]⟩), (.norm, [], ⟨[(true, .box [.fn 66 [] []])], []⟩)]⟩,
 ⟨[0, 3, 30, 31, 32], ⟨[(true, .arr .bool)], [.one (.pl (.list XNc)), .one (.sl 0), .one (.pl (.list XNc)), .one (.pl (.int .i64)), .one (.pl (.int .i64))]⟩, [0, 3], [(.ret, [2], ⟨[(true, .arr .bool)], [.one (.pl .bool)]⟩), (.norm, [], ⟨[(true, .arr .bool)], []⟩)]⟩,
 ⟨[1, 3], ⟨[(true, .box [.pl XNc])], [.one (.ptr 0 0), .one (.pl (.int .i64))]⟩, [], [(.ret, [2], ⟨[(true, .box [.pl XNc])], [.one (.pl .bool)]⟩)]⟩,
 ⟨[1, 3, 4], ⟨[(true, .box [.pl XNc]), (true, .box [.pl XNc])], [.one (.ptr 0 0), .one (.pl (.int .i64)), .one (.ptr 1 0)]⟩, [], [(.ret, [2], ⟨[(true, .box [.pl XNc]), (true, .box [.pl XNc])], [.one (.pl .bool)]⟩)]⟩,
 ⟨[0, 3, 4, 5, 41, 42, 43], ⟨[(true, .arr .bool), (true, .box [.pl XNc]), (true, .arr (.int .i64))], [.one (.pl (.list XNc)), .one (.sl 0), .one (.pl (.int .i64)), .one (.ptr 1 0), .one (.sl 2), .one (.pl (.int .i64)), .one (.pl (.int .i64))]⟩, [0, 3, 30, 31, 32], [(.ret, [2], ⟨[(true, .arr .bool), (true, .box [.pl XNc]), (true, .arr (.int .i64))], [.one (.pl .bool)]⟩), (.norm, [], ⟨[(true, .arr .bool), (true, .box [.pl XNc]), (true, .arr (.int .i64))], []⟩)]⟩,
 ⟨[0, 1, 7, 8], ⟨[], [.one (.pl (.list .bool)), .one (.pl .bool), .one (.pl (.int .i64)), .one (.pl (.int .i64))]⟩, [], [(.ret, [4], ⟨[], [.one (.pl (.int .i64))]⟩), (.norm, [], ⟨[], []⟩)]⟩,
 j4,
 j4,
 j4,
 j4,
 j4,
 j4,
 ⟨[3, 11, 12, 13], ⟨[(true, .arr (.int .i64))], [.one (.sl 0), .one (.pl (.list XNc)), .one (.pl (.int .i64)), .one (.pl (.int .i64))]⟩, [2, 3], [(.norm, [], ⟨[(true, .arr (.int .i64))], []⟩)]⟩,
 ⟨[3, 4, 19, 20, 21], ⟨[(true, .arr (.int .i64)), (true, .arr (.int .i64))], [.one (.sl 0), .one (.pl (.int .i64)), .one (.sl 1), .one (.pl (.int .i64)), .one (.pl (.int .i64))]⟩, [3, 4, 11, 12, 13], [(.norm, [], ⟨[(true, .arr (.int .i64)), (true, .arr (.int .i64))], []⟩)]⟩,
 ⟨[0, 1, 7, 8], ⟨[], [.one (.pl (.list XNc)), .one (.fn 129 [] []), .one (.pl (.int .i64)), .one (.pl (.int .i64))]⟩, [], [(.ret, [4], ⟨[], [.one (.pl (.int .i64))]⟩), (.norm, [], ⟨[], []⟩)]⟩,
 ⟨[0, 1, 7, 8], ⟨[(true, .box [.fn 68 [] []])], [.one (.pl (.list L1)), .one (.fn 104 [] [some 0]), .one (.pl (.int .i64)), .one (.pl (.int .i64))]⟩, [], [(.ret, [4], ⟨[(true, .box [.fn 68 [] []])], [.one (.pl (.int .i64))]⟩), (.norm, [], ⟨[(true, .box [.fn 68 [] []])], []⟩)]⟩,
 ⟨[0, 1, 7, 8], ⟨[(true, .box [.fn 102 [] []])], [.one (.pl (.list (.list XNc))), .one (.fn 133 [] [some 0]), .one (.pl (.int .i64)), .one (.pl (.int .i64))]⟩, [], [(.ret, [4], ⟨[(true, .box [.fn 102 [] []])], [.one (.pl (.int .i64))]⟩), (.norm, [], ⟨[(true, .box [.fn 102 [] []])], []⟩)]⟩,
 j4,
 j4,
 ⟨[0, 6, 7, 8], ⟨[(true, .box [.sl 1]), (false, .arr XKc)], [.one (.ptr 0 0), .one (.pl (.list .str)), .one (.pl (.int .i64)), .one (.pl (.int .i64))]⟩, [], [(.norm, [], ⟨[(true, .box [.sl 2]), (true, .gone), (true, .arr XKc)], []⟩)]⟩,
 j4,
 ⟨[0, 2, 3, 10, 11, 12], ⟨[(true, .box [.sl 1]), (false, .arr XKc)], [.one (.ptr 0 0), .one (.fn 48 [] []), .one (.pl .str), .one (.pl (.list D5)), .one (.pl (.int .i64)), .one (.pl (.int .i64))]⟩, [], [(.norm, [], ⟨[(true, .box [.sl 2]), (true, .gone), (true, .arr XKc)], []⟩)]⟩,
 j4,
 j4,
 j4,
 ⟨[0, 6, 7, 8], ⟨[(true, .box [.pl (.list XNc), .sl 1]), (false, .arr XKc)], [.one (.ptr 0 0), .one (.pl (.list .str)), .one (.pl (.int .i64)), .one (.pl (.int .i64))]⟩, [], [(.norm, [], ⟨[(true, .box [.pl (.list XNc), .sl 2]), (true, .gone), (true, .arr XKc)], []⟩)]⟩,
 j4,
 ⟨[0, 2, 3, 10, 11, 12], ⟨[(true, .box [.sl 1]), (false, .arr XKc)], [.one (.ptr 0 0), .one (.fn 49 [] []), .one (.pl .str), .one (.pl (.list (.list XNc))), .one (.pl (.int .i64)), .one (.pl (.int .i64))]⟩, [], [(.norm, [], ⟨[(true, .box [.sl 2]), (true, .gone), (true, .arr XKc)], []⟩)]⟩,
 j4,
 j4,
 j4,
 j4,
 ⟨[0, 3], ⟨[(true, .box [.sl 2]), (true, .box [.pl B4]), (true, .arr XKc)], [.one (.ptr 0 0), .one (.ptr 1 0)]⟩, [], [(.ret, [], ⟨[(true, .box [.sl 3]), (true, .box [.pl B4]), (true, .gone), (true, .arr XKc)], []⟩), (.norm, [], ⟨[(true, .box [.sl 3]), (true, .box [.pl B4]), (true, .gone), (true, .arr XKc)], []⟩)]⟩,
 ⟨[0, 44, 45, 46], ⟨[(true, .box [.sl 1]), (false, .arr XKc)], [.one (.ptr 0 0), .one (.pl (.list L1)), .one (.pl (.int .i64)), .one (.pl (.int .i64))]⟩, [0, 3], [(.norm, [], ⟨[(true, .box [.sl 2]), (true, .gone), (true, .arr XKc)], []⟩)]⟩,
 ⟨[0, 3], ⟨[(true, .box [.sl 2]), (true, .box [.pl B4]), (true, .arr XKc)], [.one (.ptr 0 0), .one (.ptr 1 0)]⟩, [], [(.ret, [], ⟨[(true, .box [.sl 2]), (true, .box [.pl B4]), (true, .arr XKc)], []⟩), (.norm, [], ⟨[(true, .box [.sl 3]), (true, .box [.pl B4]), (true, .gone), (true, .arr XKc)], []⟩)]⟩,
 ⟨[0, 85, 86, 87], ⟨[(true, .box [.sl 1]), (false, .arr XKc)], [.one (.ptr 0 0), .one (.pl (.list V5)), .one (.pl (.int .i64)), .one (.pl (.int .i64))]⟩, [0], [(.norm, [], ⟨[(true, .box [.sl 2]), (true, .gone), (true, .arr XKc)], []⟩)]⟩,
 ⟨[3, 12, 13, 14], ⟨[(true, .box [.sl 1]), (false, .arr XKc)], [.one (.ptr 0 0), .one (.pl (.list B4)), .one (.pl (.int .i64)), .one (.pl (.int .i64))]⟩, [1, 2, 3], [(.norm, [], ⟨[(true, .box [.sl 2]), (true, .gone), (true, .arr XKc)], []⟩)]⟩,
 j4,
 j4,
 j4,
 j4,
 j4,
 j4,
 j4,
 j4,
 j4,
 ⟨[0, 1, 7, 15, 16, 17], ⟨[(false, .arr XNc), (true, .arr (.int .i64))], [.one (.sl 0), .one (.pl (.list XNc)), .one (.sl 1), .one (.sl 1), .one (.pl (.int .i64)), .one (.pl (.int .i64))]⟩, [1, 2, 6, 7], [(.norm, [0], ⟨[(true, .gone), (true, .arr (.int .i64)), (true, .arr XNc)], [.one (.sl 2)]⟩)]⟩,
 j4,
 j4,
 j4,
 j4,
 j4,
 j4,
 j4,
 j4,
 j4,
 j4,
 j4,
 j4,
 j4,
 j4,
 j4,
 j4,
 j4,
 j4,
 j4,
 j4,
 j4,
 j4,
 j4,
 j4,
 j4,
 j4,
 j4,
 j4,
 j4,
 j4,
 j4,
 j4,
 j4,
 j4,
 j4,
 j4,
 j4,
 j4,
 j4,
 j4,
 j4,
 j4,
 j4,
 j4,
 j4,
 j4,
 j4,
 j4,
 j4,
 ⟨[1, 15, 16], ⟨[(true, .box [.sl 1, .pl .str, .pl .str]), (true, .arr B4)], [.one (.ptr 0 0), .one (.pl (.int .i64)), .one (.pl (.int .i64))]⟩, [1, 2], [(.norm, [], ⟨[(true, .box [.sl 1, .pl .str, .pl .str]), (true, .arr B4)], []⟩)]⟩,
 ⟨[4], ⟨[(true, .zip B4 [.pl .bool, .pl .str, .sl 1, .pl .str, .pl (.int .i64), .sl 2, .sl 3, .sl 4]), (true, .arr D5), (true, .arr D5), (true, .arr V5), (true, .arr L1)], [.one (.eptr 0 0)]⟩, [1, 15, 16], [(.norm, [], ⟨[(true, .zip B4 [.pl .bool, .pl .str, .sl 1, .pl .str, .pl (.int .i64), .sl 2, .sl 3, .sl 4]), (true, .arr D5), (true, .arr D5), (true, .arr V5), (true, .arr L1)], []⟩)]⟩,
 ⟨[4, 59, 60], ⟨[(true, .zip B4 [.pl .bool, .pl .str, .sl 1, .pl .str, .pl (.int .i64), .sl 2, .sl 3, .sl 4]), (true, .arr D5), (true, .arr D5), (true, .arr V5), (true, .arr L1)], [.one (.eptr 0 0), .one (.pl (.int .i64)), .one (.pl (.int .i64))]⟩, [4], [(.norm, [], ⟨[(true, .zip B4 [.pl .bool, .pl .str, .sl 1, .pl .str, .pl (.int .i64), .sl 2, .sl 3, .sl 4]), (true, .arr D5), (true, .arr D5), (true, .arr V5), (true, .arr L1)], []⟩)]⟩,
 ⟨[4, 84, 85], ⟨[(true, .zip B4 [.pl .bool, .pl .str, .sl 1, .pl .str, .pl (.int .i64), .sl 2, .sl 3, .sl 4]), (true, .arr D5), (true, .arr D5), (true, .arr V5), (true, .arr L1)], [.one (.eptr 0 0), .one (.pl (.int .i64)), .one (.pl (.int .i64))]⟩, [], [(.norm, [], ⟨[(true, .zip B4 [.pl .bool, .pl .str, .sl 1, .pl .str, .pl (.int .i64), .sl 2, .sl 3, .sl 4]), (true, .arr D5), (true, .arr D5), (true, .arr V5), (true, .arr L1)], []⟩)]⟩,
 ⟨[7], ⟨[(true, .zip L1 [.pl (.int .i64), .pl .str, .pl (.int .i64), .sl 1, .sl 2, .sl 3]), (true, .arr XNc), (true, .arr XNc), (true, .arr (.list XNc))], [.one (.eptr 0 0)]⟩, [4, 84, 85], [(.norm, [], ⟨[(true, .zip L1 [.pl (.int .i64), .pl .str, .pl (.int .i64), .sl 1, .sl 2, .sl 3]), (true, .arr XNc), (true, .arr XNc), (true, .arr (.list XNc))], []⟩)]⟩,
 ⟨[7, 122, 123], ⟨[(true, .zip L1 [.pl (.int .i64), .pl .str, .pl (.int .i64), .sl 1, .sl 2, .sl 3]), (true, .arr XNc), (true, .arr XNc), (true, .arr (.list XNc))], [.one (.eptr 0 0), .one (.pl (.int .i64)), .one (.pl (.int .i64))]⟩, [], [(.norm, [], ⟨[(true, .zip L1 [.pl (.int .i64), .pl .str, .pl (.int .i64), .sl 1, .sl 2, .sl 3]), (true, .arr XNc), (true, .arr XNc), (true, .arr (.list XNc))], []⟩)]⟩,
 j4,
 j4,
 ⟨[0, 3, 4], ⟨[(true, .arr (.int .i64))], [.one (.pl (.list XNc)), .one (.sl 0), .one (.pl (.int .i64))]⟩, [0, 3], [(.ret, [2], ⟨[(true, .arr (.int .i64))], [.one (.pl .bool)]⟩), (.norm, [], ⟨[(true, .arr (.int .i64))], []⟩)]⟩,
 ⟨[3, 4, 5, 6], ⟨[(true, .arr (.int .i64)), (true, .arr (.int .i64))], [.one (.sl 0), .one (.pl (.int .i64)), .one (.sl 1), .one (.pl (.int .i64))]⟩, [0, 3, 4], [(.ret, [2], ⟨[(true, .arr (.int .i64)), (true, .arr (.int .i64))], [.one (.pl .bool)]⟩), (.norm, [], ⟨[(true, .arr (.int .i64)), (true, .arr (.int .i64))], []⟩)]⟩,
 ⟨[0, 5, 6, 7], ⟨[(true, .box [.pl XNc]), (true, .arr (.int .i64))], [.one (.pl (.list XNc)), .one (.ptr 0 0), .one (.sl 1), .one (.pl (.int .i64))]⟩, [], [(.ret, [4], ⟨[(true, .box [.pl XNc]), (true, .arr (.int .i64))], [.one (.pl .bool)]⟩), (.norm, [], ⟨[(true, .box [.pl XNc]), (true, .arr (.int .i64))], []⟩)]⟩,
 ⟨[0, 3, 7], ⟨[(true, .arr (.int .i64))], [.one (.pl (.list XNc)), .one (.sl 0), .one (.pl (.int .i64))]⟩, [0], [(.ret, [2], ⟨[(true, .arr (.int .i64))], [.one (.pl .bool)]⟩), (.norm, [], ⟨[(true, .arr (.int .i64))], []⟩)]⟩,
 j4,
 ⟨[0, 2, 7, 8, 9], ⟨[(false, .arr XNc), (true, .arr (.int .i64)), (false, .arr (.int .i64))], [.one (.pl (.list XNc)), .one (.sl 0), .one (.sl 1), .one (.sl 2), .one (.pl (.int .i64))]⟩, [0, 1, 6], [(.norm, [2, 8], ⟨[(true, .gone), (true, .arr (.int .i64)), (true, .gone), (true, .arr XNc), (true, .arr (.int .i64))], [.one (.sl 3), .one (.sl 4)]⟩)]⟩,
 j4,
 j4,
 j4,
 j4,
 j4,
 j4,
 j4,
 j4,
 j4,
 j4,
 j4,
 j4,
 j4,
 j4,
 ⟨[1, 3, 4], ⟨[(true, .box [.pl B4]), (true, .box [.pl .bool, .pl .str, .sl 2, .pl .str, .pl (.int .i64), .sl 3, .sl 4, .sl 5]), (true, .arr D5), (true, .arr D5), (false, .arr V5), (true, .arr L1)], [.one (.ptr 0 0), .one (.ptr 1 0), .one (.pl (.int .i64))]⟩, [1, 2, 3], [(.norm, [], ⟨[(true, .box [.pl B4]), (true, .box [.pl .bool, .pl .str, .sl 2, .pl .str, .pl (.int .i64), .sl 3, .sl 6, .sl 5]), (true, .arr D5), (true, .arr D5), (true, .gone), (true, .arr L1), (true, .arr V5)], []⟩)]⟩,
 ⟨[1, 3, 5], ⟨[(true, .box [.pl B4]), (true, .box [.pl .bool, .pl .str, .sl 2, .pl .str, .pl (.int .i64), .sl 3, .sl 4, .sl 5]), (true, .arr D5), (true, .arr D5), (true, .arr V5), (false, .arr L1)], [.one (.ptr 0 0), .one (.ptr 1 0), .one (.pl (.int .i64))]⟩, [2, 3], [(.norm, [], ⟨[(true, .box [.pl B4]), (true, .box [.pl .bool, .pl .str, .sl 2, .pl .str, .pl (.int .i64), .sl 3, .sl 4, .sl 6]), (true, .arr D5), (true, .arr D5), (true, .arr V5), (true, .gone), (true, .arr L1)], []⟩)]⟩,
 ⟨[1, 5, 6, 7], ⟨[(true, .box [.pl B4]), (true, .box [.pl (.int .i64), .pl .str, .pl (.int .i64), .sl 2, .sl 3, .sl 4]), (true, .arr XNc), (true, .arr XNc), (false, .arr (.list XNc))], [.one (.ptr 0 0), .one (.pl (.int .i64)), .one (.ptr 1 0), .one (.pl (.int .i64))]⟩, [1, 3, 5, 6], [(.norm, [], ⟨[(true, .box [.pl B4]), (true, .box [.pl (.int .i64), .pl .str, .pl (.int .i64), .sl 2, .sl 3, .sl 5]), (true, .arr XNc), (true, .arr XNc), (true, .gone), (true, .arr (.list XNc))], []⟩)]⟩,
 j4,
 j4,
 ⟨[1, 3, 4], ⟨[(true, .box [.pl S7]), (true, .box [.sl 2, .pl .str, .pl .str]), (false, .arr B4)], [.one (.ptr 0 0), .one (.ptr 1 0), .one (.pl (.int .i64))]⟩, [2, 3], [(.norm, [], ⟨[(true, .box [.pl S7]), (true, .box [.sl 3, .pl .str, .pl .str]), (true, .gone), (true, .arr B4)], []⟩)]⟩,
 ⟨[2, 3, 5], ⟨[(true, .box [.pl S7]), (true, .box [.pl S7])], [.one (.ptr 0 0), .one (.ptr 1 0), .one (.pl (.int .i64))]⟩, [], [(.ret, [4], ⟨[(true, .box [.pl S7]), (true, .box [.pl S7])], [.one (.pl .bool)]⟩), (.norm, [], ⟨[(true, .box [.pl S7]), (true, .box [.pl S7])], []⟩)]⟩,
 ⟨[0, 1, 5], ⟨[], [.one (.pl (.list D5)), .one (.pl (.list D5)), .one (.pl (.int .i64))]⟩, [], [(.ret, [4], ⟨[], [.one (.pl .bool)]⟩), (.norm, [], ⟨[], []⟩)]⟩,
 ⟨[2, 3, 5], ⟨[(true, .box [.pl B4]), (true, .box [.pl B4])], [.one (.ptr 0 0), .one (.ptr 1 0), .one (.pl (.int .i64))]⟩, [2, 3], [(.ret, [4], ⟨[(true, .box [.pl B4]), (true, .box [.pl B4])], [.one (.pl .bool)]⟩), (.norm, [], ⟨[(true, .box [.pl B4]), (true, .box [.pl B4])], []⟩)]⟩,
 ⟨[0, 1, 5], ⟨[], [.one (.pl (.list XNc)), .one (.pl (.list XNc)), .one (.pl (.int .i64))]⟩, [], [(.ret, [4], ⟨[], [.one (.pl .bool)]⟩), (.norm, [], ⟨[], []⟩)]⟩,
 ⟨[2, 3, 6], ⟨[(true, .box [.pl B4]), (true, .box [.pl B4])], [.one (.ptr 0 0), .one (.ptr 1 0), .one (.pl (.int .i64))]⟩, [], [(.ret, [4], ⟨[(true, .box [.pl B4]), (true, .box [.pl B4])], [.one (.pl .bool)]⟩), (.norm, [], ⟨[(true, .box [.pl B4]), (true, .box [.pl B4])], []⟩)]⟩,
 ⟨[0, 1, 5], ⟨[], [.one (.pl (.list (.list XNc))), .one (.pl (.list (.list XNc))), .one (.pl (.int .i64))]⟩, [], [(.ret, [4], ⟨[], [.one (.pl .bool)]⟩), (.norm, [], ⟨[], []⟩)]⟩]
 lkL := [(1, [(0, 0), (2, 1), (4, 2), (6, 3)]), (3, [(0, 69)]), (4, [(0, 12), (2, 13)]), (5, [(0, 6), (2, 8)]), (7, [(0, 7)]), (10, [(0, 9)]), (12, [(0, 10)]), (13, [(0, 11)]), (27, [(0, 17)]), (31, [(0, 50)]), (38, [(0, 35)]), (39, [(0, 33)]), (40, [(0, 31)]), (42, [(0, 29)]), (43, [(0, 27)]), (47, [(0, 23)]), (50, [(0, 22)]), (56, [(0, 25)]), (62, [(0, 43), (2, 44)]), (63, [(0, 49)]), (64, [(0, 52)]), (65, [(0, 54)]), (66, [(0, 110)]), (72, [(0, 71)]), (78, [(0, 72)]), (83, [(0, 73)]), (88, [(0, 74)]), (92, [(0, 75), (2, 78)]), (97, [(0, 79)]), (99, [(0, 86), (2, 87)]), (101, [(0, 88)]), (105, [(0, 89)]), (110, [(0, 90)]), (112, [(0, 107), (2, 109)]), (113, [(0, 93)]), (115, [(0, 95)]), (124, [(0, 99)]), (131, [(0, 101)]), (132, [(0, 170), (2, 172), (4, 173), (6, 175)]), (139, [(0, 120)]), (141, [(0, 203)]), (142, [(0, 198), (2, 199), (4, 200)]), (145, [(0, 178), (2, 179), (4, 181)]), (148, [(0, 180)]), (149, [(0, 183)]), (150, [(0, 204)]), (151, [(0, 206), (2, 208)]), (152, [(0, 205)]), (153, [(0, 207)]), (154, [(0, 209)])]
 tkL := [(3, [(15, 70)]), (34, [(4, 47)]), (35, [(3, 46)]), (93, [(9, 76), (10, 77)]), (112, [(10, 106), (17, 108)]), (132, [(7, 171), (17, 174)])]
 dkL := [(0, [(9, ([], (.take 0 (.take 1 (.take 2 (.take 3 (.take 4 (.take 5 (.only 6 (.only 7 (.take 8 (.take 9 (.only 10 (.take 11 (.take 12 .done)))))))))))))))]),
 (2, [(4, ([], (.take 0 (.take 1 (.take 2 (.take 3 (.only 4 (.take 5 (.take 6 (.take 7 (.only 8 (.take 9 (.take 10 (.take 11 (.take 12 (.take 13 (.only 14 (.only 15 (.take 16 (.take 17 (.take 18 (.only 19 (.take 20 (.take 21 (.take 22 .done)))))))))))))))))))))))))]),
 (3, [(3, ([2, 3], (.take 0 (.take 1 (.only 2 (.only 3 .done)))))), (8, ([6, 7, 30], (.take 0 (.take 2 (.alt 1 (.only 3 (.only 4 (.only 5 (.take 6 (.only 7 .done))))) (.only 3 (.alt 1 (.only 4 (.only 5 (.take 6 (.only 7 .done)))) (.only 4 (.only 1 (.only 5 (.take 6 (.only 7 .done)))))))))))), (15, ([6], (.take 0 (.only 1 (.take 2 (.take 3 (.take 4 (.take 5 (.take 7 (.take 8 (.take 9 (.alt 6 (.only 10 (.take 11 (.take 12 (.take 13 .done)))) (.only 10 (.take 11 (.only 6 (.take 12 (.take 13 .done))))))))))))))))), (18, ([2, 3], (.take 0 (.take 1 (.take 2 (.take 3 (.take 4 (.only 5 (.only 6 .done)))))))))]),
 (13, [(5, ([], (.take 0 (.take 1 (.take 2 (.take 3 (.take 4 (.take 5 (.take 6 (.take 7 (.take 8 (.take 9 (.take 10 (.take 11 (.take 12 (.take 13 (.take 14 (.take 15 (.take 16 (.take 17 (.take 18 (.take 19 (.take 20 (.take 21 .done))))))))))))))))))))))))]),
 (15, [(1, ([0], (.take 0 c2p))), (3, ([], (.take 0 (.take 1 (.take 2 (.take 3 (.take 4 b4U)))))))]),
 (18, [(1, ([0], (.take 0 (.take 1 (.take 2 (.take 3 b7U))))))]),
 (22, [(1, ([0], (.take 0 c2p))), (3, ([], (.take 0 (.take 1 (.take 2 (.take 3 (.take 4 b4U)))))))]),
 (24, [(5, ([], (.take 0 (.take 1 (.take 2 (.take 3 (.take 4 (.take 5 (.take 6 (.take 7 (.take 8 (.take 9 (.take 10 (.take 11 (.take 12 .done)))))))))))))))]),
 (25, [(1, ([0], (.take 0 (.only 1 (.take 2 (.take 3 (.take 4 (.take 5 (.take 7 (.take 8 (.take 9 (.alt 6 (.only 10 (.take 11 (.take 12 (.take 13 (.take 14 (.take 15 (.take 16 (.take 17 (.take 19 c2q))))))))) (.only 10 (.take 11 (.only 6 (.take 12 (.take 13 (.take 14 (.take 15 (.take 16 (.take 17 (.take 19 c2q))))))))))))))))))))))]),
 (26, [(1, ([0], (.take 0 (.take 1 (.take 2 (.take 3 b7U))))))]),
 (34, [(3, ([], (.take 0 (.take 1 (.take 2 (.take 3 (.take 4 (.take 5 (.take 6 (.take 7 (.alt 8 (.take 9 (.take 10 (.take 11 (.take 12 (.only 13 a5Z))))) (.only 13 (.only 8 (.take 9 (.take 10 (.take 11 (.take 12 a5Z)))))))))))))))))]),
 (35, [(6, ([6], (.take 0 (.take 1 (.take 2 (.take 3 (.take 4 (.take 5 (.only 6 .done))))))))), (11, ([6], (.take 0 (.take 1 (.take 2 (.take 3 (.take 4 (.take 5 (.take 6 (.take 7 (.only 8 .done)))))))))))]),
 (44, [(5, ([], (.take 0 (.take 1 (.take 2 (.take 3 (.take 4 (.take 5 (.take 6 (.take 7 (.take 8 (.take 9 .done)))))))))))), (8, ([], (.take 0 (.take 1 (.take 2 (.take 3 (.take 4 b4U)))))))]),
 (45, [(2, ([0], (.take 0 (.take 1 (.take 2 (.take 3 b7U))))))]),
 (55, [(1, ([], (.take 0 (.take 1 (.take 2 (.take 3 (.take 4 (.take 5 (.take 6 (.take 7 (.take 8 (.take 9 (.take 10 (.take 11 (.take 12 (.take 13 (.take 14 (.take 15 (.take 16 (.take 17 .done)))))))))))))))))))), (3, ([], (.take 0 (.take 1 (.take 2 (.take 3 (.take 4 b4U)))))))]),
 (59, [(2, ([], (.take 0 (.take 1 (.take 2 (.take 3 (.take 4 (.take 5 (.take 6 (.take 7 (.take 8 (.take 9 (.take 10 (.take 11 (.take 12 (.take 13 (.take 14 (.take 15 (.take 16 (.take 17 (.take 18 (.take 19 (.take 20 (.take 21 (.take 22 (.take 23 (.take 24 (.take 25 (.take 26 (.take 27 (.take 28 (.take 29 (.take 30 (.take 31 (.take 32 (.take 33 (.take 34 (.take 35 (.only 36 (.take 37 (.take 38 .done))))))))))))))))))))))))))))))))))))))))), (4, ([], (.take 0 (.take 1 (.take 2 (.take 3 (.take 4 (.take 5 (.take 6 (.take 7 (.take 8 (.take 9 (.take 10 (.only 11 (.take 12 .done)))))))))))))))]),
 (62, [(11, ([3], (.take 0 (.take 1 (.take 2 (.take 3 (.take 4 (.take 6 (.take 7 (.take 8 (.take 9 (.take 10 (.take 11 (.alt 5 (.only 12 (.take 13 a5Z)) (.only 12 (.take 13 (.only 5 a5Z)))))))))))))))))]),
 (93, [(9, ([], (.take 0 (.take 1 (.take 2 (.take 3 (.take 4 (.take 5 (.take 6 (.take 7 (.alt 8 (.alt 9 (.only 10 (.only 11 .done)) (.only 10 (.only 9 (.only 11 .done)))) (.only 10 (.only 8 (.only 9 (.only 11 .done)))))))))))))))]),
 (95, [(2, ([2], (.take 0 (.take 1 (.take 2 (.take 3 (.take 4 (.take 5 (.take 6 (.only 7 (.take 8 (.only 9 .done))))))))))))]),
 (99, [(9, ([3], (.take 0 (.take 1 (.take 2 (.take 3 (.take 4 (.take 6 (.take 7 (.take 8 (.alt 5 (.only 9 (.take 10 (.take 11 (.only 12 .done)))) (.only 9 (.only 5 (.take 10 (.take 11 (.only 12 .done))))))))))))))))]),
 (120, [(2, ([], (.take 0 (.take 1 (.take 2 (.take 3 (.take 4 (.take 5 (.take 6 .done)))))))))]),
 (132, [(6, ([20], (.take 0 (.take 1 (.take 2 (.take 3 (.take 4 (.take 5 (.take 6 (.take 9 (.take 10 (.take 11 (.take 14 (.take 15 (.take 16 (.take 19 (.take 20 (.take 21 (.alt 7 (.alt 8 (.alt 12 (.alt 13 (.alt 17 b4T (.only 22 (.only 17 a9F))) (.alt 17 a1w (.only 22 a1v))) (.alt 17 (.alt 12 a1w (.only 22 (.only 12 Y5))) (.only 22 (.alt 12 a1v (.only 17 (.only 12 Y5)))))) (.alt 12 (.alt 8 (.alt 13 (.alt 17 b4T (.only 22 (.only 17 a9F))) (.alt 17 a1w (.only 22 a1v))) (.alt 17 (.alt 8 a1w (.only 22 I8)) (.only 22 (.alt 8 a1v (.only 17 I8))))) (.alt 17 (.alt 8 (.alt 12 a1w (.only 22 (.only 12 Y5))) (.alt 12 (.alt 8 a1w (.only 22 I8)) (.only 22 (.alt 8 (.only 12 Y5) (.only 12 I8))))) (.only 22 (.alt 8 (.alt 12 a1v (.only 17 (.only 12 Y5))) (.alt 12 (.alt 8 a1v (.only 17 I8)) (.only 17 (.alt 8 (.only 12 Y5) (.only 12 I8))))))))) (.alt 12 (.alt 7 (.alt 8 (.alt 13 (.alt 17 b4T (.only 22 (.only 17 a9F))) (.alt 17 a1w (.only 22 a1v))) (.alt 17 (.alt 8 a1w (.only 22 I8)) (.only 22 (.alt 8 a1v (.only 17 I8))))) (.alt 17 (.alt 7 (.alt 8 a1w (.only 22 I8)) (.only 22 (.only 7 I8))) (.only 22 (.alt 7 (.alt 8 a1v (.only 17 I8)) (.only 17 (.only 7 I8)))))) (.alt 17 (.alt 7 (.alt 8 (.alt 12 a1w (.only 22 (.only 12 Y5))) (.alt 12 (.alt 8 a1w (.only 22 I8)) (.only 22 (.alt 8 (.only 12 Y5) (.only 12 I8))))) (.alt 12 (.alt 7 (.alt 8 a1w (.only 22 I8)) (.only 22 (.only 7 I8))) (.only 22 (.alt 7 (.alt 8 (.only 12 Y5) (.only 12 I8)) (.only 12 (.only 7 I8)))))) (.only 22 (.alt 7 (.alt 8 (.alt 12 a1v (.only 17 (.only 12 Y5))) (.alt 12 (.alt 8 a1v (.only 17 I8)) (.only 17 (.alt 8 (.only 12 Y5) (.only 12 I8))))) (.alt 12 (.alt 7 (.alt 8 a1v (.only 17 I8)) (.only 17 (.only 7 I8))) (.only 17 (.alt 7 (.alt 8 (.only 12 Y5) (.only 12 I8)) (.only 12 (.only 7 I8)))))))))))))))))))))))))))), (10, ([4], (.take 0 (.take 1 (.take 2 (.take 4 (.take 5 (.take 6 (.take 7 (.take 9 (.alt 3 (.only 8 (.take 10 (.take 11 (.only 12 (.only 13 a5Z))))) (.only 8 (.take 10 (.take 11 (.alt 3 (.only 12 (.only 13 a5Z)) (.only 12 (.alt 3 (.only 13 a5Z) (.only 13 (.only 3 a5Z))))))))))))))))))), (16, ([91], (.take 0 (.take 1 (.take 2 (.take 3 (.take 4 (.take 5 (.take 8 (.take 9 (.take 10 (.take 13 (.take 14 (.take 15 (.alt 6 (.alt 7 (.alt 11 (.alt 12 (.only 16 Y6) (.only 16 (.only 12 Y6))) (.only 16 (.only 11 (.only 12 Y6)))) (.alt 11 (.alt 7 (.alt 12 (.only 16 Y6) (.only 16 (.only 12 Y6))) (.only 16 (.only 7 (.only 12 Y6)))) (.only 16 (.alt 7 (.only 11 (.only 12 Y6)) (.only 11 (.only 7 (.only 12 Y6))))))) (.alt 11 (.alt 6 (.alt 7 (.alt 12 (.only 16 Y6) (.only 16 (.only 12 Y6))) (.only 16 (.only 7 (.only 12 Y6)))) (.only 16 (.only 6 (.only 7 (.only 12 Y6))))) (.only 16 (.alt 6 (.alt 7 (.only 11 (.only 12 Y6)) (.only 11 (.only 7 (.only 12 Y6)))) (.only 11 (.only 6 (.only 7 (.only 12 Y6)))))))))))))))))))))), (20, ([7], (.take 0 (.take 1 (.take 2 (.take 4 (.take 5 (.take 6 (.take 7 (.take 9 (.alt 3 (.only 8 (.take 10 (.only 11 (.only 12 (.take 13 (.only 14 .done)))))) (.only 8 (.take 10 (.alt 3 (.only 11 (.only 12 (.take 13 (.only 14 .done)))) (.only 11 (.alt 3 (.only 12 (.take 13 (.only 14 .done))) (.only 12 (.only 3 (.take 13 (.only 14 .done))))))))))))))))))))]),
 (141, [(5, ([3], (.take 0 (.take 2 (.take 3 (.take 4 (.take 5 (.take 6 (.alt 1 (.only 7 (.only 8 (.only 9 (.take 10 (.only 11 .done))))) (.only 7 (.alt 1 (.only 8 (.only 9 (.take 10 (.only 11 .done)))) (.only 8 (.only 1 (.only 9 (.take 10 (.only 11 .done))))))))))))))))]),
 (142, [(9, ([3], (.take 0 (.take 2 (.take 3 (.take 4 (.take 5 (.take 6 (.take 7 (.take 8 (.take 9 (.take 10 (.take 11 (.take 12 (.take 13 (.alt 1 (.only 14 (.take 15 (.only 16 (.only 17 (.take 18 (.only 19 .done)))))) (.only 14 (.take 15 (.alt 1 (.only 16 (.only 17 (.take 18 (.only 19 .done)))) (.only 16 (.only 1 (.only 17 (.take 18 (.only 19 .done)))))))))))))))))))))))), (20, ([6], (.take 0 (.take 2 (.take 3 (.take 4 (.take 5 (.take 6 (.take 7 (.take 8 (.take 9 (.take 10 (.alt 1 (.only 11 (.only 12 (.only 13 (.take 14 (.only 15 .done))))) (.only 11 (.alt 1 (.only 12 (.only 13 (.take 14 (.only 15 .done)))) (.only 12 (.only 1 (.only 13 (.take 14 (.only 15 .done))))))))))))))))))))]),
 (150, [(6, ([], (.take 0 (.take 1 (.take 2 (.take 3 (.take 4 (.take 5 (.take 6 (.take 7 (.take 8 (.take 9 (.only 10 (.take 11 .done))))))))))))))]),
 (151, [(6, ([], (.take 0 (.take 1 (.take 2 (.take 3 (.take 4 (.take 5 (.take 6 (.take 7 (.take 8 (.take 9 (.take 10 (.take 11 (.take 12 (.take 13 (.take 14 (.take 15 (.take 16 (.take 17 (.take 18 (.take 19 (.take 20 (.take 21 (.take 22 (.take 23 (.take 24 (.take 25 (.only 26 (.take 27 (.take 28 .done)))))))))))))))))))))))))))))))]),
 (152, [(6, ([], (.take 0 (.take 1 (.take 2 (.take 3 (.take 4 (.take 5 (.take 6 (.take 7 (.take 8 .done)))))))))))]),
 (153, [(6, ([], (.take 0 (.take 1 (.take 2 (.take 3 (.take 4 (.take 5 (.take 6 (.take 7 (.take 8 .done)))))))))))]),
 (154, [(6, ([], (.take 0 (.take 1 (.take 2 (.take 3 (.take 4 (.take 5 (.take 6 (.take 7 (.only 8 (.take 9 .done))))))))))))]),
 (156, [(4, ([], (.take 0 (.take 2 (.only 1 (.only 3 (.take 4 (.take 5 (.take 6 (.take 7 (.take 8 (.take 9 (.take 10 (.take 11 (.take 12 (.take 13 .done)))))))))))))))), (6, ([], (.take 0 (.only 1 (.take 2 (.take 3 (.take 4 (.take 6 (.only 5 (.only 7 (.take 8 (.take 9 (.take 10 (.only 11 (.take 12 (.take 13 .done))))))))))))))))]),
 (157, [(3, ([], (.take 0 (.take 2 (.take 5 (.take 7 (.only 1 (.only 3 (.take 4 (.only 6 (.only 8 (.only 9 (.take 10 (.take 11 (.only 12 (.take 13 (.take 14 .done)))))))))))))))))])]
 fnumL := [4, 9, 10, 18, 36, 81, 71, 111, 69, 112, 70, 106, 26, 113, 145, 37, 43, 38, 44, 88, 39, 42, 37, 43, 41, 87, 44, 82, 40, 38, 84, 83, 114, 115, 116, 147, 160, 165, 169, 176, 184, 188, 189, 190, 191, 192, 193, 171, 177, 136, 178, 185, 159, 194, 166, 170, 199, 197, 195, 196, 198, 167, 138, 146, 85, 86, 11, 13, 23, 57, 59, 60, 96, 125, 154, 126, 24, 61, 97, 62, 25, 63, 98, 127, 99, 64, 65, 100, 128, 101, 66, 102, 108, 139, 140, 143, 141, 157, 142, 158, 130, 155, 129, 67, 103, 131, 104, 68, 105, 132, 156, 133, 19, 20, 45, 47, 48, 46, 49, 90, 117, 148, 161, 150, 149, 151, 163, 152, 153, 164, 21, 89, 16, 29, 30, 31, 32, 33, 79, 109, 34, 17, 35, 80, 110, 107, 134, 135, 137, 144, 15, 28, 76, 77, 78, 5, 6, 7, 8]
 fnL := [Tryz.f4, Tryz.f9, Tryz.f10, Tryz.f18, Tryz.f36, Tryz.f81, Tryz.f71, Tryz.f111, Tryz.f69, Tryz.f112, Tryz.f70, Tryz.f106, Tryz.f26, Tryz.f113, Tryz.f145, Tryz.f37, Tryz.f43, Tryz.f38, Tryz.f44, Tryz.f88, Tryz.f39, Tryz.f42, Tryz.f37, Tryz.f43, Tryz.f41, Tryz.f87, Tryz.f44, Tryz.f82, Tryz.f40, Tryz.f38, Tryz.f84, Tryz.f83, Tryz.f114, Tryz.f115, Tryz.f116, Tryz.f147, Tryz.f160, Tryz.f165, Tryz.f169, Tryz.f176, Tryz.f184, Tryz.f188, Tryz.f189, Tryz.f190, Tryz.f191, Tryz.f192, Tryz.f193, Tryz.f171, Tryz.f177, Tryz.f136, Tryz.f178, Tryz.f185, Tryz.f159, Tryz.f194, Tryz.f166, Tryz.f170, Tryz.f199, Tryz.f197, Tryz.f195, Tryz.f196, Tryz.f198, Tryz.f167, Tryz.f138, Tryz.f146, Tryz.f85, Tryz.f86, Tryz.f11, Tryz.f13, Tryz.f23, Tryz.f57, Tryz.f59, Tryz.f60, Tryz.f96, Tryz.f125, Tryz.f154, Tryz.f126, Tryz.f24, Tryz.f61, Tryz.f97, Tryz.f62, Tryz.f25, Tryz.f63, Tryz.f98, Tryz.f127, Tryz.f99, Tryz.f64, Tryz.f65, Tryz.f100, Tryz.f128, Tryz.f101, Tryz.f66, Tryz.f102, Tryz.f108, Tryz.f139, Tryz.f140, Tryz.f143, Tryz.f141, Tryz.f157, Tryz.f142, Tryz.f158, Tryz.f130, Tryz.f155, Tryz.f129, Tryz.f67, Tryz.f103, Tryz.f131, Tryz.f104, Tryz.f68, Tryz.f105, Tryz.f132, Tryz.f156, Tryz.f133, Tryz.f19, Tryz.f20, Tryz.f45, Tryz.f47, Tryz.f48, Tryz.f46, Tryz.f49, Tryz.f90, Tryz.f117, Tryz.f148, Tryz.f161, Tryz.f150, Tryz.f149, Tryz.f151, Tryz.f163, Tryz.f152, Tryz.f153, Tryz.f164, Tryz.f21, Tryz.f89, Tryz.f16, Tryz.f29, Tryz.f30, Tryz.f31, Tryz.f32, Tryz.f33, Tryz.f79, Tryz.f109, Tryz.f34, Tryz.f17, Tryz.f35, Tryz.f80, Tryz.f110, Tryz.f107, Tryz.f134, Tryz.f135, Tryz.f137, Tryz.f144, Tryz.f15, Tryz.f28, Tryz.f76, Tryz.f77, Tryz.f78, Tryz.f5, Tryz.f6, Tryz.f7, Tryz.f8]
 placeL := [(1, [true, true, false, true]), (1, [true, true, false, true, false, false, true, false, false, true, true, false, true]), (1, [true, true, false, true, false, false, true, false, false, true, true, true, true]), (1, [true, true, false, true, false, false, true, false, false, true, true, true, true, false, false, true, false, false, true, true, true]), (0, []), (0, []), (5, [true, true, false, true, false, false]), (7, [true, true, false, true]), (5, [true, true, true, false, true, false, false]), (10, [true, true, false, true]), (12, [true, true, false, true]), (13, [true, true, false, true]), (4, [true, true, true, true, false]), (4, [true, true, true, true, false, false, false, true, false, true, false, true, false, false]), (0, []), (0, []), (0, []), (27, [true, true, true, true, false]), (0, []), (0, []), (0, []), (0, []), (50, [true, true, false, true]), (47, [true, true, true, true, true, true, true, false, true]), (0, []), (56, [true, true, true, false]), (0, []), (43, [true, true, false]), (0, []), (42, [true, true, false]), (0, []), (40, [true, true, false]), (0, []), (39, [true, true, false]), (0, []), (38, [true, true, false]), (0, []), (0, []), (0, []), (0, []), (0, []), (0, []), (0, []), (62, [true, true, false, true]), (62, [true, true, false, true, false, false, true, false, false, true, true, true]), (0, []), (35, [true, true]), (34, [true, true, true]), (0, []), (63, [true, true, true, true, false]), (31, [true, true, false]), (0, []), (64, [true, true, false]), (0, []), (65, [true, true, false]), (0, []), (0, []), (0, []), (0, []), (0, []), (0, []), (0, []), (0, []), (0, []), (0, []), (0, []), (0, []), (0, []), (0, []), (3, [true, true, true, true, true, false]), (3, [true, true, true, true, true, true, true, true, true, true]), (72, [true, true, true, false]), (78, [true, false, true]), (83, [true, false, true]), (88, [true, false, true]), (92, [true, true, true, false, true]), (93, [true, true, true]), (93, [true, true, true, true]), (92, [true, true, true, false, true, false, false, true, true, false, false, true, true, true]), (97, [true, false, true]), (0, []), (0, []), (0, []), (0, []), (0, []), (0, []), (99, [true, true, false, true]), (99, [true, true, false, true, false, false, true, true, false, false, true, false, true]), (101, [true, false, true]), (105, [true, false, true]), (110, [true, false, true]), (0, []), (0, []), (113, [true]), (0, []), (115, [true]), (0, []), (0, []), (0, []), (124, [true]), (0, []), (131, [true]), (0, []), (0, []), (0, []), (0, []), (112, [true, true]), (112, [true, true, false, true]), (112, [true, true, true, true]), (112, [true, true, true, true, true, true, true, false, true]), (66, [true, true, true, false, true]), (0, []), (0, []), (0, []), (0, []), (0, []), (0, []), (0, []), (0, []), (0, []), (139, [true, true, false, true]), (0, []), (0, []), (0, []), (0, []), (0, []), (0, []), (0, []), (0, []), (0, []), (0, []), (0, []), (0, []), (0, []), (0, []), (0, []), (0, []), (0, []), (0, []), (0, []), (0, []), (0, []), (0, []), (0, []), (0, []), (0, []), (0, []), (0, []), (0, []), (0, []), (0, []), (0, []), (0, []), (0, []), (0, []), (0, []), (0, []), (0, []), (0, []), (0, []), (0, []), (0, []), (0, []), (0, []), (0, []), (0, []), (0, []), (0, []), (0, []), (0, []), (132, [true, true, false, true]), (132, [true, true, false, true, false, false, true, true, false, false, true, true, true]), (132, [true, true, false, true, false, false, true, true, false, false, true, true, true, false, true]), (132, [true, true, false, true, false, false, true, true, false, false, true, true, true, true, true]), (132, [true, true, false, true, false, false, true, true, false, false, true, true, true, true, true, false, false, true, true, false, false, true, true, true]), (132, [true, true, false, true, false, false, true, true, false, false, true, true, true, true, true, false, false, true, true, false, false, true, true, true, true]), (0, []), (0, []), (145, [true, true, true, false, true]), (145, [true, true, true, false, true, false, false, true, false, false, true, true, false, true]), (148, [true, true, true, false, true]), (145, [true, true, true, true, false, true]), (0, []), (149, [true, true, true, false, true]), (0, []), (0, []), (0, []), (0, []), (0, []), (0, []), (0, []), (0, []), (0, []), (0, []), (0, []), (0, []), (0, []), (0, []), (142, [true, true, true, true, true, true, false, true]), (142, [true, true, true, true, true, true, true, false, true]), (142, [true, true, true, true, true, true, true, false, true, false, false, true, false, false, true, true, true, true, false, true]), (0, []), (0, []), (141, [true, true, false, true]), (150, [true, true, false, true]), (152, [true, true, false, true]), (151, [true, true, false, true]), (153, [true, true, false, true]), (151, [true, true, true, false, true]), (154, [true, true, false, true])] }
def xf : b7b.tb.RF := fun φ => match φ with
 | 69 => fun (d : List UInt8) => (fun (d1 : List UInt8) => (
    some (a2v d1) : Option (List UInt8))) d
 | 123 => fun (d : Int) => (fun (d1 : Int) => (
    bif a5v d1 then
     some (J9 d1)
    else
     none : Option (List UInt8))) d
 | 130 => fun (d : List XK) => (fun (d1 : List XK) => (
    bif Nat.ble (C1 d1).length v8 then
     some (C1 d1)
    else
     none : Option (List UInt8))) d
 | _ => fun _ => none
def T : Tbl := b7b.tbl xf
def U0 {A : Type} (f : A) (_ : Unit) : A := f
def U2 {A B R : Type} (f : A → B → R) (d : A × B) : R := f d.1 d.2
def U3 {A0 A1 A2 R : Type} (f : A0 → A1 → A2 → R) (d : A0 × A1 × A2) : R := U2 (f d.1) d.2
def U4 {A0 A1 A2 A3 R : Type} (f : A0 → A1 → A2 → A3 → R) (d : A0 × A1 × A2 × A3) : R := U3 (f d.1) d.2
def U5 {A0 A1 A2 A3 A4 R : Type} (f : A0 → A1 → A2 → A3 → A4 → R) (d : A0 × A1 × A2 × A3 × A4) : R := U4 (f d.1) d.2
def U6 {A0 A1 A2 A3 A4 A5 R : Type} (f : A0 → A1 → A2 → A3 → A4 → A5 → R) (d : A0 × A1 × A2 × A3 × A4 × A5) : R := U5 (f d.1) d.2
def U7 {A0 A1 A2 A3 A4 A5 A6 R : Type} (f : A0 → A1 → A2 → A3 → A4 → A5 → A6 → R) (d : A0 × A1 × A2 × A3 × A4 × A5 × A6) : R := U6 (f d.1) d.2
def U8 {A0 A1 A2 A3 A4 A5 A6 A7 R : Type} (f : A0 → A1 → A2 → A3 → A4 → A5 → A6 → A7 → R) (d : A0 × A1 × A2 × A3 × A4 × A5 × A6 × A7) : R := U7 (f d.1) d.2
def U9 {A0 A1 A2 A3 A4 A5 A6 A7 A8 R : Type} (f : A0 → A1 → A2 → A3 → A4 → A5 → A6 → A7 → A8 → R) (d : A0 × A1 × A2 × A3 × A4 × A5 × A6 × A7 × A8) : R := U8 (f d.1) d.2
def U10 {A0 A1 A2 A3 A4 A5 A6 A7 A8 A9 R : Type} (f : A0 → A1 → A2 → A3 → A4 → A5 → A6 → A7 → A8 → A9 → R) (d : A0 × A1 × A2 × A3 × A4 × A5 × A6 × A7 × A8 × A9) : R := U9 (f d.1) d.2
def U11 {A0 A1 A2 A3 A4 A5 A6 A7 A8 A9 A10 R : Type} (f : A0 → A1 → A2 → A3 → A4 → A5 → A6 → A7 → A8 → A9 → A10 → R) (d : A0 × A1 × A2 × A3 × A4 × A5 × A6 × A7 × A8 × A9 × A10) : R := U10 (f d.1) d.2
def U12 {A0 A1 A2 A3 A4 A5 A6 A7 A8 A9 A10 A11 R : Type} (f : A0 → A1 → A2 → A3 → A4 → A5 → A6 → A7 → A8 → A9 → A10 → A11 → R) (d : A0 × A1 × A2 × A3 × A4 × A5 × A6 × A7 × A8 × A9 × A10 × A11) : R := U11 (f d.1) d.2
def U13 {A0 A1 A2 A3 A4 A5 A6 A7 A8 A9 A10 A11 A12 R : Type} (f : A0 → A1 → A2 → A3 → A4 → A5 → A6 → A7 → A8 → A9 → A10 → A11 → A12 → R) (d : A0 × A1 × A2 × A3 × A4 × A5 × A6 × A7 × A8 × A9 × A10 × A11 × A12) : R := U12 (f d.1) d.2
abbrev EqF (f : Nat) (X : T.RF → T.RB → (T.kin f).ct.denote → Option (P9 (T.kouts f)).denote) : Prop := ∀ rf rb d, X rf rb d = T.a3D rf rb f d
abbrev EqB (f : Nat) (X : T.RF → T.RB → (T.bk f).ins.ct.denote → Option (J6 (T.bk f).exits).denote) : Prop := ∀ rf rb d, X rf rb d = T.a1D rf rb f d
theorem EqF.o {f X} (e : EqF f X) {d y} (h : X T.rf T.rb d = some y) : T.rf f d = some y := T.c4c ((e _ _ d).symm.trans h)
theorem EqB.o {f X} (e : EqB f X) {d y} (h : X T.rf T.rb d = some y) : T.rb f d = some y := T.c4b ((e _ _ d).symm.trans h)
def c0 (rf : T.RF) (d1 : XPg) : Option Bool := rf 0 d1
def c1 (rf : T.RF) (d1 : XPg) : Option Bool := rf 1 d1
def c2 (rf : T.RF) : Option Bool := rf 2 ()
def c3 (rf : T.RF) (d1 : List UInt8) : Option (XPg × Int × Int) := rf 3 d1
def c4 (rf : T.RF) (d1 : List UInt8) : Option (List XK × Int × Int) := rf 4 d1
def c5 (rf : T.RF) (d1 : List UInt8) (d2 : Int) : Option (XK × Int) := rf 5 (d1, d2)
def c6 (rf : T.RF) (d1 : Int) : Option Bool := rf 6 d1
def c7 (rf : T.RF) (d1 : List UInt8) : Option Int := rf 7 d1
def c8 (rf : T.RF) (d1 : Int) : Option Bool := rf 8 d1
def c9 (rf : T.RF) (d1 : List UInt8) (d2 : Int) : Option (XK × Int) := rf 9 (d1, d2)
def c10 (rf : T.RF) (d1 : List UInt8) : Option Bool := rf 10 d1
def c11 (rf : T.RF) : Option (List (List UInt8)) := rf 11 ()
def c12 (rf : T.RF) (d1 : List UInt8) : Option Bool := rf 12 d1
def c13 (rf : T.RF) (d1 : List UInt8) : Option (List UInt8) := rf 13 d1
def c14 (rf : T.RF) : Option (List (List UInt8)) := rf 14 ()
def c16 (rf : T.RF) (d1 : Int) (d2 : Int) (d3 : Int) (d4 : List XK) : Option (Int × Int × Int × List XK × Bool) := rf 16 (d1, d2, d3, d4)
def c18 (rf : T.RF) (d1 : Int) (d2 : Int) (d3 : Int) (d4 : List XK) (d5 : Int) : Option XR := rf 18 (d1, d2, d3, d4, d5)
def c19 (rf : T.RF) (d1 : List XK) (d2 : Int) : Option Int := rf 19 (d1, d2)
def c20 (rf : T.RF) (d1 : XR) : Option (XR × XUn) := rf 20 d1
def c21 (rf : T.RF) (d1 : XR) (d2 : List UInt8) : Option (XR × Bool) := rf 21 (d1, d2)
def c22 (rf : T.RF) (d1 : XR) (d2 : List UInt8) : Option (XR × Bool) := rf 22 (d1, d2)
def c23 (rf : T.RF) (d1 : XR) : Option (XR × Bool) := rf 23 d1
def c24 (rf : T.RF) (d1 : XR) : Option (XR × List UInt8) := rf 24 d1
def c25 (rf : T.RF) (d1 : XR) : Option (XR × Bool) := rf 25 d1
def c26 (rf : T.RF) (d1 : XR) (d2 : Int) : Option XR := rf 26 (d1, d2)
def c27 (rf : T.RF) (d1 : XR) : Option (XR × List XPm) := rf 27 d1
def c28 (rf : T.RF) (d1 : XR) (d2 : List UInt8) : Option XR := rf 28 (d1, d2)
def c29 (rf : T.RF) (d1 : XR) (d2 : Int) : Option XR := rf 29 (d1, d2)
def c30 (rf : T.RF) (d1 : XR) : Option (XR × XPm) := rf 30 d1
def c31 (rf : T.RF) (d1 : XR) : Option (XR × List XIt) := rf 31 d1
def c32 (rf : T.RF) (d1 : XR) : Option (XR × Bool) := rf 32 d1
def c33 (rf : T.RF) (d1 : XR) : Option (XR × XIt × Bool) := rf 33 d1
def c34 (rf : T.RF) (d1 : XR) : Option (XR × List XN) := rf 34 d1
def c35 (rf : T.RF) (d1 : List XK) (d2 : Int) : Option (List XN × Int × Int × Int) := rf 35 (d1, d2)
def c36 (rf : T.RF) (d1 : XS) : Option (XS × List XN) := rf 36 d1
def c37 (rf : T.RF) (d1 : XS) : Option (XS × List XN) := rf 37 d1
def c38 (rf : T.RF) (d1 : XS) : Option (XS × List XN) := rf 38 d1
def c39 (rf : T.RF) (d1 : XS) : Option (XS × List XN) := rf 39 d1
def c40 (rf : T.RF) (d1 : XS) : Option (XS × List XN) := rf 40 d1
def c41 (rf : T.RF) (d1 : XS) : Option (XS × List XN) := rf 41 d1
def c42 (rf : T.RF) (d1 : XS) : Option (XS × List XN) := rf 42 d1
def c43 (rf : T.RF) (d1 : XS) : Option (XS × List XN) := rf 43 d1
def c44 (rf : T.RF) (d1 : XS) : Option (XS × List XN) := rf 44 d1
def c45 (rf : T.RF) (d1 : XS) (d2 : Int) : Option (XS × List XN) := rf 45 (d1, d2)
def c46 (rf : T.RF) (d1 : XS) (d2 : XK) : Option (XS × List XN) := rf 46 (d1, d2)
def c47 (rf : T.RF) (d1 : Int) (d2 : Int) (d3 : List UInt8) (d4 : List (List XN)) : Option (List XN) := rf 47 (d1, d2, d3, d4)
def c48 (rf : T.RF) (d1 : Int) (d2 : Int) (d3 : List UInt8) : Option XN := rf 48 (d1, d2, d3)
def c49 (rf : T.RF) (d1 : XN) : Option (List Int) := rf 49 d1
def c50 (rf : T.RF) (d1 : List XN) (d2 : List XN) : Option (List XN) := rf 50 (d1, d2)
def c51 (rf : T.RF) (d1 : XN) (d2 : Int) : Option XN := rf 51 (d1, d2)
def c52 (rf : T.RF) (d1 : XN) (d2 : List Int) : Option XN := rf 52 (d1, d2)
def c53 (rf : T.RF) (d1 : XS) (d2 : List UInt8) : Option (XS × List XN) := rf 53 (d1, d2)
def c54 (rf : T.RF) (d1 : XS) (d2 : List UInt8) : Option (XS × Bool) := rf 54 (d1, d2)
def c55 (rf : T.RF) (d1 : XS) (d2 : List UInt8) : Option (XS × Bool) := rf 55 (d1, d2)
def c56 (rf : T.RF) (d1 : XS) : Option (XS × List (List XN)) := rf 56 d1
def c57 (rf : T.RF) (d1 : XS) (d2 : List UInt8) : Option XS := rf 57 (d1, d2)
def c58 (rf : T.RF) (d1 : List UInt8) : Option Int := rf 58 d1
def c59 (rf : T.RF) (d1 : XS) : Option (XS × List XN) := rf 59 d1
def c60 (rf : T.RF) (d1 : XS) : Option (XS × List XN) := rf 60 d1
def c61 (rf : T.RF) (d1 : XS) (d2 : Int) (d3 : List XN) (d4 : List XN) : Option (XS × List XN) := rf 61 (d1, d2, d3, d4)
def c62 (rf : T.RF) (d1 : List XN) : Option Int := rf 62 d1
def c63 (rf : T.RF) (d1 : XR) : Option (XR × List (List XN)) := rf 63 d1
def c64 (rf : T.RF) (d1 : XR) : Option (XR × List XPm) := rf 64 d1
def c65 (rf : T.RF) (d1 : XR) : Option (XR × List XEq) := rf 65 d1
def c66 (rf : T.RF) (d1 : XPg) : Option (List UInt8) := rf 66 d1
def c67 (rf : T.RF) (d1 : XPg) : Option Bool := rf 67 d1
def c68 (rf : T.RF) (d1 : List UInt8) : Option Bool := rf 68 d1
def c69 (rf : T.RF) (d1 : List UInt8) : Option (List UInt8) := rf 69 d1
def c70 (rf : T.RF) (d1 : Int) : Option Bool := rf 70 d1
def c71 (rf : T.RF) (d1 : List UInt8) : Option Bool := rf 71 d1
def c72 (rf : T.RF) (d1 : List (List UInt8)) (d2 : List UInt8) : Option (Int × Bool) := rf 72 (d1, d2)
def c73 (rf : T.RF) (d1 : List UInt8) (d2 : List UInt8) : Option Bool := rf 73 (d1, d2)
def c74 (rf : T.RF) (d1 : List UInt8) : Option Bool := rf 74 d1
def c75 (rf : T.RF) (d1 : List UInt8) : Option Bool := rf 75 d1
def c76 (rf : T.RF) (d1 : List XUn) : Option Bool := rf 76 d1
def c77 (rf : T.RF) (d1 : List XUn) : Option Bool := rf 77 d1
def c78 (rf : T.RF) (d1 : List XUn) : Option Int := rf 78 d1
def c79 (rf : T.RF) (d1 : XUn) : Option Bool := rf 79 d1
def c80 (rf : T.RF) (d1 : XUn) : Option Bool := rf 80 d1
def c81 (rf : T.RF) (d1 : List XPm) : Option Bool := rf 81 d1
def c82 (rf : T.RF) (d1 : List XPm) : Option Bool := rf 82 d1
def c83 (rf : T.RF) (d1 : List XPm) : Option Int := rf 83 d1
def c84 (rf : T.RF) (d1 : XPm) : Option Bool := rf 84 d1
def c85 (rf : T.RF) (d1 : XPm) : Option Bool := rf 85 d1
def c86 (rf : T.RF) (d1 : List XEq) : Option Bool := rf 86 d1
def c87 (rf : T.RF) (d1 : List XEq) : Option Bool := rf 87 d1
def c88 (rf : T.RF) (d1 : List XEq) : Option Int := rf 88 d1
def c89 (rf : T.RF) (d1 : XEq) : Option Bool := rf 89 d1
def c90 (rf : T.RF) (d1 : XEq) : Option Bool := rf 90 d1
def c91 (rf : T.RF) (d1 : List XN) : Option Bool := rf 91 d1
def c92 (rf : T.RF) (d1 : List XN) : Option Bool := rf 92 d1
def c93 (rf : T.RF) (d1 : XN) : Option Bool := rf 93 d1
def c94 (rf : T.RF) (d1 : XN) : Option (List Int) := rf 94 d1
def c95 (rf : T.RF) (d1 : XN) (d2 : List Int) : Option XN := rf 95 (d1, d2)
def c96 (rf : T.RF) (d1 : List Bool) (d2 : Bool) : Option Bool := rf 96 (d1, d2)
def c97 (rf : T.RF) (d1 : List Bool) (d2 : Bool) : Option Int := rf 97 (d1, d2)
def c98 (rf : T.RF) (d1 : List XN) : Option Int := rf 98 d1
def c99 (rf : T.RF) (d1 : List XN) : Option (List Int) := rf 99 d1
def c4O (rf : T.RF) (d1 : List XN) : Option Bool := rf 100 d1
def c0A (rf : T.RF) (d1 : List XN) : Option Int := rf 101 d1
def c4P (rf : T.RF) (d1 : XN) : Option Bool := rf 102 d1
def c4Q (rf : T.RF) (d1 : List XIt) : Option Bool := rf 103 d1
def c4R (rf : T.RF) (d1 : List XIt) : Option Bool := rf 104 d1
def c0B (rf : T.RF) (d1 : List XIt) : Option Int := rf 105 d1
def c4S (rf : T.RF) (d1 : XIt) : Option Bool := rf 106 d1
def b7N (rf : T.RF) (d1 : XIt) : Option Bool := rf 107 d1
def b6d (rf : T.RF) (d1 : List (List XN)) : Option Bool := rf 108 d1
def c4T (rf : T.RF) (d1 : List (List XN)) : Option Bool := rf 109 d1
def c0C (rf : T.RF) (d1 : List (List XN)) : Option Int := rf 110 d1
def c4U (rf : T.RF) (d1 : List XN) : Option Bool := rf 111 d1
def c4V (rf : T.RF) (d1 : List XK) (d2 : XUn) : Option (List XK) := rf 112 (d1, d2)
def H0 (rf : T.RF) (d1 : List XK) (d2 : List (List UInt8)) : Option (List XK) := rf 113 (d1, d2)
def b7O (rf : T.RF) (d1 : List XK) (d2 : List XPm) : Option (List XK) := rf 114 (d1, d2)
def c0D (rf : T.RF) (d1 : List XK) (d2 : List XPm) (d3 : List UInt8) : Option (List XK) := rf 115 (d1, d2, d3)
def b6e (rf : T.RF) (d1 : List XK) (d2 : XPm) : Option (List XK) := rf 116 (d1, d2)
def c4W (rf : T.RF) (d1 : List XK) (d2 : XIt) : Option (List XK) := rf 117 (d1, d2)
def a7p (rf : T.RF) (d1 : List XK) (d2 : List XN) : Option (List XK) := rf 118 (d1, d2)
def c0E (rf : T.RF) (d1 : List XN) : Option (List UInt8) := rf 119 d1
def a7q (rf : T.RF) (d1 : List XN) (d2 : List XK) (d3 : Int) : Option (List XN × List XK) := rf 120 (d1, d2, d3)
def c0F (rf : T.RF) (d1 : Int) : Option XPm := rf 121 d1
def c6P (rf : T.RF) : Option (List UInt8 × Int × List UInt8 × Int × List UInt8 × Int × List UInt8 × Int × List UInt8 × Int × List UInt8 × Int × List UInt8 × Int × List UInt8 × Int × List UInt8 × Int × List UInt8 × Int × List UInt8 × Int × List UInt8 × Int × List UInt8 × Int × List UInt8 × Int × List UInt8 × Int × List UInt8 × Int × List UInt8 × Int × List UInt8 × Int × List UInt8 × Int × List UInt8 × Int × List UInt8 × Int × List UInt8 × Int × List UInt8 × Int × List UInt8 × Int × List UInt8 × Int × List UInt8 × Int × List UInt8 × XK) := rf 122 ()
def c0G (rf : T.RF) (d1 : Int) : Option (List UInt8) := rf 123 d1
def a0b (rf : T.RF) (d1 : List XN) (d2 : List XK) (d3 : List (List UInt8)) : Option (List XN × List XK) := rf 124 (d1, d2, d3)
def c4X (rf : T.RF) (d1 : Bool) : Option (List UInt8) := rf 125 d1
def c4Y (rf : T.RF) (d1 : Bool) : Option (List UInt8) := rf 126 d1
def c0H (rf : T.RF) (d1 : List XN) (d2 : List XK) (d3 : Int) : Option (List XN × List XK) := rf 127 (d1, d2, d3)
def a1O (rf : T.RF) (d1 : List XN) (d2 : List XK) (d3 : Int) (d4 : Int) : Option (List XN × List XK) := rf 128 (d1, d2, d3, d4)
def c4Z (rf : T.RF) (d1 : Int) : Option Int := rf 129 d1
def b6f (rf : T.RF) (d1 : List XK) : Option (List UInt8) := rf 130 d1
def c5a (rf : T.RF) (d1 : List XK) (d2 : List (List XN)) (d3 : List UInt8) : Option (List XK) := rf 131 (d1, d2, d3)
def b1W (rf : T.RF) (d1 : XPg) : Option XPg := rf 132 d1
def c6Q (rf : T.RF) (d1 : List XUn) : Option (List XUn) := rf 133 d1
def Q6 (rf : T.RF) (d1 : List XPm) : Option (List XPm) := rf 134 d1
def a9e (rf : T.RF) (d1 : List XEq) : Option (List XEq) := rf 135 d1
def c5b (rf : T.RF) (d1 : List XIt) : Option (List XIt) := rf 136 d1
def P3 (rf : T.RF) (d1 : List XN) : Option (List XN) := rf 137 d1
def c6R (rf : T.RF) (d1 : List XN) (d2 : Int) : Option (List XN) := rf 138 (d1, d2)
def c5c (rf : T.RF) (d1 : List XN) (d2 : List XN) (d3 : Int) : Option (List XN) := rf 139 (d1, d2, d3)
def c5d (rf : T.RF) (d1 : List (List XN)) : Option (List (List XN)) := rf 140 d1
def d3t (rf : T.RF) (d1 : XPg) : Option XPg := rf 141 d1
def c5e (rf : T.RF) (d1 : XUn) : Option XUn := rf 142 d1
def b1X (rf : T.RF) (d1 : List XN) : Option (List XN) := rf 143 d1
def d3u (rf : T.RF) (d1 : List XN) (d2 : Int) : Option (List XN) := rf 144 (d1, d2)
def d3v (rf : T.RF) (d1 : List XN) : Option Bool := rf 145 d1
def d3w (rf : T.RF) (d1 : XN) : Option Bool := rf 146 d1
def c5f (rf : T.RF) (d1 : XN) : Option Bool := rf 147 d1
def d3x (rf : T.RF) (d1 : List XN) (d2 : Int) : Option Bool := rf 148 (d1, d2)
def c6S (rf : T.RF) (d1 : List XN) (d2 : List XN) (d3 : Int) : Option (List XN) := rf 149 (d1, d2, d3)
def b6g (rf : T.RF) (d1 : XPg) (d2 : XPg) : Option Bool := rf 150 (d1, d2)
def c6T (rf : T.RF) (d1 : XUn) (d2 : XUn) : Option Bool := rf 151 (d1, d2)
def c5g (rf : T.RF) (d1 : List XPm) (d2 : List XPm) : Option Bool := rf 152 (d1, d2)
def b7P (rf : T.RF) (d1 : List XN) (d2 : List XN) : Option Bool := rf 153 (d1, d2)
def c6U (rf : T.RF) (d1 : List (List XN)) (d2 : List (List XN)) : Option Bool := rf 154 (d1, d2)
def c6V (rf : T.RF) (d1 : List UInt8) : Option Bool := rf 155 d1
def d3y (rf : T.RF) (d1 : XPg) : Option Bool := rf 156 d1
def d3z (rf : T.RF) (d1 : XPg) (d2 : XPg) : Option Bool := rf 157 (d1, d2)
def d3A (rf : T.RF) (d1 : XPg) : Option Bool := rf 158 d1
def k0 (rb : T.RB) (d1 : XPg) (d2 : Int) : Option ((XPg × Bool) ⊕ XPg) := rb 0 (d1, d2)
def k1 (rb : T.RB) (d1 : XUn) (d2 : Int) : Option ((XUn × Bool) ⊕ XUn) := rb 1 (d1, d2)
def k2 (rb : T.RB) (d1 : XUn) (d2 : Int) : Option ((XUn × Bool) ⊕ XUn) := rb 2 (d1, d2)
def k3 (rb : T.RB) (d1 : XIt) (d2 : Int) : Option ((XIt × Bool) ⊕ XIt) := rb 3 (d1, d2)
def k6 (rb : T.RB) (d1 : List UInt8) (d2 : Int) : Option Int := rb 6 (d1, d2)
def k7 (rb : T.RB) (d1 : List UInt8) (d2 : Int) (d3 : Int) : Option Int := rb 7 (d1, d2, d3)
def k8 (rb : T.RB) (d1 : List UInt8) (d2 : Int) : Option Int := rb 8 (d1, d2)
def k9 (rb : T.RB) (d1 : List (List UInt8)) (d2 : List UInt8) (d3 : Int) : Option ((List (List UInt8) × Bool) ⊕ (List (List UInt8))) := rb 9 (d1, d2, d3)
def k10 (rb : T.RB) (d1 : List UInt8) (d2 : Int) : Option (Bool ⊕ Unit) := rb 10 (d1, d2)
def k11 (rb : T.RB) (d1 : List (List UInt8)) (d2 : List UInt8) (d3 : Int) : Option ((List (List UInt8) × List UInt8) ⊕ (List (List UInt8))) := rb 11 (d1, d2, d3)
def k12 (rb : T.RB) (d1 : Int × Int) (d2 : List XK) (d3 : List UInt8) (d4 : Int) : Option (((Int × Int) × List XK) ⊕ ((Int × Int) × List XK)) := rb 12 (d1, d2, d3, d4)
def k13 (rb : T.RB) (d1 : List UInt8) (d2 : Int) : Option Int := rb 13 (d1, d2)
def k17 (rb : T.RB) (d1 : XR) (d2 : List XPm) : Option ((XR × List XPm) ⊕ XR) := rb 17 (d1, d2)
def k22 (rb : T.RB) (d1 : List XN) (d2 : List XN) (d3 : Int) (d4 : Int) : Option (List XN) := rb 22 (d1, d2, d3, d4)
def k23 (rb : T.RB) (d1 : List XN) (d2 : List Int) (d3 : Int) (d4 : List (List XN)) (d5 : Int) (d6 : Int) : Option ((List XN) ⊕ (List XN × List Int × Int)) := rb 23 (d1, d2, d3, d4, d5, d6)
def k25 (rb : T.RB) (d1 : XS) (d2 : List (List XN)) : Option ((XS × List (List XN)) ⊕ XS) := rb 25 (d1, d2)
def k27 (rb : T.RB) (d1 : XS) (d2 : List XN) : Option (XS × List XN) := rb 27 (d1, d2)
def k29 (rb : T.RB) (d1 : XS) (d2 : List XN) : Option (XS × List XN) := rb 29 (d1, d2)
def k31 (rb : T.RB) (d1 : XS) (d2 : List XN) : Option (XS × List XN) := rb 31 (d1, d2)
def k33 (rb : T.RB) (d1 : XS) (d2 : List XN) : Option (XS × List XN) := rb 33 (d1, d2)
def k35 (rb : T.RB) (d1 : XS) (d2 : List XN) : Option (XS × List XN) := rb 35 (d1, d2)
def k43 (rb : T.RB) (d1 : List Int) (d2 : List XN) (d3 : Int) : Option (List Int) := rb 43 (d1, d2, d3)
def k44 (rb : T.RB) (d1 : List Int) (d2 : List Int) (d3 : Int) (d4 : Int) : Option (List Int × List Int) := rb 44 (d1, d2, d3, d4)
def k46 (rb : T.RB) (d1 : Int × Int) (d2 : List XK) (d3 : Int) : Option (((Int × Int) × List XN × Int) ⊕ ((Int × Int) × List XN × Int)) := rb 46 (d1, d2, d3)
def k47 (rb : T.RB) (d1 : XR) (d2 : Int × Int) (d3 : List XN) (d4 : Int) : Option (XR × (Int × Int) × List XN) := rb 47 (d1, d2, d3, d4)
def k49 (rb : T.RB) (d1 : XR) (d2 : List (List XN)) : Option ((XR × List (List XN)) ⊕ XR) := rb 49 (d1, d2)
def k50 (rb : T.RB) (d1 : XR) (d2 : List XIt) : Option (XR × List XIt) := rb 50 (d1, d2)
def k52 (rb : T.RB) (d1 : XR) (d2 : List XPm) : Option ((XR × List XPm) ⊕ XR) := rb 52 (d1, d2)
def k54 (rb : T.RB) (d1 : XR) (d2 : List XEq) : Option (XR × List XEq) := rb 54 (d1, d2)
def k69 (rb : T.RB) (d1 : XR) (d2 : List UInt8) (d3 : List UInt8) (d4 : List XUn) : Option (XR × List UInt8 × List UInt8 × List XUn) := rb 69 (d1, d2, d3, d4)
def k70 (rb : T.RB) (d1 : List UInt8) (d2 : List UInt8) (d3 : Int × Int) (d4 : XR) (d5 : List UInt8) (d6 : List UInt8) (d7 : List XUn) (d8 : List XUn) : Option ((List UInt8 × List UInt8 × (Int × Int) × XR × List UInt8 × List UInt8 × List XUn × List XUn × List XUn) ⊕ (List UInt8 × List UInt8 × (Int × Int) × XR × List UInt8 × List UInt8 × List XUn × List XUn)) := rb 70 (d1, d2, d3, d4, d5, d6, d7, d8)
def k71 (rb : T.RB) (d1 : List (List UInt8)) (d2 : List UInt8) (d3 : Int) (d4 : Int) : Option Int := rb 71 (d1, d2, d3, d4)
def k72 (rb : T.RB) (d1 : List XUn) (d2 : Int) (d3 : Int) : Option (Int ⊕ Unit) := rb 72 (d1, d2, d3)
def k73 (rb : T.RB) (d1 : List XPm) (d2 : Int) (d3 : Int) : Option (Int ⊕ Unit) := rb 73 (d1, d2, d3)
def k74 (rb : T.RB) (d1 : List XEq) (d2 : Int) (d3 : Int) : Option (Int ⊕ Unit) := rb 74 (d1, d2, d3)
def k75 (rb : T.RB) (d1 : List Bool) (d2 : List XN) (d3 : List XN) (d4 : Int) (d5 : Int) : Option ((List Bool × Bool) ⊕ (List Bool)) := rb 75 (d1, d2, d3, d4, d5)
def k76 (rb : T.RB) (d1 : XN) (d2 : Int) : Option (XN × Bool) := rb 76 (d1, d2)
def k77 (rb : T.RB) (d1 : XN) (d2 : XN) (d3 : Int) : Option (XN × XN × Bool) := rb 77 (d1, d2, d3)
def k78 (rb : T.RB) (d1 : List Bool) (d2 : XN) (d3 : List Int) (d4 : List XN) (d5 : Int) (d6 : Int) (d7 : Int) : Option ((List Bool × XN × List Int × Bool) ⊕ (List Bool × XN × List Int)) := rb 78 (d1, d2, d3, d4, d5, d6, d7)
def k79 (rb : T.RB) (d1 : List Bool) (d2 : Bool) (d3 : Int) (d4 : Int) : Option (Int ⊕ Unit) := rb 79 (d1, d2, d3, d4)
def k86 (rb : T.RB) (d1 : List Int) (d2 : List XN) (d3 : Int) (d4 : Int) : Option (List Int) := rb 86 (d1, d2, d3, d4)
def k87 (rb : T.RB) (d1 : List Int) (d2 : List Int) (d3 : Int) (d4 : Int) (d5 : Int) : Option (List Int × List Int) := rb 87 (d1, d2, d3, d4, d5)
def k88 (rb : T.RB) (d1 : List XN) (d2 : Int) (d3 : Int) : Option (Int ⊕ Unit) := rb 88 (d1, d2, d3)
def k89 (rb : T.RB) (d1 : List XIt) (d2 : Int) (d3 : Int) : Option (Int ⊕ Unit) := rb 89 (d1, d2, d3)
def k90 (rb : T.RB) (d1 : List (List XN)) (d2 : Int) (d3 : Int) : Option (Int ⊕ Unit) := rb 90 (d1, d2, d3)
def k93 (rb : T.RB) (d1 : List XK) (d2 : List (List UInt8)) (d3 : Int) (d4 : Int) : Option (List XK) := rb 93 (d1, d2, d3, d4)
def k95 (rb : T.RB) (d1 : List XK) (d2 : List UInt8) (d3 : List XPm) (d4 : Int) (d5 : Int) : Option (List XK) := rb 95 (d1, d2, d3, d4, d5)
def k99 (rb : T.RB) (d1 : List XN) (d2 : List XK) (d3 : List (List UInt8)) (d4 : Int) (d5 : Int) : Option (List XN × List XK) := rb 99 (d1, d2, d3, d4, d5)
def b8u (rb : T.RB) (d1 : List XK) (d2 : List UInt8) (d3 : List (List XN)) (d4 : Int) (d5 : Int) : Option (List XK) := rb 101 (d1, d2, d3, d4, d5)
def b8v (rb : T.RB) (d1 : XUn) (d2 : List XK) : Option ((XUn × List XK) ⊕ (XUn × List XK)) := rb 106 (d1, d2)
def b8w (rb : T.RB) (d1 : List XK) (d2 : List XIt) (d3 : Int) (d4 : Int) : Option (List XK) := rb 107 (d1, d2, d3, d4)
def b6A (rb : T.RB) (d1 : XUn) (d2 : List XK) : Option ((XUn × List XK) ⊕ (XUn × List XK)) := rb 108 (d1, d2)
def b6B (rb : T.RB) (d1 : List XK) (d2 : List XEq) (d3 : Int) (d4 : Int) : Option (List XK) := rb 109 (d1, d2, d3, d4)
def b8x (rb : T.RB) (d1 : List XK) (d2 : List XUn) (d3 : Int) (d4 : Int) : Option (List XK) := rb 110 (d1, d2, d3, d4)
def c5o (rb : T.RB) (d1 : List XN) (d2 : List Int) (d3 : List XN) (d4 : Int) (d5 : Int) : Option (List Int × List XN) := rb 120 (d1, d2, d3, d4, d5)
def c0R (rb : T.RB) (d1 : List UInt8) (d2 : List UInt8) (d3 : List XUn) (d4 : Int) (d5 : Int) : Option (List UInt8 × List UInt8 × List XUn) := rb 170 (d1, d2, d3, d4, d5)
def c5p (rb : T.RB) (d1 : List XUn) (d2 : Bool) (d3 : List UInt8) (d4 : List UInt8) (d5 : Int) (d6 : List XUn) (d7 : List XPm) (d8 : List XPm) (d9 : List XEq) (d10 : List XIt) (d11 : Int) : Option (List XUn × Bool × List UInt8 × List UInt8 × Int × List XUn × List XPm × List XPm × List XEq × List XIt) := rb 171 (d1, d2, d3, d4, d5, d6, d7, d8, d9, d10, d11)
def c0S (rb : T.RB) (d1 : List XUn) (d2 : Bool) (d3 : List UInt8) (d4 : List UInt8) (d5 : Int) (d6 : List XUn) (d7 : List XPm) (d8 : List XPm) (d9 : List XEq) (d10 : List XIt) (d11 : Int) (d12 : Int) (d13 : Int) : Option (List XUn × Bool × List UInt8 × List UInt8 × Int × List XUn × List XPm × List XPm × List XEq × List XIt) := rb 172 (d1, d2, d3, d4, d5, d6, d7, d8, d9, d10, d11, d12, d13)
def c0T (rb : T.RB) (d1 : List XUn) (d2 : Bool) (d3 : List UInt8) (d4 : List UInt8) (d5 : Int) (d6 : List XUn) (d7 : List XPm) (d8 : List XPm) (d9 : List XEq) (d10 : List XIt) (d11 : Int) (d12 : Int) (d13 : Int) : Option (List XUn × Bool × List UInt8 × List UInt8 × Int × List XUn × List XPm × List XPm × List XEq × List XIt) := rb 173 (d1, d2, d3, d4, d5, d6, d7, d8, d9, d10, d11, d12, d13)
def c5q (rb : T.RB) (d1 : List XIt) (d2 : Int) (d3 : List UInt8) (d4 : Int) (d5 : List XIt) (d6 : List XN) (d7 : List XN) (d8 : List (List XN)) (d9 : Int) : Option (List XIt × Int × List UInt8 × Int × List XIt × List XN × List XN × List (List XN)) := rb 174 (d1, d2, d3, d4, d5, d6, d7, d8, d9)
def b3P (rb : T.RB) (d1 : List XIt) (d2 : Int) (d3 : List UInt8) (d4 : Int) (d5 : List XIt) (d6 : List XN) (d7 : List XN) (d8 : List (List XN)) (d9 : Int) (d10 : Int) (d11 : Int) : Option (List XIt × Int × List UInt8 × Int × List XIt × List XN × List XN × List (List XN)) := rb 175 (d1, d2, d3, d4, d5, d6, d7, d8, d9, d10, d11)
def d1t (rb : T.RB) (d1 : List Int) (d2 : List XN) (d3 : Int) : Option ((List Int × Bool) ⊕ (List Int)) := rb 178 (d1, d2, d3)
def d1u (rb : T.RB) (d1 : List Int) (d2 : List Int) (d3 : Int) (d4 : Int) : Option ((List Int × List Int × Bool) ⊕ (List Int × List Int)) := rb 179 (d1, d2, d3, d4)
def b8y (rb : T.RB) (d1 : XN) (d2 : List Int) (d3 : List XN) (d4 : Int) : Option ((XN × List Int × Bool) ⊕ (XN × List Int)) := rb 180 (d1, d2, d3, d4)
def d1v (rb : T.RB) (d1 : List Int) (d2 : List XN) (d3 : Int) : Option ((List Int × Bool) ⊕ (List Int)) := rb 181 (d1, d2, d3)
def d1w (rb : T.RB) (d1 : List XN) (d2 : List Int) (d3 : List Int) (d4 : List XN) (d5 : Int) : Option (List Int × List XN × List Int) := rb 183 (d1, d2, d3, d4, d5)
def c0U (rb : T.RB) (d1 : XUn) (d2 : Bool) (d3 : List UInt8) (d4 : List UInt8) (d5 : Int) (d6 : List XPm) (d7 : List XPm) (d8 : List XEq) (d9 : List XIt) (d10 : Int) : Option (XUn × Bool × List UInt8 × List UInt8 × Int × List XPm × List XPm × List XIt × List XEq) := rb 198 (d1, d2, d3, d4, d5, d6, d7, d8, d9, d10)
def d1x (rb : T.RB) (d1 : XUn) (d2 : Bool) (d3 : List UInt8) (d4 : List UInt8) (d5 : Int) (d6 : List XPm) (d7 : List XPm) (d8 : List XEq) (d9 : List XIt) (d10 : Int) : Option (XUn × Bool × List UInt8 × List UInt8 × Int × List XPm × List XPm × List XEq × List XIt) := rb 199 (d1, d2, d3, d4, d5, d6, d7, d8, d9, d10)
def c0V (rb : T.RB) (d1 : XUn) (d2 : Int) (d3 : List UInt8) (d4 : Int) (d5 : List XN) (d6 : List XN) (d7 : List (List XN)) (d8 : Int) (d9 : Int) : Option (XUn × XIt) := rb 200 (d1, d2, d3, d4, d5, d6, d7, d8, d9)
def c0W (rb : T.RB) (d1 : XPg) (d2 : List UInt8) (d3 : List UInt8) (d4 : List XUn) (d5 : Int) : Option (XPg × List UInt8 × List UInt8 × List XUn) := rb 203 (d1, d2, d3, d4, d5)
def c5r (rb : T.RB) (d1 : XPg) (d2 : XPg) (d3 : Int) : Option ((XPg × XPg × Bool) ⊕ (XPg × XPg)) := rb 204 (d1, d2, d3)
def c5s (rb : T.RB) (d1 : List XPm) (d2 : List XPm) (d3 : Int) : Option (Bool ⊕ Unit) := rb 205 (d1, d2, d3)
def c5t (rb : T.RB) (d1 : XUn) (d2 : XUn) (d3 : Int) : Option ((XUn × XUn × Bool) ⊕ (XUn × XUn)) := rb 206 (d1, d2, d3)
def c5u (rb : T.RB) (d1 : List XN) (d2 : List XN) (d3 : Int) : Option (Bool ⊕ Unit) := rb 207 (d1, d2, d3)
def c5v (rb : T.RB) (d1 : XUn) (d2 : XUn) (d3 : Int) : Option ((XUn × XUn × Bool) ⊕ (XUn × XUn)) := rb 208 (d1, d2, d3)
def c5w (rb : T.RB) (d1 : List (List XN)) (d2 : List (List XN)) (d3 : Int) : Option (Bool ⊕ Unit) := rb 209 (d1, d2, d3)
def b0 (rf : T.RF) (rb : T.RB) (d1 : XPg) (d2 : Int) : Option ((XPg × Bool) ⊕ XPg) :=
 bif decide (d2 < (((d1.1.length : Nat) : Int))) then
  bif inb d2 d1.1.length then
   (nth d1.1 d2.toNat).bind fun x1 =>
   bif decide ((((x1.2.2.1.length : Nat) : Int)) > 30) then
    some (.inl (d1, false))
   else
   bif decide ((((x1.2.2.2.2.2.1.length : Nat) : Int)) > 30) then
    some (.inl (d1, false))
   else
   bif decide ((((x1.2.2.2.2.2.2.1.length : Nat) : Int)) > 30) then
    some (.inl (d1, false))
   else
   bif decide ((((x1.2.2.2.2.2.2.2.length : Nat) : Int)) > 30) then
    some (.inl (d1, false))
   else
    (k1 rb x1 0).bind fun z2 =>
    match z2 with
    | .inl u3 =>
      some (.inl (d1, u3.2))
    | .inr w4 =>
      (k2 rb w4 0).bind fun z5 =>
      match z5 with
      | .inl u6 =>
        some (.inl (d1, u6.2))
      | .inr w7 =>
        k0 rb d1 (IntKind.i64.wrap (d2 + 1))
  else
   none
 else
  some (.inr d1)
theorem eb0 : EqB 0 fun a b => U2 (b0 a b) := fun _ _ _ => by kernel_rfl
theorem ob0 {d1 d2 y} (h : b0 T.rf T.rb d1 d2 = some y) : k0 T.rb d1 d2 = some y := eb0.o h
def b1 (rf : T.RF) (rb : T.RB) (d1 : XUn) (d2 : Int) : Option ((XUn × Bool) ⊕ XUn) :=
 bif decide (d2 < (((d1.2.2.2.2.2.2.1.length : Nat) : Int))) then
  bif inb d2 d1.2.2.2.2.2.2.1.length then
   (nth d1.2.2.2.2.2.2.1 d2.toNat).bind fun x1 =>
   bif decide ((((x1.2.length : Nat) : Int)) > 200) then
   some (.inl (d1, false))
   else
   k1 rb d1 (IntKind.i64.wrap (d2 + 1))
  else
   none
 else
  some (.inr d1)
theorem eb1 : EqB 1 fun a b => U2 (b1 a b) := fun _ _ _ => by kernel_rfl
theorem ob1 {d1 d2 y} (h : b1 T.rf T.rb d1 d2 = some y) : k1 T.rb d1 d2 = some y := eb1.o h
def b2 (rf : T.RF) (rb : T.RB) (d1 : XUn) (d2 : Int) : Option ((XUn × Bool) ⊕ XUn) :=
 bif decide (d2 < (((d1.2.2.2.2.2.2.2.length : Nat) : Int))) then
  bif inb d2 d1.2.2.2.2.2.2.2.length then
   (nth d1.2.2.2.2.2.2.2 d2.toNat).bind fun x1 =>
   bif decide ((((x1.2.2.2.1.length : Nat) : Int)) > 200) then
    some (.inl (d1, false))
   else
   bif decide ((((x1.2.2.2.2.1.length : Nat) : Int)) > 200) then
    some (.inl (d1, false))
   else
   bif decide ((((x1.2.2.2.2.2.length : Nat) : Int)) > 30) then
    some (.inl (d1, false))
   else
    (k3 rb x1 0).bind fun z2 =>
    match z2 with
    | .inl u3 =>
      some (.inl (d1, u3.2))
    | .inr w4 =>
      k2 rb d1 (IntKind.i64.wrap (d2 + 1))
  else
   none
 else
  some (.inr d1)
theorem eb2 : EqB 2 fun a b => U2 (b2 a b) := fun _ _ _ => by kernel_rfl
theorem ob2 {d1 d2 y} (h : b2 T.rf T.rb d1 d2 = some y) : k2 T.rb d1 d2 = some y := eb2.o h
def b3 (rf : T.RF) (rb : T.RB) (d1 : XIt) (d2 : Int) : Option ((XIt × Bool) ⊕ XIt) :=
 bif decide (d2 < (((d1.2.2.2.2.2.length : Nat) : Int))) then
  bif inb d2 d1.2.2.2.2.2.length then
   (nth d1.2.2.2.2.2 d2.toNat).bind fun x1 =>
   bif decide ((((x1.length : Nat) : Int)) > 200) then
   some (.inl (d1, false))
   else
   k3 rb d1 (IntKind.i64.wrap (d2 + 1))
  else
   none
 else
  some (.inr d1)
theorem eb3 : EqB 3 fun a b => U2 (b3 a b) := fun _ _ _ => by kernel_rfl
theorem ob3 {d1 d2 y} (h : b3 T.rf T.rb d1 d2 = some y) : k3 T.rb d1 d2 = some y := eb3.o h
def r1 (rf : T.RF) (rb : T.RB) (d1 : XPg) : Option Bool :=
 bif decide ((((d1.1.length : Nat) : Int)) > 30) then
  some false
 else
  (k0 rb d1 0).bind fun z1 =>
  match z1 with
  | .inl u2 =>
    some u2.2
  | .inr w3 =>
    some true
theorem er1 : EqF 1 fun a b => r1 a b := fun _ _ _ => by kernel_rfl
theorem or1 {d1 y} (h : r1 T.rf T.rb d1 = some y) : c1 T.rf d1 = some y := er1.o h
def r6 (rf : T.RF) (rb : T.RB) (d1 : Int) : Option Bool :=
 bif decide (d1 ≥ 48) then
  some (decide (d1 ≤ 57))
 else
  some false
theorem er6 : EqF 6 fun a b => r6 a b := fun _ _ _ => by kernel_rfl
theorem or6 {d1 y} (h : r6 T.rf T.rb d1 = some y) : c6 T.rf d1 = some y := er6.o h
def b7 (rf : T.RF) (rb : T.RB) (d1 : List UInt8) (d2 : Int) (d3 : Int) : Option Int :=
 bif decide (d3 < (((d1.length : Nat) : Int))) then
  bif decide (d2 ≤ 2147483647) then
   bif inb d3 d1.length then
   (nth d1 d3.toNat).bind fun b1 =>
   k7 rb d1 (IntKind.i64.wrap ((IntKind.i64.wrap (10 * d2)) + (IntKind.i64.wrap (IntKind.u8.wrap ((((b1.toNat : Nat) : Int)) - 48))))) (IntKind.i64.wrap (d3 + 1))
   else
   none
  else
   some d2
 else
  some d2
theorem eb7 : EqB 7 fun a b => U3 (b7 a b) := fun _ _ _ => by kernel_rfl
theorem ob7 {d1 d2 d3 y} (h : b7 T.rf T.rb d1 d2 d3 = some y) : k7 T.rb d1 d2 d3 = some y := eb7.o h
def r7 (rf : T.RF) (rb : T.RB) (d1 : List UInt8) : Option Int :=
 (k7 rb d1 0 0).bind fun z1 =>
 some z1
theorem er7 : EqF 7 fun a b => r7 a b := fun _ _ _ => by kernel_rfl
theorem or7 {d1 y} (h : r7 T.rf T.rb d1 = some y) : c7 T.rf d1 = some y := er7.o h
def r8 (rf : T.RF) (rb : T.RB) (d1 : Int) : Option Bool :=
 bif decide (d1 ≥ 97) then
  bif decide (d1 ≤ 122) then
   some true
  else
   some (d1 == 95)
 else
  some (d1 == 95)
theorem er8 : EqF 8 fun a b => r8 a b := fun _ _ _ => by kernel_rfl
theorem or8 {d1 y} (h : r8 T.rf T.rb d1 = some y) : c8 T.rf d1 = some y := er8.o h
def r11 (rf : T.RF) (rb : T.RB) : Option (List (List UInt8)) :=
 some [([97, 110, 100] : List UInt8), ([97, 115, 115, 117, 109, 101] : List UInt8), ([98, 111, 111, 108] : List UInt8), ([99, 111, 110, 116, 114, 97, 99, 116] : List UInt8), ([100, 105, 118] : List UInt8), ([101, 108, 115, 101] : List UInt8), ([101, 110, 100] : List UInt8), ([101, 110, 115, 117, 114, 101] : List UInt8), ([102, 97, 108, 108, 98, 97, 99, 107] : List UInt8), ([102, 97, 108, 115, 101] : List UInt8), ([103, 104, 111, 115, 116] : List UInt8), ([103, 117, 97, 114, 97, 110, 116, 101, 101] : List UInt8), ([104, 105, 115, 116] : List UInt8), ([105, 102] : List UInt8), ([105, 109, 112, 111, 114, 116] : List UInt8), ([105, 110, 116] : List UInt8), ([108, 101, 116] : List UInt8), ([109, 97, 105, 110] : List UInt8), ([109, 111, 100] : List UInt8), ([109, 111, 100, 101] : List UInt8), ([110, 111, 100, 101] : List UInt8), ([110, 111, 116] : List UInt8), ([111, 110, 99, 101] : List UInt8), ([111, 114] : List UInt8), ([112, 114, 101] : List UInt8), ([112, 114, 101, 118] : List UInt8), ([114, 101, 113, 117, 105, 114, 101] : List UInt8), ([114, 101, 116, 117, 114, 110, 115] : List UInt8), ([115, 105, 110, 99, 101] : List UInt8), ([116, 101, 108] : List UInt8), ([116, 104, 101, 110] : List UInt8), ([116, 114, 117, 101] : List UInt8), ([118, 97, 114] : List UInt8), ([119, 105, 116, 104, 105, 110] : List UInt8), ([120, 111, 114] : List UInt8)]
theorem c8n : EqF 11 fun a b => U0 (r11 a b) := fun _ _ _ => by kernel_rfl
theorem d5x { y} (h : r11 T.rf T.rb = some y) : c11 T.rf = some y := c8n.o h
def b9 (rf : T.RF) (rb : T.RB) (d1 : List (List UInt8)) (d2 : List UInt8) (d3 : Int) : Option ((List (List UInt8) × Bool) ⊕ (List (List UInt8))) :=
 bif decide (d3 < (((d1.length : Nat) : Int))) then
  bif inb d3 d1.length then
   (nth d1 d3.toNat).bind fun x1 =>
   bif x1 == d2 then
   some (.inl (d1, true))
   else
   k9 rb d1 d2 (IntKind.i64.wrap (d3 + 1))
  else
   none
 else
  some (.inr d1)
theorem eb9 : EqB 9 fun a b => U3 (b9 a b) := fun _ _ _ => by kernel_rfl
theorem ob9 {d1 d2 d3 y} (h : b9 T.rf T.rb d1 d2 d3 = some y) : k9 T.rb d1 d2 d3 = some y := eb9.o h
def r10 (rf : T.RF) (rb : T.RB) (d1 : List UInt8) : Option Bool :=
 (c11 rf).bind fun y1 =>
 (k9 rb y1 d1 0).bind fun z2 =>
 match z2 with
 | .inl u3 =>
   some u3.2
 | .inr w4 =>
   some false
theorem c8m : EqF 10 fun a b => r10 a b := fun _ _ _ => by kernel_rfl
theorem d5w {d1 y} (h : r10 T.rf T.rb d1 = some y) : c10 T.rf d1 = some y := c8m.o h
def b10 (rf : T.RF) (rb : T.RB) (d1 : List UInt8) (d2 : Int) : Option (Bool ⊕ Unit) :=
 bif decide (d2 < (((d1.length : Nat) : Int))) then
  bif inb d2 d1.length then
   (nth d1 d2.toNat).bind fun b1 =>
   (c8 rf (((b1.toNat : Nat) : Int))).bind fun y2 =>
   bif !y2 then
   bif inb d2 d1.length then
   (nth d1 d2.toNat).bind fun b3 =>
   (c6 rf (((b3.toNat : Nat) : Int))).bind fun y4 =>
   bif !y4 then
   some (.inl false)
   else
   k10 rb d1 (IntKind.i64.wrap (d2 + 1))
   else
   none
   else
   k10 rb d1 (IntKind.i64.wrap (d2 + 1))
  else
   none
 else
  some (.inr ())
theorem c7o : EqB 10 fun a b => U2 (b10 a b) := fun _ _ _ => by kernel_rfl
theorem d1H {d1 d2 y} (h : b10 T.rf T.rb d1 d2 = some y) : k10 T.rb d1 d2 = some y := c7o.o h
def r12 (rf : T.RF) (rb : T.RB) (d1 : List UInt8) : Option Bool :=
 bif d1 == ([] : List UInt8) then
  some false
 else
 bif decide ((((d1.length : Nat) : Int)) > 40) then
  some false
 else
 bif inb 0 d1.length then
  (nth d1 0).bind fun b1 =>
  (c8 rf (((b1.toNat : Nat) : Int))).bind fun y2 =>
  bif !y2 then
   some false
  else
   (c10 rf d1).bind fun y3 =>
   bif y3 then
    some false
   else
    (k10 rb d1 0).bind fun z4 =>
    match z4 with
    | .inl u5 =>
      some u5
    | .inr w6 =>
      some true
 else
  none
theorem c8o : EqF 12 fun a b => r12 a b := fun _ _ _ => by kernel_rfl
theorem d5y {d1 y} (h : r12 T.rf T.rb d1 = some y) : c12 T.rf d1 = some y := c8o.o h
def r9 (rf : T.RF) (rb : T.RB) (d1 : List UInt8) (d2 : Int) : Option (XK × Int) :=
 (c10 rf d1).bind fun y1 =>
 bif y1 then
  some ((3, d1, d2), 0)
 else
  (c12 rf d1).bind fun y2 =>
  bif !y2 then
   some ((0, ([] : List UInt8), 0), 5)
  else
   some ((1, d1, d2), 0)
theorem er9 : EqF 9 fun a b => U2 (r9 a b) := fun _ _ _ => by kernel_rfl
theorem or9 {d1 d2 y} (h : r9 T.rf T.rb d1 d2 = some y) : c9 T.rf d1 d2 = some y := er9.o h
def r14 (rf : T.RF) (rb : T.RB) : Option (List (List UInt8)) :=
 some [([45, 62] : List UInt8), ([61, 62] : List UInt8), ([60, 61] : List UInt8), ([62, 61] : List UInt8), ([60, 62] : List UInt8), ([61] : List UInt8), ([60] : List UInt8), ([62] : List UInt8), ([43] : List UInt8), ([45] : List UInt8), ([42] : List UInt8), ([40] : List UInt8), ([41] : List UInt8), ([44] : List UInt8), ([59] : List UInt8), ([58] : List UInt8)]
theorem c8q : EqF 14 fun a b => U0 (r14 a b) := fun _ _ _ => by kernel_rfl
theorem d5A { y} (h : r14 T.rf T.rb = some y) : c14 T.rf = some y := c8q.o h
def b11 (rf : T.RF) (rb : T.RB) (d1 : List (List UInt8)) (d2 : List UInt8) (d3 : Int) : Option ((List (List UInt8) × List UInt8) ⊕ (List (List UInt8))) :=
 bif decide (d3 < (((d1.length : Nat) : Int))) then
  bif inb d3 d1.length then
   (nth d1 d3.toNat).bind fun x1 =>
   bif decide ((((d2.length : Nat) : Int)) ≥ (((x1.length : Nat) : Int))) then
   bif inb d3 d1.length then
   (nth d1 d3.toNat).bind fun x2 =>
   bif G5 (((x2.length : Nat) : Int)) d2.length then
   bif inb d3 d1.length then
   (nth d1 d3.toNat).bind fun x3 =>
   bif (sub d2 (some (0, (x2.length - 0)))) == x3 then
   bif inb d3 d1.length then
   (nth d1 d3.toNat).bind fun x4 =>
   some (.inl (d1, x4))
   else
   none
   else
   k11 rb d1 d2 (IntKind.i64.wrap (d3 + 1))
   else
   none
   else
   none
   else
   none
   else
   k11 rb d1 d2 (IntKind.i64.wrap (d3 + 1))
  else
   none
 else
  some (.inr d1)
theorem c7p : EqB 11 fun a b => U3 (b11 a b) := fun _ _ _ => by kernel_rfl
theorem c5D {d1 d2 d3 y} (h : b11 T.rf T.rb d1 d2 d3 = some y) : k11 T.rb d1 d2 d3 = some y := c7p.o h
def r13 (rf : T.RF) (rb : T.RB) (d1 : List UInt8) : Option (List UInt8) :=
 (c14 rf).bind fun y1 =>
 (k11 rb y1 d1 0).bind fun z2 =>
 match z2 with
 | .inl u3 =>
   some u3.2
 | .inr w4 =>
   some ([] : List UInt8)
theorem c8p : EqF 13 fun a b => r13 a b := fun _ _ _ => by kernel_rfl
theorem d5z {d1 y} (h : r13 T.rf T.rb d1 = some y) : c13 T.rf d1 = some y := c8p.o h
def b6 (rf : T.RF) (rb : T.RB) (d1 : List UInt8) (d2 : Int) : Option Int :=
 bif decide (d2 < (((d1.length : Nat) : Int))) then
  bif inb d2 d1.length then
   (nth d1 d2.toNat).bind fun b1 =>
   (c6 rf (((b1.toNat : Nat) : Int))).bind fun y2 =>
   bif y2 then
   k6 rb d1 (IntKind.i64.wrap (d2 + 1))
   else
   some d2
  else
   none
 else
  some d2
theorem eb6 : EqB 6 fun a b => U2 (b6 a b) := fun _ _ _ => by kernel_rfl
theorem ob6 {d1 d2 y} (h : b6 T.rf T.rb d1 d2 = some y) : k6 T.rb d1 d2 = some y := eb6.o h
def b8 (rf : T.RF) (rb : T.RB) (d1 : List UInt8) (d2 : Int) : Option Int :=
 bif decide (d2 < (((d1.length : Nat) : Int))) then
  bif inb d2 d1.length then
   (nth d1 d2.toNat).bind fun b1 =>
   (c8 rf (((b1.toNat : Nat) : Int))).bind fun y2 =>
   bif y2 then
   k8 rb d1 (IntKind.i64.wrap (d2 + 1))
   else
   bif inb d2 d1.length then
   (nth d1 d2.toNat).bind fun b3 =>
   (c6 rf (((b3.toNat : Nat) : Int))).bind fun y4 =>
   bif y4 then
   k8 rb d1 (IntKind.i64.wrap (d2 + 1))
   else
   some d2
   else
   none
  else
   none
 else
  some d2
theorem eb8 : EqB 8 fun a b => U2 (b8 a b) := fun _ _ _ => by kernel_rfl
theorem ob8 {d1 d2 y} (h : b8 T.rf T.rb d1 d2 = some y) : k8 T.rb d1 d2 = some y := eb8.o h
def r5 (rf : T.RF) (rb : T.RB) (d1 : List UInt8) (d2 : Int) : Option (XK × Int) :=
 bif inb 0 d1.length then
  (nth d1 0).bind fun b1 =>
  (c6 rf (((b1.toNat : Nat) : Int))).bind fun y2 =>
  bif y2 then
   (k6 rb d1 0).bind fun z3 =>
   bif decide (z3 > 1) then
   bif inb 0 d1.length then
   (nth d1 0).bind fun b4 =>
   bif (((b4.toNat : Nat) : Int)) == 48 then
   some ((0, ([] : List UInt8), 0), 2)
   else
   bif G5 z3 d1.length then
   (c7 rf (sub d1 (some (0, (z3.toNat - 0))))).bind fun y5 =>
   bif decide (y5 > 2147483647) then
   some ((0, ([] : List UInt8), 0), 2)
   else
   bif G5 z3 d1.length then
   some ((2, sub d1 (some (0, (z3.toNat - 0))), d2), 0)
   else
   none
   else
   none
   else
   none
   else
   bif G5 z3 d1.length then
   (c7 rf (sub d1 (some (0, (z3.toNat - 0))))).bind fun y6 =>
   bif decide (y6 > 2147483647) then
   some ((0, ([] : List UInt8), 0), 2)
   else
   bif G5 z3 d1.length then
   some ((2, sub d1 (some (0, (z3.toNat - 0))), d2), 0)
   else
   none
   else
   none
  else
  bif inb 0 d1.length then
   (nth d1 0).bind fun b7 =>
   (c8 rf (((b7.toNat : Nat) : Int))).bind fun y8 =>
   bif y8 then
   (k8 rb d1 0).bind fun z9 =>
   bif G5 z9 d1.length then
   (c9 rf (sub d1 (some (0, (z9.toNat - 0)))) d2).bind fun y10 =>
   some y10
   else
   none
   else
   (c13 rf d1).bind fun y11 =>
   bif y11 == ([] : List UInt8) then
   some ((0, ([] : List UInt8), 0), 5)
   else
   some ((4, y11, d2), 0)
  else
   none
 else
  none
theorem er5 : EqF 5 fun a b => U2 (r5 a b) := fun _ _ _ => by kernel_rfl
theorem or5 {d1 d2 y} (h : r5 T.rf T.rb d1 d2 = some y) : c5 T.rf d1 d2 = some y := er5.o h
def b12 (rf : T.RF) (rb : T.RB) (d1 : Int × Int) (d2 : List XK) (d3 : List UInt8) (d4 : Int) : Option (((Int × Int) × List XK) ⊕ ((Int × Int) × List XK)) :=
 bif decide (d4 < (((d3.length : Nat) : Int))) then
  bif inb d4 d3.length then
   (nth d3 d4.toNat).bind fun b1 =>
   bif (((b1.toNat : Nat) : Int)) == 32 then
   k12 rb d1 d2 d3 (IntKind.i64.wrap (d4 + 1))
   else
   bif inb d4 d3.length then
   (nth d3 d4.toNat).bind fun b2 =>
   bif (((b2.toNat : Nat) : Int)) == 9 then
   k12 rb d1 d2 d3 (IntKind.i64.wrap (d4 + 1))
   else
   bif inb d4 d3.length then
   (nth d3 d4.toNat).bind fun b3 =>
   bif (((b3.toNat : Nat) : Int)) == 10 then
   k12 rb d1 d2 d3 (IntKind.i64.wrap (d4 + 1))
   else
   bif inb d4 d3.length then
   (nth d3 d4.toNat).bind fun b4 =>
   bif (((b4.toNat : Nat) : Int)) == 13 then
   k12 rb d1 d2 d3 (IntKind.i64.wrap (d4 + 1))
   else
   bif decide ((IntKind.i64.wrap (d4 + 1)) < (((d3.length : Nat) : Int))) then
   bif inb d4 d3.length then
   (nth d3 d4.toNat).bind fun b5 =>
   bif (((b5.toNat : Nat) : Int)) == 45 then
   bif inb (IntKind.i64.wrap (d4 + 1)) d3.length then
   (nth d3 (IntKind.i64.wrap (d4 + 1)).toNat).bind fun b6 =>
   bif (((b6.toNat : Nat) : Int)) == 45 then
   (k13 rb d3 d4).bind fun z7 =>
   k12 rb d1 d2 d3 z7
   else
   bif G5 d4 d3.length then
   (c5 rf (sub d3 (some (d4.toNat, (d3.length - d4.toNat)))) d4).bind fun y8 =>
   bif y8.2 != 0 then
   some (.inl ((y8.2, d4), []))
   else
   bif (Nat.ble (d2.length + 1) v8) && true then
   k12 rb d1 (d2 ++ [y8.1]) d3 (IntKind.i64.wrap (d4 + (((y8.1.2.1.length : Nat) : Int))))
   else
   none
   else
   none
   else
   none
   else
   bif G5 d4 d3.length then
   (c5 rf (sub d3 (some (d4.toNat, (d3.length - d4.toNat)))) d4).bind fun y9 =>
   bif y9.2 != 0 then
   some (.inl ((y9.2, d4), []))
   else
   bif (Nat.ble (d2.length + 1) v8) && true then
   k12 rb d1 (d2 ++ [y9.1]) d3 (IntKind.i64.wrap (d4 + (((y9.1.2.1.length : Nat) : Int))))
   else
   none
   else
   none
   else
   none
   else
   bif G5 d4 d3.length then
   (c5 rf (sub d3 (some (d4.toNat, (d3.length - d4.toNat)))) d4).bind fun y10 =>
   bif y10.2 != 0 then
   some (.inl ((y10.2, d4), []))
   else
   bif (Nat.ble (d2.length + 1) v8) && true then
   k12 rb d1 (d2 ++ [y10.1]) d3 (IntKind.i64.wrap (d4 + (((y10.1.2.1.length : Nat) : Int))))
   else
   none
   else
   none
   else
   none
   else
   none
   else
   none
  else
   none
 else
  some (.inr (d1, d2))
theorem c7q : EqB 12 fun a b => U4 (b12 a b) := fun _ _ _ => by kernel_rfl
theorem b1j {d1 d2 d3 d4 y} (h : b12 T.rf T.rb d1 d2 d3 d4 = some y) : k12 T.rb d1 d2 d3 d4 = some y := c7q.o h
def b13 (rf : T.RF) (rb : T.RB) (d1 : List UInt8) (d2 : Int) : Option Int :=
 bif decide (d2 < (((d1.length : Nat) : Int))) then
  bif inb d2 d1.length then
   (nth d1 d2.toNat).bind fun b1 =>
   bif (((b1.toNat : Nat) : Int)) != 10 then
   k13 rb d1 (IntKind.i64.wrap (d2 + 1))
   else
   some d2
  else
   none
 else
  some d2
theorem c7r : EqB 13 fun a b => U2 (b13 a b) := fun _ _ _ => by kernel_rfl
theorem c5E {d1 d2 y} (h : b13 T.rf T.rb d1 d2 = some y) : k13 T.rb d1 d2 = some y := c7r.o h
def r4 (rf : T.RF) (rb : T.RB) (d1 : List UInt8) : Option (List XK × Int × Int) :=
 bif decide ((((d1.length : Nat) : Int)) > 100000) then
  some ([], 7, (-1))
 else
  (k12 rb (0, 0) [] d1 0).bind fun z1 =>
  match z1 with
  | .inl u2 =>
    some (u2.2, u2.1)
  | .inr w3 =>
    some (w3.2, 0, 0)
theorem er4 : EqF 4 fun a b => r4 a b := fun _ _ _ => by kernel_rfl
theorem or4 {d1 y} (h : r4 T.rf T.rb d1 = some y) : c4 T.rf d1 = some y := er4.o h
def r16 (rf : T.RF) (rb : T.RB) (d1 : Int) (d2 : Int) (d3 : Int) (d4 : List XK) : Option (Int × Int × Int × List XK × Bool) :=
 some (d1, d2, d3, d4, d2 == 0)
theorem d3E : EqF 16 fun a b => U4 (r16 a b) := fun _ _ _ => by kernel_rfl
def c6p (rf : T.RF) (rb : T.RB) (d1 : Int) (d2 : Int) (d3 : Int) (d4 : List XK) (d5 : List UInt8) : Option (Int × Int × Int × List XK × Bool) :=
 (c16 rf d1 d2 d3 d4).bind fun y1 =>
 bif !y1.2.2.2.2 then
  agN 1 (
   some (y1.1, y1.2.1, y1.2.2.1, y1.2.2.2.1, false)
  )
 else
  agN 1 (
   bif decide (y1.1 ≥ (((y1.2.2.2.1.length : Nat) : Int))) then
   some (y1.1, y1.2.1, y1.2.2.1, y1.2.2.2.1, false)
   else
   bif inb y1.1 y1.2.2.2.1.length then
   (nth y1.2.2.2.1 y1.1.toNat).bind fun x2 =>
   bif x2.1 == 4 then
   some (y1.1, y1.2.1, y1.2.2.1, y1.2.2.2.1, x2.2.1 == d5)
   else
   bif x2.1 == 3 then
   some (y1.1, y1.2.1, y1.2.2.1, y1.2.2.2.1, x2.2.1 == d5)
   else
   some (y1.1, y1.2.1, y1.2.2.1, y1.2.2.2.1, false)
   else
   none
  )
def r15 (rf : T.RF) (rb : T.RB) (d1 : Int) (d2 : Int) (d3 : Int) (d4 : List XK) (d5 : List UInt8) : Option (Int × Int × Int × List XK × Bool) :=
 (c16 rf d1 d2 d3 d4).bind fun y1 =>
 bif !y1.2.2.2.2 then
  some (y1.1, y1.2.1, y1.2.2.1, y1.2.2.2.1, false)
 else
 bif decide (y1.1 ≥ (((y1.2.2.2.1.length : Nat) : Int))) then
  some (y1.1, y1.2.1, y1.2.2.1, y1.2.2.2.1, false)
 else
 bif inb y1.1 y1.2.2.2.1.length then
  (nth y1.2.2.2.1 y1.1.toNat).bind fun x2 =>
  bif x2.1 == 4 then
   some (y1.1, y1.2.1, y1.2.2.1, y1.2.2.2.1, x2.2.1 == d5)
  else
  bif x2.1 == 3 then
   some (y1.1, y1.2.1, y1.2.2.1, y1.2.2.2.1, x2.2.1 == d5)
  else
   some (y1.1, y1.2.1, y1.2.2.1, y1.2.2.2.1, false)
 else
  none
theorem d3D : EqF 15 fun a b => U5 (c6p a b) := fun _ _ _ => by kernel_rfl
theorem d6s (rf rb d1 d2 d3 d4 d5) : c6p rf rb d1 d2 d3 d4 d5 = r15 rf rb d1 d2 d3 d4 d5 := by
 unfold c6p r15; simp only [G3, m9, B5]
def r19 (rf : T.RF) (rb : T.RB) (d1 : List XK) (d2 : Int) : Option Int :=
 bif decide (d2 < 0) then
  some (-1)
 else
 bif decide (d2 ≥ (((d1.length : Nat) : Int))) then
  some (-1)
 else
 bif inb d2 d1.length then
  (nth d1 d2.toNat).bind fun x1 =>
  some x1.2.2
 else
  none
theorem c8z : EqF 19 fun a b => U2 (r19 a b) := fun _ _ _ => by kernel_rfl
theorem c5R {d1 d2 y} (h : r19 T.rf T.rb d1 d2 = some y) : c19 T.rf d1 d2 = some y := c8z.o h
def c6q (rf : T.RF) (rb : T.RB) (d1 : Int) (d2 : Int) (d3 : Int) (d4 : List XK) (d5 : Int) : Option XR :=
 (c16 rf d1 d2 d3 d4).bind fun y1 =>
 bif y1.2.2.2.2 then
  agN 1 (
   (c19 rf y1.2.2.2.1 y1.1).bind fun y2 =>
   some (y1.2.2.2.1, y1.1, d5, y2)
  )
 else
  some (y1.2.2.2.1, y1.1, y1.2.1, y1.2.2.1)
def r18 (rf : T.RF) (rb : T.RB) (d1 : Int) (d2 : Int) (d3 : Int) (d4 : List XK) (d5 : Int) : Option XR :=
 (c16 rf d1 d2 d3 d4).bind fun y1 =>
 bif y1.2.2.2.2 then
  (c19 rf y1.2.2.2.1 y1.1).bind fun y2 =>
  some (y1.2.2.2.1, y1.1, d5, y2)
 else
  some (y1.2.2.2.1, y1.1, y1.2.1, y1.2.2.1)
theorem d3G : EqF 18 fun a b => U5 (c6q a b) := fun _ _ _ => by kernel_rfl
theorem d6t (rf rb d1 d2 d3 d4 d5) : c6q rf rb d1 d2 d3 d4 d5 = r18 rf rb d1 d2 d3 d4 d5 := by
 unfold c6q r18; simp only [G3, m9, B5]
def r17 (rf : T.RF) (rb : T.RB) (d1 : Int) (d2 : Int) (d3 : Int) (d4 : List XK) (d5 : Int) : Option XR :=
 bif decide (d5 ≥ 200) then
  (c18 rf d1 d2 d3 d4 7).bind fun y1 =>
  some y1
 else
  some (d4, d1, d2, d3)
theorem d3F : EqF 17 fun a b => U5 (r17 a b) := fun _ _ _ => by kernel_rfl
def r23 (rf : T.RF) (rb : T.RB) (d1 : XR) : Option (XR × Bool) :=
 some (d1, d1.2.2.1 == 0)
theorem c8D : EqF 23 fun a b => r23 a b := fun _ _ _ => by kernel_rfl
theorem d5B {d1 y} (h : r23 T.rf T.rb d1 = some y) : c23 T.rf d1 = some y := c8D.o h
def c6r (rf : T.RF) (rb : T.RB) (d1 : XR) (d2 : List UInt8) : Option (XR × Bool) :=
 (c23 rf d1).bind fun y1 =>
 bif !y1.2 then
  agN 1 (
   some (y1.1, false)
  )
 else
  agN 1 (
   bif decide (y1.1.2.1 ≥ (((y1.1.1.length : Nat) : Int))) then
   some (y1.1, false)
   else
   bif inb y1.1.2.1 y1.1.1.length then
   (nth y1.1.1 y1.1.2.1.toNat).bind fun x2 =>
   bif x2.1 == 4 then
   some (y1.1, x2.2.1 == d2)
   else
   bif x2.1 == 3 then
   some (y1.1, x2.2.1 == d2)
   else
   some (y1.1, false)
   else
   none
  )
def r22 (rf : T.RF) (rb : T.RB) (d1 : XR) (d2 : List UInt8) : Option (XR × Bool) :=
 (c23 rf d1).bind fun y1 =>
 bif !y1.2 then
  some (y1.1, false)
 else
 bif decide (y1.1.2.1 ≥ (((y1.1.1.length : Nat) : Int))) then
  some (y1.1, false)
 else
 bif inb y1.1.2.1 y1.1.1.length then
  (nth y1.1.1 y1.1.2.1.toNat).bind fun x2 =>
  bif x2.1 == 4 then
   some (y1.1, x2.2.1 == d2)
  else
  bif x2.1 == 3 then
   some (y1.1, x2.2.1 == d2)
  else
   some (y1.1, false)
 else
  none
theorem c8C : EqF 22 fun a b => U2 (c6r a b) := fun _ _ _ => by kernel_rfl
theorem d3i (rf rb d1 d2) : c6r rf rb d1 d2 = r22 rf rb d1 d2 := by
 unfold c6r r22; simp only [G3, m9, B5]
theorem d2A {d1 d2 y} (h : r22 T.rf T.rb d1 d2 = some y) : c22 T.rf d1 d2 = some y := c8C.o ((d3i _ _ _ _).trans h)
def r21 (rf : T.RF) (rb : T.RB) (d1 : XR) (d2 : List UInt8) : Option (XR × Bool) :=
 (c22 rf d1 d2).bind fun y1 =>
 bif !y1.2 then
  some (y1.1, false)
 else
  some ((y1.1.1, IntKind.i64.wrap (y1.1.2.1 + 1), y1.1.2.2), true)
theorem c8B : EqF 21 fun a b => U2 (r21 a b) := fun _ _ _ => by kernel_rfl
theorem d2z {d1 d2 y} (h : r21 T.rf T.rb d1 d2 = some y) : c21 T.rf d1 d2 = some y := c8B.o h
def c6s (rf : T.RF) (rb : T.RB) (d1 : XR) : Option (XR × Bool) :=
 (c23 rf d1).bind fun y1 =>
 bif y1.2 then
  agN 1 (
   bif decide (y1.1.2.1 < (((y1.1.1.length : Nat) : Int))) then
   agN 1 (
   bif inb y1.1.2.1 y1.1.1.length then
   (nth y1.1.1 y1.1.2.1.toNat).bind fun x2 =>
   some (y1.1, x2.1 == 1)
   else
   none
   )
   else
   agN 1 (
   some (y1.1, false)
   )
  )
 else
  agN 1 (
   agN 1 (
   some (y1.1, false)
   )
  )
def r25 (rf : T.RF) (rb : T.RB) (d1 : XR) : Option (XR × Bool) :=
 (c23 rf d1).bind fun y1 =>
 bif y1.2 then
  bif decide (y1.1.2.1 < (((y1.1.1.length : Nat) : Int))) then
   bif inb y1.1.2.1 y1.1.1.length then
   (nth y1.1.1 y1.1.2.1.toNat).bind fun x2 =>
   some (y1.1, x2.1 == 1)
   else
   none
  else
   some (y1.1, false)
 else
  some (y1.1, false)
theorem c8F : EqF 25 fun a b => c6s a b := fun _ _ _ => by kernel_rfl
theorem d3j (rf rb d1) : c6s rf rb d1 = r25 rf rb d1 := by
 unfold c6s r25; simp only [G3, m9, B5]
theorem d2B {d1 y} (h : r25 T.rf T.rb d1 = some y) : c25 T.rf d1 = some y := c8F.o ((d3j _ _ _).trans h)
def c6t (rf : T.RF) (rb : T.RB) (d1 : XR) (d2 : Int) : Option XR :=
 (c23 rf d1).bind fun y1 =>
 bif y1.2 then
  agN 1 (
   (c19 rf y1.1.1 y1.1.2.1).bind fun y2 =>
   some (y1.1.1, y1.1.2.1, d2, y2)
  )
 else
  some y1.1
def r26 (rf : T.RF) (rb : T.RB) (d1 : XR) (d2 : Int) : Option XR :=
 (c23 rf d1).bind fun y1 =>
 bif y1.2 then
  (c19 rf y1.1.1 y1.1.2.1).bind fun y2 =>
  some (y1.1.1, y1.1.2.1, d2, y2)
 else
  some y1.1
theorem c8G : EqF 26 fun a b => U2 (c6t a b) := fun _ _ _ => by kernel_rfl
theorem d3k (rf rb d1 d2) : c6t rf rb d1 d2 = r26 rf rb d1 d2 := by
 unfold c6t r26; simp only [G3, m9, B5]
theorem d2C {d1 d2 y} (h : r26 T.rf T.rb d1 d2 = some y) : c26 T.rf d1 d2 = some y := c8G.o ((d3k _ _ _ _).trans h)
def r24 (rf : T.RF) (rb : T.RB) (d1 : XR) : Option (XR × List UInt8) :=
 (c25 rf d1).bind fun y1 =>
 bif !y1.2 then
  (c26 rf y1.1 5).bind fun y2 =>
  some (y2, ([] : List UInt8))
 else
 bif inb (IntKind.i64.wrap ((IntKind.i64.wrap (y1.1.2.1 + 1)) - 1)) y1.1.1.length then
  (nth y1.1.1 (IntKind.i64.wrap ((IntKind.i64.wrap (y1.1.2.1 + 1)) - 1)).toNat).bind fun x3 =>
  some ((y1.1.1, IntKind.i64.wrap (y1.1.2.1 + 1), y1.1.2.2), x3.2.1)
 else
  none
theorem c8E : EqF 24 fun a b => r24 a b := fun _ _ _ => by kernel_rfl
theorem c5S {d1 y} (h : r24 T.rf T.rb d1 = some y) : c24 T.rf d1 = some y := c8E.o h
def r28 (rf : T.RF) (rb : T.RB) (d1 : XR) (d2 : List UInt8) : Option XR :=
 (c21 rf d1 d2).bind fun y1 =>
 bif !y1.2 then
  (c26 rf y1.1 5).bind fun y2 =>
  some y2
 else
  some y1.1
theorem c8I : EqF 28 fun a b => U2 (r28 a b) := fun _ _ _ => by kernel_rfl
theorem c5T {d1 d2 y} (h : r28 T.rf T.rb d1 d2 = some y) : c28 T.rf d1 d2 = some y := c8I.o h
def r29 (rf : T.RF) (rb : T.RB) (d1 : XR) (d2 : Int) : Option XR :=
 bif decide (d2 ≥ 200) then
  (c26 rf d1 7).bind fun y1 =>
  some y1
 else
  some d1
theorem c8J : EqF 29 fun a b => U2 (r29 a b) := fun _ _ _ => by kernel_rfl
theorem d2D {d1 d2 y} (h : r29 T.rf T.rb d1 d2 = some y) : c29 T.rf d1 d2 = some y := c8J.o h
def r30 (rf : T.RF) (rb : T.RB) (d1 : XR) : Option (XR × XPm) :=
 (c24 rf d1).bind fun y1 =>
 (c28 rf y1.1 ([58] : List UInt8)).bind fun y2 =>
 (c21 rf y2 ([98, 111, 111, 108] : List UInt8)).bind fun y3 =>
 bif y3.2 then
  some (y3.1, y1.2, 1)
 else
  (c21 rf y3.1 ([105, 110, 116] : List UInt8)).bind fun y4 =>
  bif y4.2 then
   some (y4.1, y1.2, 2)
  else
   (c26 rf y4.1 5).bind fun y5 =>
   some (y5, y1.2, 0)
theorem c8K : EqF 30 fun a b => r30 a b := fun _ _ _ => by kernel_rfl
theorem b4g {d1 y} (h : r30 T.rf T.rb d1 = some y) : c30 T.rf d1 = some y := c8K.o h
def b17 (rf : T.RF) (rb : T.RB) (d1 : XR) (d2 : List XPm) : Option ((XR × List XPm) ⊕ XR) :=
 (c23 rf d1).bind fun y1 =>
 bif y1.2 then
  (c29 rf y1.1 (((d2.length : Nat) : Int))).bind fun y2 =>
  (c30 rf y2).bind fun y3 =>
  bif (Nat.ble (d2.length + 1) v8) && true then
   (c21 rf y3.1 ([41] : List UInt8)).bind fun y4 =>
   bif y4.2 then
   some (.inl (y4.1, d2 ++ [y3.2]))
   else
   (c28 rf y4.1 ([59] : List UInt8)).bind fun y5 =>
   k17 rb y5 (d2 ++ [y3.2])
  else
   none
 else
  some (.inr y1.1)
theorem c7s : EqB 17 fun a b => U2 (b17 a b) := fun _ _ _ => by kernel_rfl
theorem a9i {d1 d2 y} (h : b17 T.rf T.rb d1 d2 = some y) : k17 T.rb d1 d2 = some y := c7s.o h
def r27 (rf : T.RF) (rb : T.RB) (d1 : XR) : Option (XR × List XPm) :=
 (c28 rf d1 ([40] : List UInt8)).bind fun y1 =>
 (c21 rf y1 ([41] : List UInt8)).bind fun y2 =>
 bif y2.2 then
  some (y2.1, [])
 else
  (k17 rb y2.1 []).bind fun z3 =>
  match z3 with
  | .inl u4 =>
    some u4
  | .inr w5 =>
    some (w5, [])
theorem c8H : EqF 27 fun a b => r27 a b := fun _ _ _ => by kernel_rfl
theorem b4f {d1 y} (h : r27 T.rf T.rb d1 = some y) : c27 T.rf d1 = some y := c8H.o h
def r32 (rf : T.RF) (rb : T.RB) (d1 : XR) : Option (XR × Bool) :=
 (c22 rf d1 ([97, 115, 115, 117, 109, 101] : List UInt8)).bind fun y1 =>
 bif y1.2 then
  some (y1.1, true)
 else
  (c22 rf y1.1 ([103, 117, 97, 114, 97, 110, 116, 101, 101] : List UInt8)).bind fun y2 =>
  bif y2.2 then
   some (y2.1, true)
  else
   (c22 rf y2.1 ([103, 104, 111, 115, 116] : List UInt8)).bind fun y3 =>
   bif y3.2 then
   some (y3.1, true)
   else
   (c22 rf y3.1 ([109, 111, 100, 101] : List UInt8)).bind fun y4 =>
   bif y4.2 then
   some (y4.1, true)
   else
   (c22 rf y4.1 ([105, 109, 112, 111, 114, 116] : List UInt8)).bind fun y5 =>
   some y5
theorem c8M : EqF 32 fun a b => r32 a b := fun _ _ _ => by kernel_rfl
theorem d2E {d1 y} (h : r32 T.rf T.rb d1 = some y) : c32 T.rf d1 = some y := c8M.o h
def c6v (rf : T.RF) (rb : T.RB) (d1 : XS) (d2 : Int) : Option (XS × List XN) :=
 bif d1.2.2.2.1 == 0 then
  agN 1 (
   (c19 rf d1.1 d1.2.1).bind fun y1 =>
   some ((d1.1, d1.2.1, d1.2.2.1, d2, y1), [])
  )
 else
  some (d1, [])
def r45 (rf : T.RF) (rb : T.RB) (d1 : XS) (d2 : Int) : Option (XS × List XN) :=
 bif d1.2.2.2.1 == 0 then
  (c19 rf d1.1 d1.2.1).bind fun y1 =>
  some ((d1.1, d1.2.1, d1.2.2.1, d2, y1), [])
 else
  some (d1, [])
theorem c8Z : EqF 45 fun a b => U2 (c6v a b) := fun _ _ _ => by kernel_rfl
theorem d3m (rf rb d1 d2) : c6v rf rb d1 d2 = r45 rf rb d1 d2 := by
 unfold c6v r45; simp only [G3, m9, B5]
theorem d2F {d1 d2 y} (h : r45 T.rf T.rb d1 d2 = some y) : c45 T.rf d1 d2 = some y := c8Z.o ((d3m _ _ _ _).trans h)
def r48 (rf : T.RF) (rb : T.RB) (d1 : Int) (d2 : Int) (d3 : List UInt8) : Option XN :=
 some (d1, (-1), (-1), (-1), d2, d3)
theorem c9c : EqF 48 fun a b => U3 (r48 a b) := fun _ _ _ => by kernel_rfl
theorem d5I {d1 d2 d3 y} (h : r48 T.rf T.rb d1 d2 d3 = some y) : c48 T.rf d1 d2 d3 = some y := c9c.o h
def r49 (rf : T.RF) (rb : T.RB) (d1 : XN) : Option (List Int) :=
 bif d1.1 == 4 then
  bif d1.1 == 4 then
   some [d1.2.1]
  else
  bif d1.1 == 26 then
   some [d1.2.1, d1.2.2.1, d1.2.2.2.1]
  else
  bif d1.1 == 27 then
   bif d1.2.1 != (-1) then
   some [d1.2.1]
   else
   some []
  else
  bif d1.1 == 28 then
   bif d1.2.2.1 != (-1) then
   some [d1.2.2.1, d1.2.1]
   else
   some [d1.2.1]
  else
  bif decide (d1.1 ≥ 6) then
   bif decide (d1.1 ≤ 20) then
   some [d1.2.1, d1.2.2.1]
   else
   some []
  else
   some []
 else
 bif d1.1 == 5 then
  bif d1.1 == 5 then
   some [d1.2.1]
  else
  bif d1.1 == 26 then
   some [d1.2.1, d1.2.2.1, d1.2.2.2.1]
  else
  bif d1.1 == 27 then
   bif d1.2.1 != (-1) then
   some [d1.2.1]
   else
   some []
  else
  bif d1.1 == 28 then
   bif d1.2.2.1 != (-1) then
   some [d1.2.2.1, d1.2.1]
   else
   some [d1.2.1]
  else
  bif decide (d1.1 ≥ 6) then
   bif decide (d1.1 ≤ 20) then
   some [d1.2.1, d1.2.2.1]
   else
   some []
  else
   some []
 else
 bif d1.1 == 21 then
  bif d1.1 == 21 then
   some [d1.2.1]
  else
  bif d1.1 == 26 then
   some [d1.2.1, d1.2.2.1, d1.2.2.2.1]
  else
  bif d1.1 == 27 then
   bif d1.2.1 != (-1) then
   some [d1.2.1]
   else
   some []
  else
  bif d1.1 == 28 then
   bif d1.2.2.1 != (-1) then
   some [d1.2.2.1, d1.2.1]
   else
   some [d1.2.1]
  else
  bif decide (d1.1 ≥ 6) then
   bif decide (d1.1 ≤ 20) then
   some [d1.2.1, d1.2.2.1]
   else
   some []
  else
   some []
 else
 bif d1.1 == 22 then
  bif d1.1 == 22 then
   some [d1.2.1]
  else
  bif d1.1 == 26 then
   some [d1.2.1, d1.2.2.1, d1.2.2.2.1]
  else
  bif d1.1 == 27 then
   bif d1.2.1 != (-1) then
   some [d1.2.1]
   else
   some []
  else
  bif d1.1 == 28 then
   bif d1.2.2.1 != (-1) then
   some [d1.2.2.1, d1.2.1]
   else
   some [d1.2.1]
  else
  bif decide (d1.1 ≥ 6) then
   bif decide (d1.1 ≤ 20) then
   some [d1.2.1, d1.2.2.1]
   else
   some []
  else
   some []
 else
 bif d1.1 == 23 then
  bif d1.1 == 23 then
   some [d1.2.1]
  else
  bif d1.1 == 26 then
   some [d1.2.1, d1.2.2.1, d1.2.2.2.1]
  else
  bif d1.1 == 27 then
   bif d1.2.1 != (-1) then
   some [d1.2.1]
   else
   some []
  else
  bif d1.1 == 28 then
   bif d1.2.2.1 != (-1) then
   some [d1.2.2.1, d1.2.1]
   else
   some [d1.2.1]
  else
  bif decide (d1.1 ≥ 6) then
   bif decide (d1.1 ≤ 20) then
   some [d1.2.1, d1.2.2.1]
   else
   some []
  else
   some []
 else
 bif d1.1 == 24 then
  bif d1.1 == 24 then
   some [d1.2.1]
  else
  bif d1.1 == 26 then
   some [d1.2.1, d1.2.2.1, d1.2.2.2.1]
  else
  bif d1.1 == 27 then
   bif d1.2.1 != (-1) then
   some [d1.2.1]
   else
   some []
  else
  bif d1.1 == 28 then
   bif d1.2.2.1 != (-1) then
   some [d1.2.2.1, d1.2.1]
   else
   some [d1.2.1]
  else
  bif decide (d1.1 ≥ 6) then
   bif decide (d1.1 ≤ 20) then
   some [d1.2.1, d1.2.2.1]
   else
   some []
  else
   some []
 else
 bif d1.1 == 25 then
  some [d1.2.1]
 else
 bif d1.1 == 26 then
  some [d1.2.1, d1.2.2.1, d1.2.2.2.1]
 else
 bif d1.1 == 27 then
  bif d1.2.1 != (-1) then
   some [d1.2.1]
  else
   some []
 else
 bif d1.1 == 28 then
  bif d1.2.2.1 != (-1) then
   some [d1.2.2.1, d1.2.1]
  else
   some [d1.2.1]
 else
 bif decide (d1.1 ≥ 6) then
  bif decide (d1.1 ≤ 20) then
   some [d1.2.1, d1.2.2.1]
  else
   some []
 else
  some []
theorem c9d : EqF 49 fun a b => r49 a b := fun _ _ _ => by kernel_rfl
theorem d5J {d1 y} (h : r49 T.rf T.rb d1 = some y) : c49 T.rf d1 = some y := c9d.o h
def r51 (rf : T.RF) (rb : T.RB) (d1 : XN) (d2 : Int) : Option XN :=
 bif decide (d1.2.1 ≥ 0) then
  bif decide (d1.2.2.1 ≥ 0) then
   bif decide (d1.2.2.2.1 ≥ 0) then
   some (d1.1, IntKind.i64.wrap (d1.2.1 + d2), IntKind.i64.wrap (d1.2.2.1 + d2), IntKind.i64.wrap (d1.2.2.2.1 + d2), d1.2.2.2.2)
   else
   some (d1.1, IntKind.i64.wrap (d1.2.1 + d2), IntKind.i64.wrap (d1.2.2.1 + d2), d1.2.2.2)
  else
  bif decide (d1.2.2.2.1 ≥ 0) then
   some (d1.1, IntKind.i64.wrap (d1.2.1 + d2), d1.2.2.1, IntKind.i64.wrap (d1.2.2.2.1 + d2), d1.2.2.2.2)
  else
   some (d1.1, IntKind.i64.wrap (d1.2.1 + d2), d1.2.2)
 else
 bif decide (d1.2.2.1 ≥ 0) then
  bif decide (d1.2.2.2.1 ≥ 0) then
   some (d1.1, d1.2.1, IntKind.i64.wrap (d1.2.2.1 + d2), IntKind.i64.wrap (d1.2.2.2.1 + d2), d1.2.2.2.2)
  else
   some (d1.1, d1.2.1, IntKind.i64.wrap (d1.2.2.1 + d2), d1.2.2.2)
 else
 bif decide (d1.2.2.2.1 ≥ 0) then
  some (d1.1, d1.2.1, d1.2.2.1, IntKind.i64.wrap (d1.2.2.2.1 + d2), d1.2.2.2.2)
 else
  some d1
theorem c9f : EqF 51 fun a b => U2 (r51 a b) := fun _ _ _ => by kernel_rfl
theorem d5L {d1 d2 y} (h : r51 T.rf T.rb d1 d2 = some y) : c51 T.rf d1 d2 = some y := c9f.o h
def b22 (rf : T.RF) (rb : T.RB) (d1 : List XN) (d2 : List XN) (d3 : Int) (d4 : Int) : Option (List XN) :=
 bif decide (d4 < (((d2.length : Nat) : Int))) then
  bif inb d4 d2.length then
   (nth d2 d4.toNat).bind fun x1 =>
   (c51 rf x1 d3).bind fun y2 =>
   bif (Nat.ble (d1.length + 1) v8) && true then
   k22 rb (d1 ++ [y2]) d2 d3 (IntKind.i64.wrap (d4 + 1))
   else
   none
  else
   none
 else
  some d1
theorem c7C : EqB 22 fun a b => U4 (b22 a b) := fun _ _ _ => by kernel_rfl
theorem d1I {d1 d2 d3 d4 y} (h : b22 T.rf T.rb d1 d2 d3 d4 = some y) : k22 T.rb d1 d2 d3 d4 = some y := c7C.o h
def r50 (rf : T.RF) (rb : T.RB) (d1 : List XN) (d2 : List XN) : Option (List XN) :=
 (k22 rb d1 d2 (((d1.length : Nat) : Int)) 0).bind fun z1 =>
 some z1
theorem c9e : EqF 50 fun a b => U2 (r50 a b) := fun _ _ _ => by kernel_rfl
theorem d5K {d1 d2 y} (h : r50 T.rf T.rb d1 d2 = some y) : c50 T.rf d1 d2 = some y := c9e.o h
def r52 (rf : T.RF) (rb : T.RB) (d1 : XN) (d2 : List Int) : Option XN :=
 bif d1.1 == 28 then
  bif (((d2.length : Nat) : Int)) == 2 then
   bif inb 0 d2.length then
   (nth d2 0).bind fun x1 =>
   bif inb 1 d2.length then
   (nth d2 1).bind fun x2 =>
   some (d1.1, x2, x1, d1.2.2.2)
   else
   none
   else
   none
  else
  bif decide ((((d2.length : Nat) : Int)) > 0) then
   bif inb 0 d2.length then
   (nth d2 0).bind fun x3 =>
   bif decide ((((d2.length : Nat) : Int)) > 1) then
   bif inb 1 d2.length then
   (nth d2 1).bind fun x4 =>
   bif decide ((((d2.length : Nat) : Int)) > 2) then
   bif inb 2 d2.length then
   (nth d2 2).bind fun x5 =>
   some (d1.1, x3, x4, x5, d1.2.2.2.2)
   else
   none
   else
   some (d1.1, x3, x4, d1.2.2.2)
   else
   none
   else
   bif decide ((((d2.length : Nat) : Int)) > 2) then
   bif inb 2 d2.length then
   (nth d2 2).bind fun x6 =>
   some (d1.1, x3, d1.2.2.1, x6, d1.2.2.2.2)
   else
   none
   else
   some (d1.1, x3, d1.2.2)
   else
   none
  else
  bif decide ((((d2.length : Nat) : Int)) > 1) then
   bif inb 1 d2.length then
   (nth d2 1).bind fun x7 =>
   bif decide ((((d2.length : Nat) : Int)) > 2) then
   bif inb 2 d2.length then
   (nth d2 2).bind fun x8 =>
   some (d1.1, d1.2.1, x7, x8, d1.2.2.2.2)
   else
   none
   else
   some (d1.1, d1.2.1, x7, d1.2.2.2)
   else
   none
  else
  bif decide ((((d2.length : Nat) : Int)) > 2) then
   bif inb 2 d2.length then
   (nth d2 2).bind fun x9 =>
   some (d1.1, d1.2.1, d1.2.2.1, x9, d1.2.2.2.2)
   else
   none
  else
   some d1
 else
 bif decide ((((d2.length : Nat) : Int)) > 0) then
  bif inb 0 d2.length then
   (nth d2 0).bind fun x10 =>
   bif decide ((((d2.length : Nat) : Int)) > 1) then
   bif inb 1 d2.length then
   (nth d2 1).bind fun x11 =>
   bif decide ((((d2.length : Nat) : Int)) > 2) then
   bif inb 2 d2.length then
   (nth d2 2).bind fun x12 =>
   some (d1.1, x10, x11, x12, d1.2.2.2.2)
   else
   none
   else
   some (d1.1, x10, x11, d1.2.2.2)
   else
   none
   else
   bif decide ((((d2.length : Nat) : Int)) > 2) then
   bif inb 2 d2.length then
   (nth d2 2).bind fun x13 =>
   some (d1.1, x10, d1.2.2.1, x13, d1.2.2.2.2)
   else
   none
   else
   some (d1.1, x10, d1.2.2)
  else
   none
 else
 bif decide ((((d2.length : Nat) : Int)) > 1) then
  bif inb 1 d2.length then
   (nth d2 1).bind fun x14 =>
   bif decide ((((d2.length : Nat) : Int)) > 2) then
   bif inb 2 d2.length then
   (nth d2 2).bind fun x15 =>
   some (d1.1, d1.2.1, x14, x15, d1.2.2.2.2)
   else
   none
   else
   some (d1.1, d1.2.1, x14, d1.2.2.2)
  else
   none
 else
 bif decide ((((d2.length : Nat) : Int)) > 2) then
  bif inb 2 d2.length then
   (nth d2 2).bind fun x16 =>
   some (d1.1, d1.2.1, d1.2.2.1, x16, d1.2.2.2.2)
  else
   none
 else
  some d1
theorem c9g : EqF 52 fun a b => U2 (r52 a b) := fun _ _ _ => by kernel_rfl
theorem d5M {d1 d2 y} (h : r52 T.rf T.rb d1 d2 = some y) : c52 T.rf d1 d2 = some y := c9g.o h
def b23 (rf : T.RF) (rb : T.RB) (d1 : List XN) (d2 : List Int) (d3 : Int) (d4 : List (List XN)) (d5 : Int) (d6 : Int) : Option ((List XN) ⊕ (List XN × List Int × Int)) :=
 bif decide (d6 < (((d4.length : Nat) : Int))) then
  bif inb d6 d4.length then
   (nth d4 d6.toNat).bind fun x1 =>
   bif (((x1.length : Nat) : Int)) == 0 then
   some (.inl [])
   else
   bif inb d6 d4.length then
   (nth d4 d6.toNat).bind fun x2 =>
   (c50 rf d1 x2).bind fun y3 =>
   bif (Nat.ble (d2.length + 1) v8) && true then
   bif d3 == 27 then
   (c48 rf 28 0 ([] : List UInt8)).bind fun y4 =>
   bif (Nat.ble (y3.length + 1) v8) && true then
   k23 rb (y3 ++ [(y4.1, IntKind.i64.wrap ((((y3.length : Nat) : Int)) - 1), d5, y4.2.2.2)]) (d2 ++ [IntKind.i64.wrap ((((y3.length : Nat) : Int)) - 1)]) d3 d4 (((y3.length : Nat) : Int)) (IntKind.i64.wrap (d6 + 1))
   else
   none
   else
   k23 rb y3 (d2 ++ [IntKind.i64.wrap ((((y3.length : Nat) : Int)) - 1)]) d3 d4 d5 (IntKind.i64.wrap (d6 + 1))
   else
   none
   else
   none
  else
   none
 else
  some (.inr (d1, d2, d5))
theorem c7D : EqB 23 fun a b => U6 (b23 a b) := fun _ _ _ => by kernel_rfl
theorem d1J {d1 d2 d3 d4 d5 d6 y} (h : b23 T.rf T.rb d1 d2 d3 d4 d5 d6 = some y) : k23 T.rb d1 d2 d3 d4 d5 d6 = some y := c7D.o h
def r47 (rf : T.RF) (rb : T.RB) (d1 : Int) (d2 : Int) (d3 : List UInt8) (d4 : List (List XN)) : Option (List XN) :=
 (c48 rf d1 d2 d3).bind fun y1 =>
 (c49 rf y1).bind fun y2 =>
 bif d1 == 28 then
  some []
 else
 bif d1 != 27 then
  bif (((y2.length : Nat) : Int)) != (((d4.length : Nat) : Int)) then
   some []
  else
   (k23 rb [] [] d1 d4 (-1) 0).bind fun z3 =>
   match z3 with
   | .inl u4 =>
     some u4
   | .inr w5 =>
     bif d1 == 27 then
      bif (Nat.ble (w5.1.length + 1) v8) && true then
       some (w5.1 ++ [(y1.1, w5.2.2, y1.2.2)])
      else
       none
     else
      (c52 rf y1 w5.2.1).bind fun y6 =>
      bif (Nat.ble (w5.1.length + 1) v8) && true then
       some (w5.1 ++ [y6])
      else
       none
 else
  (k23 rb [] [] d1 d4 (-1) 0).bind fun z7 =>
  match z7 with
  | .inl u8 =>
    some u8
  | .inr w9 =>
    bif d1 == 27 then
     bif (Nat.ble (w9.1.length + 1) v8) && true then
      some (w9.1 ++ [(y1.1, w9.2.2, y1.2.2)])
     else
      none
    else
     (c52 rf y1 w9.2.1).bind fun y10 =>
     bif (Nat.ble (w9.1.length + 1) v8) && true then
      some (w9.1 ++ [y10])
     else
      none
theorem c9b : EqF 47 fun a b => U4 (r47 a b) := fun _ _ _ => by kernel_rfl
theorem d5H {d1 d2 d3 d4 y} (h : r47 T.rf T.rb d1 d2 d3 d4 = some y) : c47 T.rf d1 d2 d3 d4 = some y := c9b.o h
def r55 (rf : T.RF) (rb : T.RB) (d1 : XS) (d2 : List UInt8) : Option (XS × Bool) :=
 bif d1.2.2.2.1 != 0 then
  some (d1, false)
 else
 bif decide (d1.2.1 ≥ (((d1.1.length : Nat) : Int))) then
  some (d1, false)
 else
 bif inb d1.2.1 d1.1.length then
  (nth d1.1 d1.2.1.toNat).bind fun x1 =>
  bif x1.1 == 4 then
   some (d1, x1.2.1 == d2)
  else
  bif x1.1 == 3 then
   some (d1, x1.2.1 == d2)
  else
   some (d1, false)
 else
  none
theorem c9j : EqF 55 fun a b => U2 (r55 a b) := fun _ _ _ => by kernel_rfl
theorem d2H {d1 d2 y} (h : r55 T.rf T.rb d1 d2 = some y) : c55 T.rf d1 d2 = some y := c9j.o h
def r54 (rf : T.RF) (rb : T.RB) (d1 : XS) (d2 : List UInt8) : Option (XS × Bool) :=
 (c55 rf d1 d2).bind fun y1 =>
 bif !y1.2 then
  some (y1.1, false)
 else
  some ((y1.1.1, IntKind.i64.wrap (y1.1.2.1 + 1), y1.1.2.2), true)
theorem c9i : EqF 54 fun a b => U2 (r54 a b) := fun _ _ _ => by kernel_rfl
theorem d2G {d1 d2 y} (h : r54 T.rf T.rb d1 d2 = some y) : c54 T.rf d1 d2 = some y := c9i.o h
def r57 (rf : T.RF) (rb : T.RB) (d1 : XS) (d2 : List UInt8) : Option XS :=
 (c54 rf d1 d2).bind fun y1 =>
 bif !y1.2 then
  (c45 rf y1.1 5).bind fun y2 =>
  some y2.1
 else
  some y1.1
theorem c9l : EqF 57 fun a b => U2 (r57 a b) := fun _ _ _ => by kernel_rfl
theorem c5Y {d1 d2 y} (h : r57 T.rf T.rb d1 d2 = some y) : c57 T.rf d1 d2 = some y := c9l.o h
def b25 (rf : T.RF) (rb : T.RB) (d1 : XS) (d2 : List (List XN)) : Option ((XS × List (List XN)) ⊕ XS) :=
 bif d1.2.2.2.1 == 0 then
  (c36 rf d1).bind fun y1 =>
  bif (Nat.ble (d2.length + 1) v8) && true then
   (c54 rf y1.1 ([41] : List UInt8)).bind fun y2 =>
   bif y2.2 then
   some (.inl (y2.1, d2 ++ [y1.2]))
   else
   (c57 rf y2.1 ([44] : List UInt8)).bind fun y3 =>
   k25 rb y3 (d2 ++ [y1.2])
  else
   none
 else
  some (.inr d1)
theorem c7E : EqB 25 fun a b => U2 (b25 a b) := fun _ _ _ => by kernel_rfl
theorem c5F {d1 d2 y} (h : b25 T.rf T.rb d1 d2 = some y) : k25 T.rb d1 d2 = some y := c7E.o h
def r56 (rf : T.RF) (rb : T.RB) (d1 : XS) : Option (XS × List (List XN)) :=
 (c54 rf d1 ([41] : List UInt8)).bind fun y1 =>
 bif y1.2 then
  some (y1.1, [])
 else
  (k25 rb y1.1 []).bind fun z2 =>
  match z2 with
  | .inl u3 =>
    some u3
  | .inr w4 =>
    some (w4, [])
theorem c9k : EqF 56 fun a b => r56 a b := fun _ _ _ => by kernel_rfl
theorem b6K {d1 y} (h : r56 T.rf T.rb d1 = some y) : c56 T.rf d1 = some y := c9k.o h
def r53 (rf : T.RF) (rb : T.RB) (d1 : XS) (d2 : List UInt8) : Option (XS × List XN) :=
 (c54 rf (d1.1, IntKind.i64.wrap (d1.2.1 + 1), d1.2.2) ([40] : List UInt8)).bind fun y1 =>
 bif !y1.2 then
  (c47 rf 3 0 d2 []).bind fun y2 =>
  some (y1.1, y2)
 else
  (c56 rf y1.1).bind fun y3 =>
  bif y3.1.2.2.2.1 != 0 then
   some (y3.1, [])
  else
   (c47 rf 27 0 d2 y3.2).bind fun y4 =>
   some (y3.1, y4)
theorem c9h : EqF 53 fun a b => U2 (r53 a b) := fun _ _ _ => by kernel_rfl
theorem b6J {d1 d2 y} (h : r53 T.rf T.rb d1 d2 = some y) : c53 T.rf d1 d2 = some y := c9h.o h
def r58 (rf : T.RF) (rb : T.RB) (d1 : List UInt8) : Option Int :=
 bif d1 == ([110, 111, 116] : List UInt8) then
  some 4
 else
 bif d1 == ([45] : List UInt8) then
  some 5
 else
 bif d1 == ([112, 114, 101] : List UInt8) then
  some 21
 else
 bif d1 == ([111, 110, 99, 101] : List UInt8) then
  some 22
 else
 bif d1 == ([104, 105, 115, 116] : List UInt8) then
  some 23
 else
 bif d1 == ([112, 114, 101, 118] : List UInt8) then
  some 24
 else
 bif d1 == ([119, 105, 116, 104, 105, 110] : List UInt8) then
  some 25
 else
  some 0
theorem c9m : EqF 58 fun a b => r58 a b := fun _ _ _ => by kernel_rfl
theorem b6L {d1 y} (h : r58 T.rf T.rb d1 = some y) : c58 T.rf d1 = some y := c9m.o h
def r59 (rf : T.RF) (rb : T.RB) (d1 : XS) : Option (XS × List XN) :=
 bif decide ((IntKind.i64.wrap (d1.2.1 + 1)) ≥ (((d1.1.length : Nat) : Int))) then
  (c45 rf (d1.1, IntKind.i64.wrap (d1.2.1 + 1), d1.2.2) 5).bind fun y1 =>
  some y1
 else
 bif inb (IntKind.i64.wrap (d1.2.1 + 1)) d1.1.length then
  (nth d1.1 (IntKind.i64.wrap (d1.2.1 + 1)).toNat).bind fun x2 =>
  bif x2.1 != 2 then
   (c45 rf (d1.1, IntKind.i64.wrap (d1.2.1 + 1), d1.2.2) 5).bind fun y3 =>
   some y3
  else
  bif inb (IntKind.i64.wrap (d1.2.1 + 1)) d1.1.length then
   (nth d1.1 (IntKind.i64.wrap (d1.2.1 + 1)).toNat).bind fun x4 =>
   (c7 rf x4.2.1).bind fun y5 =>
   bif decide (y5 > 1000) then
   (c45 rf (d1.1, IntKind.i64.wrap (d1.2.1 + 1), d1.2.2) 5).bind fun y6 =>
   some y6
   else
   bif inb (IntKind.i64.wrap (d1.2.1 + 1)) d1.1.length then
   (nth d1.1 (IntKind.i64.wrap (d1.2.1 + 1)).toNat).bind fun x7 =>
   (c7 rf x7.2.1).bind fun y8 =>
   (c44 rf (d1.1, IntKind.i64.wrap ((IntKind.i64.wrap (d1.2.1 + 1)) + 1), d1.2.2)).bind fun y9 =>
   bif y9.1.2.2.2.1 != 0 then
   some (y9.1, [])
   else
   (c47 rf 25 y8 ([] : List UInt8) [y9.2]).bind fun y10 =>
   some (y9.1, y10)
   else
   none
  else
   none
 else
  none
theorem c9n : EqF 59 fun a b => r59 a b := fun _ _ _ => by kernel_rfl
theorem b6M {d1 y} (h : r59 T.rf T.rb d1 = some y) : c59 T.rf d1 = some y := c9n.o h
def r60 (rf : T.RF) (rb : T.RB) (d1 : XS) : Option (XS × List XN) :=
 (c36 rf d1).bind fun y1 =>
 (c57 rf y1.1 ([116, 104, 101, 110] : List UInt8)).bind fun y2 =>
 (c36 rf y2).bind fun y3 =>
 (c57 rf y3.1 ([101, 108, 115, 101] : List UInt8)).bind fun y4 =>
 (c36 rf y4).bind fun y5 =>
 bif y5.1.2.2.2.1 != 0 then
  some (y5.1, [])
 else
  (c47 rf 26 0 ([] : List UInt8) [y1.2, y3.2, y5.2]).bind fun y6 =>
  some (y5.1, y6)
theorem c9o : EqF 60 fun a b => r60 a b := fun _ _ _ => by kernel_rfl
theorem b4i {d1 y} (h : r60 T.rf T.rb d1 = some y) : c60 T.rf d1 = some y := c9o.o h
def r46 (rf : T.RF) (rb : T.RB) (d1 : XS) (d2 : XK) : Option (XS × List XN) :=
 bif d2.1 == 2 then
  (c7 rf d2.2.1).bind fun y1 =>
  (c47 rf 1 y1 ([] : List UInt8) []).bind fun y2 =>
  some ((d1.1, IntKind.i64.wrap (d1.2.1 + 1), d1.2.2), y2)
 else
 bif d2.1 == 1 then
  (c53 rf d1 d2.2.1).bind fun y3 =>
  some y3
 else
 bif d2.1 != 4 then
  bif d2.1 != 3 then
   (c45 rf d1 5).bind fun y4 =>
   some y4
  else
   (c58 rf d2.2.1).bind fun y5 =>
   bif y5 == 25 then
   (c59 rf d1).bind fun y6 =>
   some y6
   else
   bif decide (y5 > 0) then
   (c44 rf (d1.1, IntKind.i64.wrap (d1.2.1 + 1), d1.2.2)).bind fun y7 =>
   bif y7.1.2.2.2.1 != 0 then
   some (y7.1, [])
   else
   (c47 rf y5 0 ([] : List UInt8) [y7.2]).bind fun y8 =>
   some (y7.1, y8)
   else
   (c54 rf d1 ([116, 114, 117, 101] : List UInt8)).bind fun y9 =>
   bif y9.2 then
   (c47 rf 2 1 ([] : List UInt8) []).bind fun y10 =>
   some (y9.1, y10)
   else
   (c54 rf y9.1 ([102, 97, 108, 115, 101] : List UInt8)).bind fun y11 =>
   bif y11.2 then
   (c47 rf 2 0 ([] : List UInt8) []).bind fun y12 =>
   some (y11.1, y12)
   else
   (c54 rf y11.1 ([40] : List UInt8)).bind fun y13 =>
   bif y13.2 then
   (c36 rf y13.1).bind fun y14 =>
   (c57 rf y14.1 ([41] : List UInt8)).bind fun y15 =>
   some (y15, y14.2)
   else
   (c54 rf y13.1 ([105, 102] : List UInt8)).bind fun y16 =>
   bif y16.2 then
   (c60 rf y16.1).bind fun y17 =>
   some y17
   else
   (c45 rf y16.1 5).bind fun y18 =>
   some y18
 else
  (c58 rf d2.2.1).bind fun y19 =>
  bif y19 == 25 then
   (c59 rf d1).bind fun y20 =>
   some y20
  else
  bif decide (y19 > 0) then
   (c44 rf (d1.1, IntKind.i64.wrap (d1.2.1 + 1), d1.2.2)).bind fun y21 =>
   bif y21.1.2.2.2.1 != 0 then
   some (y21.1, [])
   else
   (c47 rf y19 0 ([] : List UInt8) [y21.2]).bind fun y22 =>
   some (y21.1, y22)
  else
   (c54 rf d1 ([116, 114, 117, 101] : List UInt8)).bind fun y23 =>
   bif y23.2 then
   (c47 rf 2 1 ([] : List UInt8) []).bind fun y24 =>
   some (y23.1, y24)
   else
   (c54 rf y23.1 ([102, 97, 108, 115, 101] : List UInt8)).bind fun y25 =>
   bif y25.2 then
   (c47 rf 2 0 ([] : List UInt8) []).bind fun y26 =>
   some (y25.1, y26)
   else
   (c54 rf y25.1 ([40] : List UInt8)).bind fun y27 =>
   bif y27.2 then
   (c36 rf y27.1).bind fun y28 =>
   (c57 rf y28.1 ([41] : List UInt8)).bind fun y29 =>
   some (y29, y28.2)
   else
   (c54 rf y27.1 ([105, 102] : List UInt8)).bind fun y30 =>
   bif y30.2 then
   (c60 rf y30.1).bind fun y31 =>
   some y31
   else
   (c45 rf y30.1 5).bind fun y32 =>
   some y32
theorem c9a : EqF 46 fun a b => U2 (r46 a b) := fun _ _ _ => by kernel_rfl
theorem b4h {d1 d2 y} (h : r46 T.rf T.rb d1 d2 = some y) : c46 T.rf d1 d2 = some y := c9a.o h
def r44 (rf : T.RF) (rb : T.RB) (d1 : XS) : Option (XS × List XN) :=
 bif d1.2.2.2.1 != 0 then
  some (d1, [])
 else
 bif decide (d1.2.2.1 ≥ 200) then
  (c45 rf d1 6).bind fun y1 =>
  some y1
 else
 bif decide (d1.2.1 ≥ (((d1.1.length : Nat) : Int))) then
  (c45 rf d1 5).bind fun y2 =>
  some y2
 else
 bif inb d1.2.1 d1.1.length then
  (nth d1.1 d1.2.1.toNat).bind fun x3 =>
  (c46 rf (d1.1, d1.2.1, IntKind.i64.wrap (d1.2.2.1 + 1), d1.2.2.2) x3).bind fun y4 =>
  some ((y4.1.1, y4.1.2.1, IntKind.i64.wrap (y4.1.2.2.1 - 1), y4.1.2.2.2), y4.2)
 else
  none
theorem c8Y : EqF 44 fun a b => r44 a b := fun _ _ _ => by kernel_rfl
theorem b9i {d1 y} (h : r44 T.rf T.rb d1 = some y) : c44 T.rf d1 = some y := c8Y.o h
def r61 (rf : T.RF) (rb : T.RB) (d1 : XS) (d2 : Int) (d3 : List XN) (d4 : List XN) : Option (XS × List XN) :=
 bif d1.2.2.2.1 != 0 then
  some (d1, [])
 else
  (c47 rf d2 0 ([] : List UInt8) [d3, d4]).bind fun y1 =>
  some (d1, y1)
theorem c9p : EqF 61 fun a b => U4 (r61 a b) := fun _ _ _ => by kernel_rfl
theorem d2I {d1 d2 d3 d4 y} (h : r61 T.rf T.rb d1 d2 d3 d4 = some y) : c61 T.rf d1 d2 d3 d4 = some y := c9p.o h
def b27 (rf : T.RF) (rb : T.RB) (d1 : XS) (d2 : List XN) : Option (XS × List XN) :=
 (c55 rf d1 ([42] : List UInt8)).bind fun y1 =>
 bif y1.2 then
  (c55 rf y1.1 ([100, 105, 118] : List UInt8)).bind fun y2 =>
  bif y2.2 then
   (c55 rf y2.1 ([109, 111, 100] : List UInt8)).bind fun y3 =>
   bif y3.2 then
   (c44 rf (y3.1.1, IntKind.i64.wrap (y3.1.2.1 + 1), y3.1.2.2)).bind fun y4 =>
   (c61 rf y4.1 18 d2 y4.2).bind fun y5 =>
   k27 rb y5.1 y5.2
   else
   (c44 rf (y3.1.1, IntKind.i64.wrap (y3.1.2.1 + 1), y3.1.2.2)).bind fun y6 =>
   (c61 rf y6.1 17 d2 y6.2).bind fun y7 =>
   k27 rb y7.1 y7.2
  else
   (c55 rf y2.1 ([109, 111, 100] : List UInt8)).bind fun y8 =>
   bif y8.2 then
   (c44 rf (y8.1.1, IntKind.i64.wrap (y8.1.2.1 + 1), y8.1.2.2)).bind fun y9 =>
   (c61 rf y9.1 18 d2 y9.2).bind fun y10 =>
   k27 rb y10.1 y10.2
   else
   (c44 rf (y8.1.1, IntKind.i64.wrap (y8.1.2.1 + 1), y8.1.2.2)).bind fun y11 =>
   (c61 rf y11.1 16 d2 y11.2).bind fun y12 =>
   k27 rb y12.1 y12.2
 else
  (c55 rf y1.1 ([100, 105, 118] : List UInt8)).bind fun y13 =>
  bif y13.2 then
   (c55 rf y13.1 ([100, 105, 118] : List UInt8)).bind fun y14 =>
   bif y14.2 then
   (c55 rf y14.1 ([109, 111, 100] : List UInt8)).bind fun y15 =>
   bif y15.2 then
   (c44 rf (y15.1.1, IntKind.i64.wrap (y15.1.2.1 + 1), y15.1.2.2)).bind fun y16 =>
   (c61 rf y16.1 18 d2 y16.2).bind fun y17 =>
   k27 rb y17.1 y17.2
   else
   (c44 rf (y15.1.1, IntKind.i64.wrap (y15.1.2.1 + 1), y15.1.2.2)).bind fun y18 =>
   (c61 rf y18.1 17 d2 y18.2).bind fun y19 =>
   k27 rb y19.1 y19.2
   else
   (c55 rf y14.1 ([109, 111, 100] : List UInt8)).bind fun y20 =>
   bif y20.2 then
   (c44 rf (y20.1.1, IntKind.i64.wrap (y20.1.2.1 + 1), y20.1.2.2)).bind fun y21 =>
   (c61 rf y21.1 18 d2 y21.2).bind fun y22 =>
   k27 rb y22.1 y22.2
   else
   (c44 rf (y20.1.1, IntKind.i64.wrap (y20.1.2.1 + 1), y20.1.2.2)).bind fun y23 =>
   (c61 rf y23.1 16 d2 y23.2).bind fun y24 =>
   k27 rb y24.1 y24.2
  else
   (c55 rf y13.1 ([109, 111, 100] : List UInt8)).bind fun y25 =>
   bif y25.2 then
   (c55 rf y25.1 ([100, 105, 118] : List UInt8)).bind fun y26 =>
   bif y26.2 then
   (c55 rf y26.1 ([109, 111, 100] : List UInt8)).bind fun y27 =>
   bif y27.2 then
   (c44 rf (y27.1.1, IntKind.i64.wrap (y27.1.2.1 + 1), y27.1.2.2)).bind fun y28 =>
   (c61 rf y28.1 18 d2 y28.2).bind fun y29 =>
   k27 rb y29.1 y29.2
   else
   (c44 rf (y27.1.1, IntKind.i64.wrap (y27.1.2.1 + 1), y27.1.2.2)).bind fun y30 =>
   (c61 rf y30.1 17 d2 y30.2).bind fun y31 =>
   k27 rb y31.1 y31.2
   else
   (c55 rf y26.1 ([109, 111, 100] : List UInt8)).bind fun y32 =>
   bif y32.2 then
   (c44 rf (y32.1.1, IntKind.i64.wrap (y32.1.2.1 + 1), y32.1.2.2)).bind fun y33 =>
   (c61 rf y33.1 18 d2 y33.2).bind fun y34 =>
   k27 rb y34.1 y34.2
   else
   (c44 rf (y32.1.1, IntKind.i64.wrap (y32.1.2.1 + 1), y32.1.2.2)).bind fun y35 =>
   (c61 rf y35.1 16 d2 y35.2).bind fun y36 =>
   k27 rb y36.1 y36.2
   else
   some (y25.1, d2)
theorem c7F : EqB 27 fun a b => U2 (b27 a b) := fun _ _ _ => by kernel_rfl
theorem d1K {d1 d2 y} (h : b27 T.rf T.rb d1 d2 = some y) : k27 T.rb d1 d2 = some y := c7F.o h
def r43 (rf : T.RF) (rb : T.RB) (d1 : XS) : Option (XS × List XN) :=
 (c44 rf d1).bind fun y1 =>
 (k27 rb y1.1 y1.2).bind fun z2 =>
 some z2
theorem c8X : EqF 43 fun a b => r43 a b := fun _ _ _ => by kernel_rfl
theorem d5G {d1 y} (h : r43 T.rf T.rb d1 = some y) : c43 T.rf d1 = some y := c8X.o h
def b29 (rf : T.RF) (rb : T.RB) (d1 : XS) (d2 : List XN) : Option (XS × List XN) :=
 (c55 rf d1 ([43] : List UInt8)).bind fun y1 =>
 bif y1.2 then
  (c55 rf y1.1 ([45] : List UInt8)).bind fun y2 =>
  bif y2.2 then
   (c43 rf (y2.1.1, IntKind.i64.wrap (y2.1.2.1 + 1), y2.1.2.2)).bind fun y3 =>
   (c61 rf y3.1 15 d2 y3.2).bind fun y4 =>
   k29 rb y4.1 y4.2
  else
   (c43 rf (y2.1.1, IntKind.i64.wrap (y2.1.2.1 + 1), y2.1.2.2)).bind fun y5 =>
   (c61 rf y5.1 14 d2 y5.2).bind fun y6 =>
   k29 rb y6.1 y6.2
 else
  (c55 rf y1.1 ([45] : List UInt8)).bind fun y7 =>
  bif y7.2 then
   (c55 rf y7.1 ([45] : List UInt8)).bind fun y8 =>
   bif y8.2 then
   (c43 rf (y8.1.1, IntKind.i64.wrap (y8.1.2.1 + 1), y8.1.2.2)).bind fun y9 =>
   (c61 rf y9.1 15 d2 y9.2).bind fun y10 =>
   k29 rb y10.1 y10.2
   else
   (c43 rf (y8.1.1, IntKind.i64.wrap (y8.1.2.1 + 1), y8.1.2.2)).bind fun y11 =>
   (c61 rf y11.1 14 d2 y11.2).bind fun y12 =>
   k29 rb y12.1 y12.2
  else
   some (y7.1, d2)
theorem c7G : EqB 29 fun a b => U2 (b29 a b) := fun _ _ _ => by kernel_rfl
theorem d1L {d1 d2 y} (h : b29 T.rf T.rb d1 d2 = some y) : k29 T.rb d1 d2 = some y := c7G.o h
def r42 (rf : T.RF) (rb : T.RB) (d1 : XS) : Option (XS × List XN) :=
 (c43 rf d1).bind fun y1 =>
 (k29 rb y1.1 y1.2).bind fun z2 =>
 some z2
theorem c8W : EqF 42 fun a b => r42 a b := fun _ _ _ => by kernel_rfl
theorem d5F {d1 y} (h : r42 T.rf T.rb d1 = some y) : c42 T.rf d1 = some y := c8W.o h
def r41 (rf : T.RF) (rb : T.RB) (d1 : XS) : Option (XS × List XN) :=
 (c42 rf d1).bind fun y1 =>
 (c54 rf y1.1 ([61] : List UInt8)).bind fun y2 =>
 bif y2.2 then
  (c42 rf y2.1).bind fun y3 =>
  (c61 rf y3.1 10 y1.2 y3.2).bind fun y4 =>
  some y4
 else
  (c54 rf y2.1 ([60, 62] : List UInt8)).bind fun y5 =>
  bif y5.2 then
   (c42 rf y5.1).bind fun y6 =>
   (c61 rf y6.1 11 y1.2 y6.2).bind fun y7 =>
   some y7
  else
   (c54 rf y5.1 ([60] : List UInt8)).bind fun y8 =>
   bif y8.2 then
   (c42 rf y8.1).bind fun y9 =>
   (c61 rf y9.1 12 y1.2 y9.2).bind fun y10 =>
   some y10
   else
   (c54 rf y8.1 ([60, 61] : List UInt8)).bind fun y11 =>
   bif y11.2 then
   (c42 rf y11.1).bind fun y12 =>
   (c61 rf y12.1 13 y1.2 y12.2).bind fun y13 =>
   some y13
   else
   (c54 rf y11.1 ([62] : List UInt8)).bind fun y14 =>
   bif y14.2 then
   (c42 rf y14.1).bind fun y15 =>
   (c61 rf y15.1 12 y15.2 y1.2).bind fun y16 =>
   some y16
   else
   (c54 rf y14.1 ([62, 61] : List UInt8)).bind fun y17 =>
   bif y17.2 then
   (c42 rf y17.1).bind fun y18 =>
   (c61 rf y18.1 13 y18.2 y1.2).bind fun y19 =>
   some y19
   else
   some (y17.1, y1.2)
theorem c8V : EqF 41 fun a b => r41 a b := fun _ _ _ => by kernel_rfl
theorem c5X {d1 y} (h : r41 T.rf T.rb d1 = some y) : c41 T.rf d1 = some y := c8V.o h
def b31 (rf : T.RF) (rb : T.RB) (d1 : XS) (d2 : List XN) : Option (XS × List XN) :=
 (c54 rf d1 ([97, 110, 100] : List UInt8)).bind fun y1 =>
 bif y1.2 then
  (c41 rf y1.1).bind fun y2 =>
  (c61 rf y2.1 6 d2 y2.2).bind fun y3 =>
  k31 rb y3.1 y3.2
 else
  some (y1.1, d2)
theorem c7H : EqB 31 fun a b => U2 (b31 a b) := fun _ _ _ => by kernel_rfl
theorem d1M {d1 d2 y} (h : b31 T.rf T.rb d1 d2 = some y) : k31 T.rb d1 d2 = some y := c7H.o h
def r40 (rf : T.RF) (rb : T.RB) (d1 : XS) : Option (XS × List XN) :=
 (c41 rf d1).bind fun y1 =>
 (k31 rb y1.1 y1.2).bind fun z2 =>
 some z2
theorem c8U : EqF 40 fun a b => r40 a b := fun _ _ _ => by kernel_rfl
theorem d5E {d1 y} (h : r40 T.rf T.rb d1 = some y) : c40 T.rf d1 = some y := c8U.o h
def b33 (rf : T.RF) (rb : T.RB) (d1 : XS) (d2 : List XN) : Option (XS × List XN) :=
 (c55 rf d1 ([111, 114] : List UInt8)).bind fun y1 =>
 bif y1.2 then
  (c55 rf y1.1 ([120, 111, 114] : List UInt8)).bind fun y2 =>
  bif y2.2 then
   (c40 rf (y2.1.1, IntKind.i64.wrap (y2.1.2.1 + 1), y2.1.2.2)).bind fun y3 =>
   (c61 rf y3.1 8 d2 y3.2).bind fun y4 =>
   k33 rb y4.1 y4.2
  else
   (c40 rf (y2.1.1, IntKind.i64.wrap (y2.1.2.1 + 1), y2.1.2.2)).bind fun y5 =>
   (c61 rf y5.1 7 d2 y5.2).bind fun y6 =>
   k33 rb y6.1 y6.2
 else
  (c55 rf y1.1 ([120, 111, 114] : List UInt8)).bind fun y7 =>
  bif y7.2 then
   (c55 rf y7.1 ([120, 111, 114] : List UInt8)).bind fun y8 =>
   bif y8.2 then
   (c40 rf (y8.1.1, IntKind.i64.wrap (y8.1.2.1 + 1), y8.1.2.2)).bind fun y9 =>
   (c61 rf y9.1 8 d2 y9.2).bind fun y10 =>
   k33 rb y10.1 y10.2
   else
   (c40 rf (y8.1.1, IntKind.i64.wrap (y8.1.2.1 + 1), y8.1.2.2)).bind fun y11 =>
   (c61 rf y11.1 7 d2 y11.2).bind fun y12 =>
   k33 rb y12.1 y12.2
  else
   some (y7.1, d2)
theorem c7I : EqB 33 fun a b => U2 (b33 a b) := fun _ _ _ => by kernel_rfl
theorem d1N {d1 d2 y} (h : b33 T.rf T.rb d1 d2 = some y) : k33 T.rb d1 d2 = some y := c7I.o h
def r39 (rf : T.RF) (rb : T.RB) (d1 : XS) : Option (XS × List XN) :=
 (c40 rf d1).bind fun y1 =>
 (k33 rb y1.1 y1.2).bind fun z2 =>
 some z2
theorem c8T : EqF 39 fun a b => r39 a b := fun _ _ _ => by kernel_rfl
theorem d5D {d1 y} (h : r39 T.rf T.rb d1 = some y) : c39 T.rf d1 = some y := c8T.o h
def b35 (rf : T.RF) (rb : T.RB) (d1 : XS) (d2 : List XN) : Option (XS × List XN) :=
 (c54 rf d1 ([115, 105, 110, 99, 101] : List UInt8)).bind fun y1 =>
 bif y1.2 then
  (c39 rf y1.1).bind fun y2 =>
  (c61 rf y2.1 20 d2 y2.2).bind fun y3 =>
  k35 rb y3.1 y3.2
 else
  some (y1.1, d2)
theorem c7J : EqB 35 fun a b => U2 (b35 a b) := fun _ _ _ => by kernel_rfl
theorem d1O {d1 d2 y} (h : b35 T.rf T.rb d1 d2 = some y) : k35 T.rb d1 d2 = some y := c7J.o h
def r38 (rf : T.RF) (rb : T.RB) (d1 : XS) : Option (XS × List XN) :=
 (c39 rf d1).bind fun y1 =>
 (k35 rb y1.1 y1.2).bind fun z2 =>
 some z2
theorem c8S : EqF 38 fun a b => r38 a b := fun _ _ _ => by kernel_rfl
theorem d5C {d1 y} (h : r38 T.rf T.rb d1 = some y) : c38 T.rf d1 = some y := c8S.o h
def r37 (rf : T.RF) (rb : T.RB) (d1 : XS) : Option (XS × List XN) :=
 (c38 rf d1).bind fun y1 =>
 (c54 rf y1.1 ([61, 62] : List UInt8)).bind fun y2 =>
 bif y2.2 then
  (c37 rf y2.1).bind fun y3 =>
  (c61 rf y3.1 9 y1.2 y3.2).bind fun y4 =>
  some y4
 else
  some (y2.1, y1.2)
theorem c8R : EqF 37 fun a b => r37 a b := fun _ _ _ => by kernel_rfl
theorem c5W {d1 y} (h : r37 T.rf T.rb d1 = some y) : c37 T.rf d1 = some y := c8R.o h
def r36 (rf : T.RF) (rb : T.RB) (d1 : XS) : Option (XS × List XN) :=
 (c37 rf d1).bind fun y1 =>
 (c54 rf y1.1 ([45, 62] : List UInt8)).bind fun y2 =>
 bif y2.2 then
  (c36 rf y2.1).bind fun y3 =>
  (c61 rf y3.1 19 y1.2 y3.2).bind fun y4 =>
  some y4
 else
  some (y2.1, y1.2)
theorem c8Q : EqF 36 fun a b => r36 a b := fun _ _ _ => by kernel_rfl
theorem c5V {d1 y} (h : r36 T.rf T.rb d1 = some y) : c36 T.rf d1 = some y := c8Q.o h
def b43 (rf : T.RF) (rb : T.RB) (d1 : List Int) (d2 : List XN) (d3 : Int) : Option (List Int) :=
 bif decide (d3 < (((d2.length : Nat) : Int))) then
  bif inb d3 d1.length then
   bif Nat.blt d3.toNat d1.length then
   bif inb d3 d2.length then
   (nth d2 d3.toNat).bind fun x1 =>
   (c49 rf x1).bind fun y2 =>
   (k44 rb (s6 d1 d3.toNat 1) y2 d3 0).bind fun z3 =>
   k43 rb z3.1 d2 (IntKind.i64.wrap (d3 + 1))
   else
   none
   else
   none
  else
   none
 else
  some d1
theorem c7K : EqB 43 fun a b => U3 (b43 a b) := fun _ _ _ => by kernel_rfl
theorem d1P {d1 d2 d3 y} (h : b43 T.rf T.rb d1 d2 d3 = some y) : k43 T.rb d1 d2 d3 = some y := c7K.o h
def c4J (rf : T.RF) (rb : T.RB) (d1 : List Int) (d2 : List Int) (d3 : Int) (d4 : Int) : Option (List Int × List Int) :=
 bif decide (d4 < (((d2.length : Nat) : Int))) then
  bif inb d4 d2.length then
   (nth d2 d4.toNat).bind fun x1 =>
   bif decide (x1 ≥ 0) then
   bif inb d4 d2.length then
   (nth d2 d4.toNat).bind fun x2 =>
   bif decide (x2 < d3) then
   bif inb d3 d1.length then
   bif inb d4 d2.length then
   (nth d2 d4.toNat).bind fun x3 =>
   bif inb x3 d1.length then
   l8 (
   (nth d1 d3.toNat).bind fun x4 =>
   (nth d1 x3.toNat).bind fun x5 =>
   bif inb d3 d1.length then
   bif Nat.blt d3.toNat d1.length then
   k44 rb (s6 d1 d3.toNat (if (IntKind.i64.wrap (x5 + 1)) > x4 then (IntKind.i64.wrap (x5 + 1)) else x4)) d2 d3 (IntKind.i64.wrap (d4 + 1))
   else
   none
   else
   none
   ) (
   (nth d1 x3.toNat).bind fun x4 =>
   (nth d1 d3.toNat).bind fun x5 =>
   bif inb d3 d1.length then
   bif Nat.blt d3.toNat d1.length then
   k44 rb (s6 d1 d3.toNat (if (IntKind.i64.wrap (x4 + 1)) > x5 then (IntKind.i64.wrap (x4 + 1)) else x5)) d2 d3 (IntKind.i64.wrap (d4 + 1))
   else
   none
   else
   none
   )
   else
   none
   else
   none
   else
   none
   else
   k44 rb d1 d2 d3 (IntKind.i64.wrap (d4 + 1))
   else
   none
   else
   k44 rb d1 d2 d3 (IntKind.i64.wrap (d4 + 1))
  else
   none
 else
  some (d1, d2)
def b44 (rf : T.RF) (rb : T.RB) (d1 : List Int) (d2 : List Int) (d3 : Int) (d4 : Int) : Option (List Int × List Int) :=
 bif decide (d4 < (((d2.length : Nat) : Int))) then
  bif inb d4 d2.length then
   (nth d2 d4.toNat).bind fun x1 =>
   bif decide (x1 ≥ 0) then
   bif inb d4 d2.length then
   (nth d2 d4.toNat).bind fun x2 =>
   bif decide (x2 < d3) then
   bif inb d3 d1.length then
   bif inb d4 d2.length then
   (nth d2 d4.toNat).bind fun x3 =>
   bif inb x3 d1.length then
   (nth d1 d3.toNat).bind fun x4 =>
   (nth d1 x3.toNat).bind fun x5 =>
   bif inb d3 d1.length then
   bif Nat.blt d3.toNat d1.length then
   k44 rb (s6 d1 d3.toNat (if (IntKind.i64.wrap (x5 + 1)) > x4 then (IntKind.i64.wrap (x5 + 1)) else x4)) d2 d3 (IntKind.i64.wrap (d4 + 1))
   else
   none
   else
   none
   else
   none
   else
   none
   else
   none
   else
   k44 rb d1 d2 d3 (IntKind.i64.wrap (d4 + 1))
   else
   none
   else
   k44 rb d1 d2 d3 (IntKind.i64.wrap (d4 + 1))
  else
   none
 else
  some (d1, d2)
theorem c7L : EqB 44 fun a b => U4 (c4J a b) := fun _ _ _ => by kernel_rfl
theorem d3c (rf rb d1 d2 d3 d4) : c4J rf rb d1 d2 d3 d4 = b44 rf rb d1 d2 d3 d4 := by
 unfold c4J b44; simp only [G3, m9, B5]
theorem d1Q {d1 d2 d3 d4 y} (h : b44 T.rf T.rb d1 d2 d3 d4 = some y) : k44 T.rb d1 d2 d3 d4 = some y := c7L.o ((d3c _ _ _ _ _ _).trans h)
def r62 (rf : T.RF) (rb : T.RB) (d1 : List XN) : Option Int :=
 bif G5 (((d1.length : Nat) : Int)) v8 then
  bif G5 (((d1.length : Nat) : Int)) d1.length then
   (k43 rb (List.replicate d1.length (0 : Int)) d1 0).bind fun z1 =>
   bif (((d1.length : Nat) : Int)) == 0 then
   some 0
   else
   bif inb (IntKind.i64.wrap ((((d1.length : Nat) : Int)) - 1)) z1.length then
   (nth z1 (IntKind.i64.wrap ((((d1.length : Nat) : Int)) - 1)).toNat).bind fun x2 =>
   some x2
   else
   none
  else
   none
 else
  none
theorem c9q : EqF 62 fun a b => r62 a b := fun _ _ _ => by kernel_rfl
theorem d5N {d1 y} (h : r62 T.rf T.rb d1 = some y) : c62 T.rf d1 = some y := c9q.o h
def b46 (rf : T.RF) (rb : T.RB) (d1 : Int × Int) (d2 : List XK) (d3 : Int) : Option (((Int × Int) × List XN × Int) ⊕ ((Int × Int) × List XN × Int)) :=
 (c36 rf (d2, d3, 0, 0, 0)).bind fun y1 =>
 bif y1.1.2.2.2.1 != 0 then
  some (.inl (y1.1.2.2.2, [], 0))
 else
 bif decide ((((y1.2.length : Nat) : Int)) > 5000) then
  (c19 rf d2 d3).bind fun y2 =>
  some (.inl ((7, y2), [], 0))
 else
  (c62 rf y1.2).bind fun y3 =>
  bif decide (y3 > 40) then
   (c19 rf d2 d3).bind fun y4 =>
   some (.inl ((6, y4), [], 0))
  else
   some (.inr ((0, 0), y1.2, y1.1.2.1))
theorem c7M : EqB 46 fun a b => U3 (b46 a b) := fun _ _ _ => by kernel_rfl
theorem b9b {d1 d2 d3 y} (h : b46 T.rf T.rb d1 d2 d3 = some y) : k46 T.rb d1 d2 d3 = some y := c7M.o h
def r35 (rf : T.RF) (rb : T.RB) (d1 : List XK) (d2 : Int) : Option (List XN × Int × Int × Int) :=
 bif decide (d2 < 0) then
  (k46 rb (0, 0) d1 (((d1.length : Nat) : Int))).bind fun z1 =>
  match z1 with
  | .inl u2 =>
    some (u2.2.1, u2.2.2, u2.1)
  | .inr w3 =>
    some (w3.2.1, w3.2.2, w3.1)
 else
 bif decide (d2 > (((d1.length : Nat) : Int))) then
  (k46 rb (0, 0) d1 (((d1.length : Nat) : Int))).bind fun z4 =>
  match z4 with
  | .inl u5 =>
    some (u5.2.1, u5.2.2, u5.1)
  | .inr w6 =>
    some (w6.2.1, w6.2.2, w6.1)
 else
  (k46 rb (0, 0) d1 d2).bind fun z7 =>
  match z7 with
  | .inl u8 =>
    some (u8.2.1, u8.2.2, u8.1)
  | .inr w9 =>
    some (w9.2.1, w9.2.2, w9.1)
theorem c8P : EqF 35 fun a b => U2 (r35 a b) := fun _ _ _ => by kernel_rfl
theorem c5U {d1 d2 y} (h : r35 T.rf T.rb d1 d2 = some y) : c35 T.rf d1 d2 = some y := c8P.o h
def b47 (rf : T.RF) (rb : T.RB) (d1 : XR) (d2 : Int × Int) (d3 : List XN) (d4 : Int) : Option (XR × (Int × Int) × List XN) :=
 bif d2.1 != 0 then
  some ((d1.1, d1.2.1, d2), d2, [])
 else
  some ((d1.1, d4, d1.2.2), d2, d3)
theorem c7N : EqB 47 fun a b => U4 (b47 a b) := fun _ _ _ => by kernel_rfl
theorem c5G {d1 d2 d3 d4 y} (h : b47 T.rf T.rb d1 d2 d3 d4 = some y) : k47 T.rb d1 d2 d3 d4 = some y := c7N.o h
def c6u (rf : T.RF) (rb : T.RB) (d1 : XR) : Option (XR × List XN) :=
 (c23 rf d1).bind fun y1 =>
 bif !y1.2 then
  some (y1.1, [])
 else
  agN 1 (
   (c35 rf y1.1.1 y1.1.2.1).bind fun y2 =>
   (k47 rb y1.1 y2.2.2 y2.1 y2.2.1).bind fun z3 =>
   some (z3.1, z3.2.2)
  )
def r34 (rf : T.RF) (rb : T.RB) (d1 : XR) : Option (XR × List XN) :=
 (c23 rf d1).bind fun y1 =>
 bif !y1.2 then
  some (y1.1, [])
 else
  (c35 rf y1.1.1 y1.1.2.1).bind fun y2 =>
  (k47 rb y1.1 y2.2.2 y2.1 y2.2.1).bind fun z3 =>
  some (z3.1, z3.2.2)
theorem c8O : EqF 34 fun a b => c6u a b := fun _ _ _ => by kernel_rfl
theorem d3l (rf rb d1) : c6u rf rb d1 = r34 rf rb d1 := by
 unfold c6u r34; simp only [G3, m9, B5]
theorem c1o {d1 y} (h : r34 T.rf T.rb d1 = some y) : c34 T.rf d1 = some y := c8O.o ((d3l _ _ _).trans h)
def b49 (rf : T.RF) (rb : T.RB) (d1 : XR) (d2 : List (List XN)) : Option ((XR × List (List XN)) ⊕ XR) :=
 (c23 rf d1).bind fun y1 =>
 bif y1.2 then
  (c29 rf y1.1 (((d2.length : Nat) : Int))).bind fun y2 =>
  (c34 rf y2).bind fun y3 =>
  bif (Nat.ble (d2.length + 1) v8) && true then
   (c21 rf y3.1 ([41] : List UInt8)).bind fun y4 =>
   bif y4.2 then
   some (.inl (y4.1, d2 ++ [y3.2]))
   else
   (c28 rf y4.1 ([44] : List UInt8)).bind fun y5 =>
   k49 rb y5 (d2 ++ [y3.2])
  else
   none
 else
  some (.inr y1.1)
theorem c7O : EqB 49 fun a b => U2 (b49 a b) := fun _ _ _ => by kernel_rfl
theorem a9j {d1 d2 y} (h : b49 T.rf T.rb d1 d2 = some y) : k49 T.rb d1 d2 = some y := c7O.o h
def r63 (rf : T.RF) (rb : T.RB) (d1 : XR) : Option (XR × List (List XN)) :=
 (c28 rf d1 ([40] : List UInt8)).bind fun y1 =>
 (c21 rf y1 ([41] : List UInt8)).bind fun y2 =>
 bif y2.2 then
  some (y2.1, [])
 else
  (k49 rb y2.1 []).bind fun z3 =>
  match z3 with
  | .inl u4 =>
    some u4
  | .inr w5 =>
    some (w5, [])
theorem c9r : EqF 63 fun a b => r63 a b := fun _ _ _ => by kernel_rfl
theorem b4j {d1 y} (h : r63 T.rf T.rb d1 = some y) : c63 T.rf d1 = some y := c9r.o h
def r33 (rf : T.RF) (rb : T.RB) (d1 : XR) : Option (XR × XIt × Bool) :=
 (c21 rf d1 ([97, 115, 115, 117, 109, 101] : List UInt8)).bind fun y1 =>
 bif y1.2 then
  (c34 rf y1.1).bind fun y2 =>
  (c28 rf y2.1 ([59] : List UInt8)).bind fun y3 =>
  some (y3, (1, ([] : List UInt8), 0, y2.2, [], []), true)
 else
  (c21 rf y1.1 ([103, 117, 97, 114, 97, 110, 116, 101, 101] : List UInt8)).bind fun y4 =>
  bif y4.2 then
   (c34 rf y4.1).bind fun y5 =>
   (c28 rf y5.1 ([59] : List UInt8)).bind fun y6 =>
   some (y6, (2, ([] : List UInt8), 0, y5.2, [], []), true)
  else
   (c21 rf y4.1 ([103, 104, 111, 115, 116] : List UInt8)).bind fun y7 =>
   bif y7.2 then
   (c30 rf y7.1).bind fun y8 =>
   (c28 rf y8.1 ([61] : List UInt8)).bind fun y9 =>
   (c34 rf y9).bind fun y10 =>
   (c28 rf y10.1 ([59] : List UInt8)).bind fun y11 =>
   some (y11, (3, y8.2.1, y8.2.2, y10.2, [], []), true)
   else
   (c21 rf y7.1 ([109, 111, 100, 101] : List UInt8)).bind fun y12 =>
   bif y12.2 then
   (c24 rf y12.1).bind fun y13 =>
   (c28 rf y13.1 ([114, 101, 113, 117, 105, 114, 101] : List UInt8)).bind fun y14 =>
   (c34 rf y14).bind fun y15 =>
   (c28 rf y15.1 ([101, 110, 115, 117, 114, 101] : List UInt8)).bind fun y16 =>
   (c34 rf y16).bind fun y17 =>
   (c28 rf y17.1 ([59] : List UInt8)).bind fun y18 =>
   some (y18, (4, y13.2, 0, y15.2, y17.2, []), true)
   else
   (c21 rf y12.1 ([105, 109, 112, 111, 114, 116] : List UInt8)).bind fun y19 =>
   bif y19.2 then
   (c24 rf y19.1).bind fun y20 =>
   (c63 rf y20.1).bind fun y21 =>
   (c28 rf y21.1 ([59] : List UInt8)).bind fun y22 =>
   some (y22, (5, y20.2, 0, [], [], y21.2), true)
   else
   some (y19.1, (0, ([] : List UInt8), 0, [], [], []), false)
theorem c8N : EqF 33 fun a b => r33 a b := fun _ _ _ => by kernel_rfl
theorem W5 {d1 y} (h : r33 T.rf T.rb d1 = some y) : c33 T.rf d1 = some y := c8N.o h
def b50 (rf : T.RF) (rb : T.RB) (d1 : XR) (d2 : List XIt) : Option (XR × List XIt) :=
 (c32 rf d1).bind fun y1 =>
 bif y1.2 then
  (c29 rf y1.1 (((d2.length : Nat) : Int))).bind fun y2 =>
  (c33 rf y2).bind fun y3 =>
  bif y3.2.2 then
   bif (Nat.ble (d2.length + 1) v8) && true then
   k50 rb y3.1 (d2 ++ [y3.2.1])
   else
   none
  else
   k50 rb y3.1 d2
 else
  some (y1.1, d2)
theorem c7P : EqB 50 fun a b => U2 (b50 a b) := fun _ _ _ => by kernel_rfl
theorem b1k {d1 d2 y} (h : b50 T.rf T.rb d1 d2 = some y) : k50 T.rb d1 d2 = some y := c7P.o h
def r31 (rf : T.RF) (rb : T.RB) (d1 : XR) : Option (XR × List XIt) :=
 (k50 rb d1 []).bind fun z1 =>
 (c28 rf z1.1 ([101, 110, 100] : List UInt8)).bind fun y2 =>
 some (y2, z1.2)
theorem c8L : EqF 31 fun a b => r31 a b := fun _ _ _ => by kernel_rfl
theorem b9h {d1 y} (h : r31 T.rf T.rb d1 = some y) : c31 T.rf d1 = some y := c8L.o h
def b52 (rf : T.RF) (rb : T.RB) (d1 : XR) (d2 : List XPm) : Option ((XR × List XPm) ⊕ XR) :=
 (c23 rf d1).bind fun y1 =>
 bif y1.2 then
  (c29 rf y1.1 (((d2.length : Nat) : Int))).bind fun y2 =>
  (c30 rf y2).bind fun y3 =>
  bif (Nat.ble (d2.length + 1) v8) && true then
   (c28 rf y3.1 ([59] : List UInt8)).bind fun y4 =>
   (c25 rf y4).bind fun y5 =>
   bif !y5.2 then
   some (.inl (y5.1, d2 ++ [y3.2]))
   else
   k52 rb y5.1 (d2 ++ [y3.2])
  else
   none
 else
  some (.inr y1.1)
theorem c7Q : EqB 52 fun a b => U2 (b52 a b) := fun _ _ _ => by kernel_rfl
theorem b1l {d1 d2 y} (h : b52 T.rf T.rb d1 d2 = some y) : k52 T.rb d1 d2 = some y := c7Q.o h
def r64 (rf : T.RF) (rb : T.RB) (d1 : XR) : Option (XR × List XPm) :=
 (k52 rb d1 []).bind fun z1 =>
 match z1 with
 | .inl u2 =>
   some u2
 | .inr w3 =>
   some (w3, [])
theorem c9s : EqF 64 fun a b => r64 a b := fun _ _ _ => by kernel_rfl
theorem c1p {d1 y} (h : r64 T.rf T.rb d1 = some y) : c64 T.rf d1 = some y := c9s.o h
def b54 (rf : T.RF) (rb : T.RB) (d1 : XR) (d2 : List XEq) : Option (XR × List XEq) :=
 (c25 rf d1).bind fun y1 =>
 bif y1.2 then
  (c29 rf y1.1 (((d2.length : Nat) : Int))).bind fun y2 =>
  (c24 rf y2).bind fun y3 =>
  (c28 rf y3.1 ([61] : List UInt8)).bind fun y4 =>
  (c34 rf y4).bind fun y5 =>
  (c28 rf y5.1 ([59] : List UInt8)).bind fun y6 =>
  bif (Nat.ble (d2.length + 1) v8) && true then
   k54 rb y6 (d2 ++ [(y3.2, y5.2)])
  else
   none
 else
  some (y1.1, d2)
theorem c7R : EqB 54 fun a b => U2 (b54 a b) := fun _ _ _ => by kernel_rfl
theorem a8s {d1 d2 y} (h : b54 T.rf T.rb d1 d2 = some y) : k54 T.rb d1 d2 = some y := c7R.o h
def r65 (rf : T.RF) (rb : T.RB) (d1 : XR) : Option (XR × List XEq) :=
 (k54 rb d1 []).bind fun z1 =>
 (c28 rf z1.1 ([116, 101, 108] : List UInt8)).bind fun y2 =>
 some (y2, z1.2)
theorem c9t : EqF 65 fun a b => r65 a b := fun _ _ _ => by kernel_rfl
theorem b9j {d1 y} (h : r65 T.rf T.rb d1 = some y) : c65 T.rf d1 = some y := c9t.o h
def r20 (rf : T.RF) (rb : T.RB) (d1 : XR) : Option (XR × XUn) :=
 (c21 rf d1 ([99, 111, 110, 116, 114, 97, 99, 116] : List UInt8)).bind fun y1 =>
 bif y1.2 then
  (c24 rf y1.1).bind fun y2 =>
  (c27 rf y2.1).bind fun y3 =>
  (c31 rf y3.1).bind fun y4 =>
  some (y4.1, true, y2.2, y3.2, ([] : List UInt8), 0, [], [], y4.2)
 else
  (c28 rf y1.1 ([110, 111, 100, 101] : List UInt8)).bind fun y5 =>
  (c24 rf y5).bind fun y6 =>
  (c27 rf y6.1).bind fun y7 =>
  (c28 rf y7.1 ([114, 101, 116, 117, 114, 110, 115] : List UInt8)).bind fun y8 =>
  (c28 rf y8 ([40] : List UInt8)).bind fun y9 =>
  (c30 rf y9).bind fun y10 =>
  (c28 rf y10.1 ([41] : List UInt8)).bind fun y11 =>
  (c21 rf y11 ([99, 111, 110, 116, 114, 97, 99, 116] : List UInt8)).bind fun y12 =>
  bif y12.2 then
   (c31 rf y12.1).bind fun y13 =>
   (c21 rf y13.1 ([118, 97, 114] : List UInt8)).bind fun y14 =>
   bif y14.2 then
   (c64 rf y14.1).bind fun y15 =>
   (c28 rf y15.1 ([108, 101, 116] : List UInt8)).bind fun y16 =>
   (c65 rf y16).bind fun y17 =>
   some (y17.1, false, y6.2, y7.2, y10.2.1, y10.2.2, y15.2, y17.2, y13.2)
   else
   (c28 rf y14.1 ([108, 101, 116] : List UInt8)).bind fun y18 =>
   (c65 rf y18).bind fun y19 =>
   some (y19.1, false, y6.2, y7.2, y10.2.1, y10.2.2, [], y19.2, y13.2)
  else
   (c21 rf y12.1 ([118, 97, 114] : List UInt8)).bind fun y20 =>
   bif y20.2 then
   (c64 rf y20.1).bind fun y21 =>
   (c28 rf y21.1 ([108, 101, 116] : List UInt8)).bind fun y22 =>
   (c65 rf y22).bind fun y23 =>
   some (y23.1, false, y6.2, y7.2, y10.2.1, y10.2.2, y21.2, y23.2, [])
   else
   (c28 rf y20.1 ([108, 101, 116] : List UInt8)).bind fun y24 =>
   (c65 rf y24).bind fun y25 =>
   some (y25.1, false, y6.2, y7.2, y10.2.1, y10.2.2, [], y25.2, [])
theorem c8A : EqF 20 fun a b => r20 a b := fun _ _ _ => by kernel_rfl
theorem a3g {d1 y} (h : r20 T.rf T.rb d1 = some y) : c20 T.rf d1 = some y := c8A.o h
def c4K (rf : T.RF) (rb : T.RB) (d1 : XR) (d2 : List UInt8) (d3 : List UInt8) (d4 : List XUn) : Option (XR × List UInt8 × List UInt8 × List XUn) :=
 (c22 rf d1 ([110, 111, 100, 101] : List UInt8)).bind fun y1 =>
 bif y1.2 then
  (c29 rf y1.1 (((d4.length : Nat) : Int))).bind fun y2 =>
  l8 (
   (c20 rf y2).bind fun y3 =>
   bif (Nat.ble (d4.length + 1) v8) && true then
   k69 rb y3.1 d2 d3 (d4 ++ [y3.2])
   else
   none
  ) (
   (c20 rf y2).bind fun y3 =>
   agN 1 (
   bif (Nat.ble (d4.length + 1) v8) && true then
   k69 rb y3.1 d2 d3 (d4 ++ [y3.2])
   else
   none
   )
  )
 else
  (c22 rf y1.1 ([99, 111, 110, 116, 114, 97, 99, 116] : List UInt8)).bind fun y4 =>
  bif y4.2 then
   (c29 rf y4.1 (((d4.length : Nat) : Int))).bind fun y5 =>
   l8 (
   (c20 rf y5).bind fun y6 =>
   bif (Nat.ble (d4.length + 1) v8) && true then
   k69 rb y6.1 d2 d3 (d4 ++ [y6.2])
   else
   none
   ) (
   (c20 rf y5).bind fun y6 =>
   agN 1 (
   bif (Nat.ble (d4.length + 1) v8) && true then
   k69 rb y6.1 d2 d3 (d4 ++ [y6.2])
   else
   none
   )
   )
  else
   some (y4.1, d2, d3, d4)
def b69 (rf : T.RF) (rb : T.RB) (d1 : XR) (d2 : List UInt8) (d3 : List UInt8) (d4 : List XUn) : Option (XR × List UInt8 × List UInt8 × List XUn) :=
 (c22 rf d1 ([110, 111, 100, 101] : List UInt8)).bind fun y1 =>
 bif y1.2 then
  (c29 rf y1.1 (((d4.length : Nat) : Int))).bind fun y2 =>
  (c20 rf y2).bind fun y3 =>
  bif (Nat.ble (d4.length + 1) v8) && true then
   k69 rb y3.1 d2 d3 (d4 ++ [y3.2])
  else
   none
 else
  (c22 rf y1.1 ([99, 111, 110, 116, 114, 97, 99, 116] : List UInt8)).bind fun y4 =>
  bif y4.2 then
   (c29 rf y4.1 (((d4.length : Nat) : Int))).bind fun y5 =>
   (c20 rf y5).bind fun y6 =>
   bif (Nat.ble (d4.length + 1) v8) && true then
   k69 rb y6.1 d2 d3 (d4 ++ [y6.2])
   else
   none
  else
   some (y4.1, d2, d3, d4)
theorem c7S : EqB 69 fun a b => U4 (c4K a b) := fun _ _ _ => by kernel_rfl
theorem d3d (rf rb d1 d2 d3 d4) : c4K rf rb d1 d2 d3 d4 = b69 rf rb d1 d2 d3 d4 := by
 unfold c4K b69; simp only [G3, m9, B5]
theorem b9c {d1 d2 d3 d4 y} (h : b69 T.rf T.rb d1 d2 d3 d4 = some y) : k69 T.rb d1 d2 d3 d4 = some y := c7S.o ((d3d _ _ _ _ _ _).trans h)
end
end Go.Proofs.YtlobhcgbmpcdlaaGreatDoor.R
