import Derived.Test.YtadonikkibahnaaGreatBmF
import Derived.Test.YtadonikkibahnaaGreatProg
import Derived.KernelRfl
namespace Go.Proofs.YtadonikkibahnaaGreat.R
open Go Go.Bm Go.Proofs
set_option linter.unusedVariables false
set_option linter.unusedSimpArgs false
set_option maxRecDepth 100000
abbrev XO : Type := Int × Int × Int × Int × Int
abbrev XOc : CT := (.prod (.int .i64) (.prod (.int .i64) (.prod (.int .i64) (.prod (.int .i64) (.int .i64)))))
abbrev XT : Type := List XO × List Int × List Int
abbrev XTc : CT := (.prod (.list XOc) (.prod (.list (.int .i64)) (.list (.int .i64))))
abbrev XN : Type := Int × Int × Int × Int × Int × List UInt8
abbrev XNc : CT := (.prod (.int .i64) (.prod (.int .i64) (.prod (.int .i64) (.prod (.int .i64) (.prod (.int .i64) .str)))))
abbrev XL : Type := List XN
abbrev XLc : CT := (.list XNc)
abbrev XS : Type := List UInt8 × Int × XL
abbrev XSc : CT := (.prod .str (.prod (.int .i64) XLc))
noncomputable def tabs : Tabs := {
 tabL := [(3, .leaf (.int .i64 0)),
 (4, .leaf (.bool false)),
 (5, .leaf (.int .u8 0)),
 (9, .leaf (.str [])),
 (21, .leaf (.int .i32 0)),
 (22, .slice XSc 47),
 (25, .slice XOc 51),
 (26, .slice (.int .i64) 3),
 (28, .struct [(0, 1, false), (1, 1, false), (2, 1, false)] [.nils, .nils, .nils]),
 (29, .leaf (.int .i64 0)),
 (32, .slice XOc 59),
 (34, .struct [(0, 1, false), (1, 1, false), (2, 1, false)] [.nils, .nils, .nils]),
 (45, .slice XNc 49),
 (47, .struct [(0, 1, false), (1, 1, false), (2, 1, false)] [.str [], .int .i64 0, .nils]),
 (49, .struct [(0, 1, false), (1, 1, false), (2, 1, false), (3, 1, false), (4, 1, false), (5, 1, false)] [.int .i64 0, .int .i64 0, .int .i64 0, .int .i64 0, .int .i64 0, .str []]),
 (51, .struct [(0, 1, false), (1, 1, false), (2, 1, false), (3, 1, false), (4, 1, false)] [.int .i64 0, .int .i64 0, .int .i64 0, .int .i64 0, .int .i64 0]),
 (54, .slice (.list (.int .i64)) 26),
 (56, .struct [(0, 1, false), (1, 1, false)] [.int .i64 0, .int .i64 0]),
 (59, .struct [(0, 1, false), (1, 1, false), (2, 1, false), (3, 1, false), (4, 1, false)] [.int .i64 0, .int .i64 0, .int .i64 0, .int .i64 0, .int .i64 0]),
 (65, .map .str (.int .i64) false),
 (66, .slice XLc 45),
 (68, .leaf (.nilf)),
 (69, .leaf (.nilp)),
 (70, .slice .unit 69),
 (83, .slice (.prod (.int .i64) (.prod .str (.int .i64))) 89),
 (89, .struct [(0, 1, false), (1, 1, false), (2, 1, false)] [.int .i64 0, .str [], .int .i64 0]),
 (90, .leaf (.nilp)),
 (99, .slice (.prod .str XLc) 103),
 (103, .struct [(0, 1, false), (1, 1, false)] [.str [], .nils]),
 (112, .slice .bool 4),
 (118, .struct [(0, 1, false), (1, 1, false), (2, 1, false), (3, 2, true)] [.nils, .int .i64 0, .int .i64 0, .int .i64 0, .int .i64 0]),
 (122, .slice (.any true) 126),
 (124, .struct [(0, 1, false), (1, 1, false), (2, 1, false), (3, 1, false), (4, 1, false)] [.nils, .nilm, .nils, .bool false, .int .i64 0]),
 (126, .leaf (.nilp)),
 (127, .slice (.any false) 134),
 (129, .struct [(0, 3, true), (3, 1, false), (4, 1, false), (5, 1, false), (6, 1, false)] [.str [], .int .i64 0, .nils, .nils, .nils, .nils, .nils]),
 (134, .leaf (.nili)),
 (142, .slice (.list .str) 143),
 (143, .slice .str 9),
 (153, .leaf (.nilp)),
 (155, .struct [(0, 1, false)] [.int .i64 0]),
 (156, .leaf (.nilp)),
 (158, .struct [(0, 1, false)] [.int .i64 0]),
 (159, .leaf (.nilp)),
 (161, .struct [(0, 1, false), (1, 1, false)] [.int .i64 0, .int .i64 0]),
 (162, .leaf (.nilp)),
 (163, .struct [(0, 1, false)] [.int .i64 0]),
 (164, .map .str (.list (.int .i64)) false),
 (165, .leaf (.nilp)),
 (166, .slice (.int .i64) 3),
 (168, .struct [(0, 1, false)] [.nils]),
 (180, .leaf (.nilf))]
 eqtL := [49, 59]
 keysL := [(3, [0]), (4, [125]), (5, [137]), (6, [138]), (7, [139]), (8, [1]), (9, [2]), (10, [44]), (11, [102]), (12, [100]), (13, [99]), (14, [126]), (15, [82]), (16, [81, 127]), (17, [128]), (18, [130]), (19, [3]), (20, [45]), (21, [73]), (22, [75]), (23, [76]), (24, [59]), (25, [80]), (26, [49]), (27, [103]), (28, [119]), (29, [121]), (30, [122]), (31, [112]), (32, [124]), (33, [101]), (34, [85]), (35, [86]), (36, [97]), (37, [83]), (38, [91, 95]), (39, [98]), (40, [129]), (41, [135]), (42, [131]), (43, [4]), (44, [15]), (45, [46]), (47, [74]), (48, [77]), (49, [79]), (50, [47]), (51, [60]), (52, [104]), (53, [105]), (54, [110]), (55, [120]), (56, [123]), (57, [113]), (58, [30]), (59, [90]), (60, [87]), (61, [88]), (62, [93]), (63, [94]), (64, [84]), (65, [92, 96]), (66, [132]), (67, [134]), (68, [136]), (69, [5]), (70, [16]), (71, [26]), (72, [43]), (73, [55]), (74, [56]), (75, [57]), (79, [78]), (80, [48]), (81, [51]), (82, [53]), (83, [50]), (84, [106]), (85, [111]), (86, [117]), (87, [114]), (88, [89]), (89, [133]), (90, [6]), (91, [7]), (92, [8]), (93, [9]), (94, [13]), (95, [17]), (96, [35]), (97, [42]), (99, [58]), (100, [64]), (101, [66]), (102, [70]), (104, [52]), (105, [54]), (106, [107]), (107, [108]), (108, [109]), (109, [115]), (110, [116, 118]), (111, [33]), (112, [10]), (113, [12]), (114, [14]), (115, [18]), (116, [36]), (117, [28]), (118, [61]), (119, [62]), (120, [67]), (121, [71]), (125, [11]), (126, [19]), (127, [29]), (128, [31]), (129, [63]), (132, [20]), (133, [32]), (134, [21]), (135, [22]), (136, [23]), (137, [24]), (138, [25]), (139, [27]), (140, [34]), (141, [39]), (142, [40]), (143, [38]), (144, [41]), (145, [37]), (166, [68]), (167, [72]), (168, [65]), (170, [69])]
 mkrL := [54, 164]
 mtL := [(165, [("Len", (101, some (166, 0))), ("Less", (166, some (166, 0))), ("Pop", (167, none)), ("Push", (168, none)), ("Swap", (170, some (166, 0)))])]
 itL := [(98, (XNc, true))]
 kinL := [⟨[], [.one (.pl (.list XSc))]⟩,
 ⟨[], [.one (.pl (.list XSc)), .one (.pl (.list (.list (.int .i64))))]⟩,
 ⟨[], []⟩,
 ⟨[], [.one (.pl .str)]⟩,
 ⟨[], [.one (.pl .str)]⟩,
 ⟨[], [.one (.pl .str), .one (.pl (.int .i64))]⟩,
 ⟨[], [.one (.pl (.int .u8))]⟩,
 ⟨[], [.one (.pl .str)]⟩,
 ⟨[], [.one (.pl (.int .u8))]⟩,
 ⟨[], [.one (.pl .str), .one (.pl (.int .i64))]⟩,
 ⟨[], [.one (.pl .str)]⟩,
 ⟨[], []⟩,
 ⟨[], [.one (.pl .str)]⟩,
 ⟨[], [.one (.pl .str)]⟩,
 ⟨[], []⟩,
 ⟨[], [.one (.pl (.list (.prod (.int .i64) (.prod .str (.int .i64))))), .one (.pl (.int .i64))]⟩,
 ⟨[(true, .box [.pl (.prod (.list (.prod (.int .i64) (.prod .str (.int .i64)))) (.prod (.int .i64) (.prod (.int .i64) (.prod (.int .i64) (.int .i64)))))])], [.one (.ptr 0 0)]⟩,
 ⟨[(true, .box [.pl (.prod (.list (.prod (.int .i64) (.prod .str (.int .i64)))) (.prod (.int .i64) (.prod (.int .i64) (.prod (.int .i64) (.int .i64)))))])], [.one (.ptr 0 0)]⟩,
 ⟨[(true, .box [.pl (.prod (.list (.prod (.int .i64) (.prod .str (.int .i64)))) (.prod (.int .i64) (.prod (.int .i64) (.prod (.int .i64) (.int .i64)))))])], [.one (.ptr 0 0)]⟩,
 ⟨[(true, .box [.pl (.prod (.list (.prod (.int .i64) (.prod .str (.int .i64)))) (.prod (.int .i64) (.prod (.int .i64) (.prod (.int .i64) (.int .i64)))))])], [.one (.ptr 0 0)]⟩,
 ⟨[(true, .box [.pl (.prod (.list (.prod (.int .i64) (.prod .str (.int .i64)))) (.prod (.int .i64) (.prod (.int .i64) (.prod (.int .i64) (.int .i64)))))])], [.one (.ptr 0 0)]⟩,
 ⟨[(true, .box [.pl (.prod (.list (.prod (.int .i64) (.prod .str (.int .i64)))) (.prod (.int .i64) (.prod (.int .i64) (.prod (.int .i64) (.int .i64)))))])], [.one (.ptr 0 0)]⟩,
 ⟨[(true, .box [.pl (.prod (.list (.prod (.int .i64) (.prod .str (.int .i64)))) (.prod (.int .i64) (.prod (.int .i64) (.prod (.int .i64) (.int .i64)))))])], [.one (.ptr 0 0)]⟩,
 ⟨[(true, .box [.pl (.prod (.list (.prod (.int .i64) (.prod .str (.int .i64)))) (.prod (.int .i64) (.prod (.int .i64) (.prod (.int .i64) (.int .i64)))))])], [.one (.ptr 0 0)]⟩,
 ⟨[(true, .box [.pl (.prod (.list (.prod (.int .i64) (.prod .str (.int .i64)))) (.prod (.int .i64) (.prod (.int .i64) (.prod (.int .i64) (.int .i64)))))])], [.one (.ptr 0 0)]⟩,
 ⟨[(true, .box [.pl (.prod (.list (.prod (.int .i64) (.prod .str (.int .i64)))) (.prod (.int .i64) (.prod (.int .i64) (.prod (.int .i64) (.int .i64)))))])], [.one (.ptr 0 0), .one (.pl (.int .i64))]⟩,
 ⟨[], [.one (.pl (.list (.prod (.int .i64) (.prod .str (.int .i64))))), .one (.pl (.int .i64))]⟩,
 ⟨[(true, .box [.pl (.prod (.list (.prod (.int .i64) (.prod .str (.int .i64)))) (.prod (.int .i64) (.prod (.int .i64) (.prod (.int .i64) (.int .i64)))))])], [.one (.ptr 0 0), .agg [.pl (.prod (.int .i64) (.prod .str (.int .i64)))]]⟩,
 ⟨[], [.one (.pl (.int .i64)), .one (.pl (.int .i64)), .one (.pl .str), .one (.pl (.list XLc))]⟩,
 ⟨[], [.one (.pl (.int .i64)), .one (.pl (.int .i64)), .one (.pl .str)]⟩,
 ⟨[], [.agg [.pl XNc]]⟩,
 ⟨[(true, .arr XNc)], [.one (.sl 0), .one (.pl XLc)]⟩,
 ⟨[], [.agg [.pl XNc], .one (.pl (.int .i64))]⟩,
 ⟨[], [.agg [.pl XNc], .one (.pl (.list (.int .i64)))]⟩,
 ⟨[(true, .box [.pl (.prod (.list (.prod (.int .i64) (.prod .str (.int .i64)))) (.prod (.int .i64) (.prod (.int .i64) (.prod (.int .i64) (.int .i64)))))])], [.one (.ptr 0 0), .one (.pl .str)]⟩,
 ⟨[(true, .box [.pl (.prod (.list (.prod (.int .i64) (.prod .str (.int .i64)))) (.prod (.int .i64) (.prod (.int .i64) (.prod (.int .i64) (.int .i64)))))])], [.one (.ptr 0 0), .one (.pl .str)]⟩,
 ⟨[(true, .box [.pl (.prod (.list (.prod (.int .i64) (.prod .str (.int .i64)))) (.prod (.int .i64) (.prod (.int .i64) (.prod (.int .i64) (.int .i64)))))])], [.one (.ptr 0 0), .one (.pl .str)]⟩,
 ⟨[(true, .box [.pl (.prod (.list (.prod (.int .i64) (.prod .str (.int .i64)))) (.prod (.int .i64) (.prod (.int .i64) (.prod (.int .i64) (.int .i64)))))])], [.one (.ptr 0 0)]⟩,
 ⟨[(true, .box [.pl (.prod (.list (.prod (.int .i64) (.prod .str (.int .i64)))) (.prod (.int .i64) (.prod (.int .i64) (.prod (.int .i64) (.int .i64)))))])], [.one (.ptr 0 0), .one (.pl .str)]⟩,
 ⟨[], [.one (.pl .str)]⟩,
 ⟨[(true, .box [.pl (.prod (.list (.prod (.int .i64) (.prod .str (.int .i64)))) (.prod (.int .i64) (.prod (.int .i64) (.prod (.int .i64) (.int .i64)))))])], [.one (.ptr 0 0)]⟩,
 ⟨[(true, .box [.pl (.prod (.list (.prod (.int .i64) (.prod .str (.int .i64)))) (.prod (.int .i64) (.prod (.int .i64) (.prod (.int .i64) (.int .i64)))))])], [.one (.ptr 0 0)]⟩,
 ⟨[(true, .box [.pl (.prod (.list (.prod (.int .i64) (.prod .str (.int .i64)))) (.prod (.int .i64) (.prod (.int .i64) (.prod (.int .i64) (.int .i64)))))])], [.one (.ptr 0 0), .one (.pl (.int .i64)), .one (.pl XLc), .one (.pl XLc)]⟩,
 ⟨[], [.one (.pl XLc)]⟩,
 ⟨[], [.one (.pl (.list XSc))]⟩,
 ⟨[], [.one (.pl (.list XSc)), .one (.nils)]⟩,
 ⟨[], [.one (.pl (.list XSc))]⟩,
 ⟨[], [.one (.pl XLc)]⟩,
 ⟨[], [.agg [.pl XNc]]⟩,
 ⟨[], [.agg [.pl XNc]]⟩,
 ⟨[], [.agg [.pl XNc], .one (.pl (.list (.int .i64)))]⟩,
 ⟨[], [.one (.pl (.list .bool)), .one (.pl .bool)]⟩,
 ⟨[], [.one (.pl (.list .bool)), .one (.pl .bool)]⟩,
 ⟨[], [.one (.pl XLc)]⟩,
 ⟨[], [.one (.pl XLc)]⟩,
 ⟨[], [.one (.pl XLc)]⟩,
 ⟨[], [.agg [.pl XNc]]⟩,
 ⟨[], [.one (.pl (.list (.prod .str XLc)))]⟩,
 ⟨[], [.one (.pl XLc)]⟩,
 ⟨[], [.one (.pl XLc), .one (.pl (.int .i64))]⟩,
 ⟨[(true, .arr XNc)], [.one (.sl 0), .one (.pl XLc), .one (.pl (.int .i64))]⟩,
 ⟨[(true, .box [.sl 3]), (true, .box [.sl 4]), (true, .box [.fn 118 [] [some 0, some 1, some 2]]), (true, .arr XNc), (true, .arr .str)], [.one (.pl (.int .i64)), .one (.ptr 0 0), .one (.ptr 1 0), .one (.ptr 2 0)]⟩,
 ⟨[(true, .arr .str)], [.one (.sl 0), .one (.pl .str)]⟩,
 ⟨[(true, .arr .str)], [.one (.sl 0), .one (.pl .str)]⟩,
 ⟨[(true, .box [.sl 1]), (true, .arr (.int .i64))], [.one (.ifp 165 0 0), .one (.ifi 3 .i64)]⟩,
 ⟨[(true, .box [.sl 1]), (true, .arr (.int .i64))], [.one (.ptr 0 0), .one (.ifi 3 .i64)]⟩,
 ⟨[(true, .arr (.int .i64))], [.one (.sl 0)]⟩,
 ⟨[(true, .box [.sl 1]), (true, .arr (.int .i64))], [.one (.ifp 165 0 0), .one (.pl (.int .i64))]⟩,
 ⟨[(true, .arr (.int .i64))], [.one (.sl 0), .one (.pl (.int .i64)), .one (.pl (.int .i64))]⟩,
 ⟨[(true, .arr (.int .i64))], [.one (.sl 0), .one (.pl (.int .i64)), .one (.pl (.int .i64))]⟩,
 ⟨[(true, .box [.sl 1]), (true, .arr (.int .i64))], [.one (.ifp 165 0 0)]⟩,
 ⟨[(true, .box [.sl 1]), (true, .arr (.int .i64))], [.one (.ifp 165 0 0), .one (.pl (.int .i64)), .one (.pl (.int .i64))]⟩,
 ⟨[(true, .box [.sl 1]), (true, .arr (.int .i64))], [.one (.ptr 0 0)]⟩,
 ⟨[], [.one (.pl (.list XSc)), .one (.fn 22 [] [])]⟩,
 ⟨[], [.one (.pl (.list XSc)), .one (.fn 22 [] [])]⟩,
 ⟨[], [.agg [.pl XSc]]⟩,
 ⟨[], [.one (.pl XLc)]⟩,
 ⟨[], [.one (.pl XLc), .one (.fn 49 [] [])]⟩,
 ⟨[], [.one (.pl XLc), .one (.fn 49 [] [])]⟩,
 ⟨[], [.agg [.pl XNc]]⟩,
 ⟨[(true, .box [.sl 4]), (true, .box [.mp 5]), (true, .box [.fn 25 [] [some 0, some 1, some 2, some 3]]), (true, .box [.pl (.list (.list (.int .i64)))]), (true, .arr XLc), (true, .map .str (.int .i64) false)], [.one (.pl (.int .i64)), .one (.pl (.int .i64)), .one (.ptr 0 0), .one (.ptr 1 0), .one (.ptr 2 0), .one (.ptr 3 0)]⟩,
 ⟨[(true, .arr XOc)], [.agg [.sl 0, .pl (.list (.int .i64)), .pl (.list (.int .i64))]]⟩,
 ⟨[], [.agg [.pl XTc]]⟩,
 ⟨[(true, .box [.pl XTc])], [.one (.pl (.list XOc)), .one (.fn 34 [] [some 0])]⟩,
 ⟨[(true, .box [.pl XTc])], [.one (.pl (.list XOc)), .one (.fn 34 [] [some 0])]⟩,
 ⟨[(true, .box [.pl XTc])], [.agg [.pl XOc], .one (.ptr 0 0)]⟩,
 ⟨[], [.agg [.pl XTc], .agg [.pl XOc]]⟩,
 ⟨[], [.agg [.pl XOc]]⟩,
 ⟨[], [.one (.pl (.int .i64))]⟩,
 ⟨[], [.one (.pl (.int .i64))]⟩,
 ⟨[(true, .box [.pl XTc])], [.one (.pl (.int .i64)), .one (.ptr 0 0)]⟩,
 ⟨[], [.one (.pl (.list (.int .i64))), .one (.fn 62 [] [])]⟩,
 ⟨[], [.one (.pl (.list (.int .i64))), .one (.fn 62 [] [])]⟩,
 ⟨[], [.one (.pl (.int .i64))]⟩,
 ⟨[], [.one (.pl (.int .i64))]⟩,
 ⟨[(true, .box [.pl XTc])], [.one (.pl (.list (.int .i64))), .one (.fn 36 [] [some 0])]⟩,
 ⟨[(true, .box [.pl XTc])], [.one (.pl (.list (.int .i64))), .one (.fn 36 [] [some 0])]⟩,
 ⟨[(true, .box [.pl XTc])], [.one (.pl (.int .i64)), .one (.ptr 0 0)]⟩,
 ⟨[], [.agg [.pl XTc]]⟩,
 ⟨[], [.agg [.pl XTc]]⟩,
 ⟨[], [.agg [.pl XTc], .agg [.pl XTc]]⟩,
 ⟨[], [.one (.pl (.list (.int .i64))), .one (.pl (.list (.int .i64)))]⟩,
 ⟨[], [.one (.pl (.list XSc))]⟩,
 ⟨[], [.one (.pl (.list XSc))]⟩,
 ⟨[], [.one (.pl (.list XSc)), .one (.pl .str)]⟩,
 ⟨[], [.one (.pl (.list XSc)), .one (.pl XLc)]⟩,
 ⟨[], [.one (.pl XLc)]⟩,
 ⟨[], [.agg [.pl XNc]]⟩,
 ⟨[], [.agg [.pl XNc]]⟩,
 ⟨[], [.one (.pl XLc), .one (.pl (.int .i64))]⟩,
 ⟨[], [.one (.pl (.list (.prod .str XLc)))]⟩,
 ⟨[], [.one (.pl XLc)]⟩,
 ⟨[], [.one (.pl XLc)]⟩,
 ⟨[], [.one (.pl XLc), .one (.pl (.int .i64))]⟩,
 ⟨[(true, .arr XNc)], [.one (.pl XLc), .one (.pl (.int .i64)), .one (.sl 0)]⟩,
 ⟨[], [.one (.pl XLc)]⟩,
 ⟨[(true, .arr .str)], [.one (.sl 0), .one (.pl .str)]⟩,
 ⟨[(true, .arr .bool)], [.one (.pl (.list (.prod .str XLc))), .one (.sl 0), .one (.pl (.list .str))]⟩,
 ⟨[], [.one (.pl (.list .str)), .one (.pl .str)]⟩,
 ⟨[], [.one (.pl XLc)]⟩,
 ⟨[], [.one (.pl (.int .i64))]⟩,
 ⟨[], [.one (.pl (.list XSc)), .one (.pl (.int .i64))]⟩,
 ⟨[], [.one (.pl (.list XSc)), .one (.pl (.list (.list (.int .i64)))), .one (.pl (.int .i64))]⟩,
 ⟨[], [.one (.pl (.list XSc)), .one (.pl (.list (.list (.int .i64)))), .one (.pl XLc), .one (.pl (.int .i64)), .one (.pl (.int .i64))]⟩,
 ⟨[], [.one (.pl (.list XSc)), .one (.pl (.list (.list (.int .i64)))), .one (.pl XLc), .one (.pl (.int .i64)), .one (.pl (.int .i64))]⟩,
 ⟨[], [.agg [.pl XTc]]⟩,
 ⟨[], [.agg [.pl XTc]]⟩,
 ⟨[], [.agg [.pl XTc]]⟩,
 ⟨[], [.agg [.pl XTc]]⟩,
 ⟨[], [.agg [.pl XTc]]⟩,
 ⟨[], [.one (.pl (.int .i64))]⟩,
 ⟨[], [.one (.pl (.int .i64))]⟩,
 ⟨[], [.agg [.pl XTc], .agg [.pl XOc]]⟩,
 ⟨[], [.one (.pl (.int .i64))]⟩,
 ⟨[], [.agg [.pl XTc], .one (.pl (.int .i64)), .one (.pl (.int .i64)), .one (.pl (.int .i64))]⟩,
 ⟨[], [.agg [.pl XTc]]⟩,
 ⟨[], [.agg [.pl XOc]]⟩,
 ⟨[], [.one (.pl (.list XSc))]⟩,
 ⟨[], [.one (.pl (.list XSc))]⟩,
 ⟨[], [.agg [.pl XTc], .one (.pl (.int .i64))]⟩]
 koutsL := [[⟨[], [.one (.pl .bool)]⟩],
 [⟨[], [.one (.pl .bool)]⟩],
 [⟨[], [.one (.pl .bool)]⟩],
 [⟨[], [.one (.pl XLc), .agg [.pl (.prod (.int .i64) (.int .i64))]]⟩],
 [⟨[(true, .arr (.prod (.int .i64) (.prod .str (.int .i64))))], [.one (.sl 0), .agg [.pl (.prod (.int .i64) (.int .i64))]]⟩],
 [⟨[], [.agg [.pl (.prod (.int .i64) (.prod .str (.int .i64)))], .one (.pl (.int .i64))]⟩],
 [⟨[], [.one (.pl .bool)]⟩],
 [⟨[], [.one (.pl (.int .i64))]⟩],
 [⟨[], [.one (.pl .bool)]⟩],
 [⟨[], [.agg [.pl (.prod (.int .i64) (.prod .str (.int .i64)))], .one (.pl (.int .i64))]⟩],
 [⟨[], [.one (.pl .bool)]⟩],
 [⟨[(true, .arr .str)], [.one (.sl 0)]⟩],
 [⟨[], [.one (.pl .bool)]⟩],
 [⟨[], [.one (.pl .str)]⟩],
 [⟨[(true, .arr .str)], [.one (.sl 0)]⟩],
 [⟨[], [.one (.pl XLc), .one (.pl (.int .i64)), .agg [.pl (.prod (.int .i64) (.int .i64))]]⟩],
 [⟨[(true, .box [.pl (.prod (.list (.prod (.int .i64) (.prod .str (.int .i64)))) (.prod (.int .i64) (.prod (.int .i64) (.prod (.int .i64) (.int .i64)))))]), (true, .arr XNc)], [.one (.sl 1)]⟩],
 [⟨[(true, .box [.pl (.prod (.list (.prod (.int .i64) (.prod .str (.int .i64)))) (.prod (.int .i64) (.prod (.int .i64) (.prod (.int .i64) (.int .i64)))))]), (true, .arr XNc)], [.one (.sl 1)]⟩],
 [⟨[(true, .box [.pl (.prod (.list (.prod (.int .i64) (.prod .str (.int .i64)))) (.prod (.int .i64) (.prod (.int .i64) (.prod (.int .i64) (.int .i64)))))]), (true, .arr XNc)], [.one (.sl 1)]⟩],
 [⟨[(true, .box [.pl (.prod (.list (.prod (.int .i64) (.prod .str (.int .i64)))) (.prod (.int .i64) (.prod (.int .i64) (.prod (.int .i64) (.int .i64)))))]), (true, .arr XNc)], [.one (.sl 1)]⟩],
 [⟨[(true, .box [.pl (.prod (.list (.prod (.int .i64) (.prod .str (.int .i64)))) (.prod (.int .i64) (.prod (.int .i64) (.prod (.int .i64) (.int .i64)))))]), (true, .arr XNc)], [.one (.sl 1)]⟩],
 [⟨[(true, .box [.pl (.prod (.list (.prod (.int .i64) (.prod .str (.int .i64)))) (.prod (.int .i64) (.prod (.int .i64) (.prod (.int .i64) (.int .i64)))))]), (true, .arr XNc)], [.one (.sl 1)]⟩],
 [⟨[(true, .box [.pl (.prod (.list (.prod (.int .i64) (.prod .str (.int .i64)))) (.prod (.int .i64) (.prod (.int .i64) (.prod (.int .i64) (.int .i64)))))]), (true, .arr XNc)], [.one (.sl 1)]⟩],
 [⟨[(true, .box [.pl (.prod (.list (.prod (.int .i64) (.prod .str (.int .i64)))) (.prod (.int .i64) (.prod (.int .i64) (.prod (.int .i64) (.int .i64)))))]), (true, .arr XNc)], [.one (.sl 1)]⟩],
 [⟨[(true, .box [.pl (.prod (.list (.prod (.int .i64) (.prod .str (.int .i64)))) (.prod (.int .i64) (.prod (.int .i64) (.prod (.int .i64) (.int .i64)))))]), (true, .arr XNc)], [.one (.sl 1)]⟩],
 [⟨[(true, .box [.pl (.prod (.list (.prod (.int .i64) (.prod .str (.int .i64)))) (.prod (.int .i64) (.prod (.int .i64) (.prod (.int .i64) (.int .i64)))))]), (true, .arr XNc)], [.one (.sl 1)]⟩],
 [⟨[], [.one (.pl (.int .i64))]⟩],
 [⟨[(true, .box [.pl (.prod (.list (.prod (.int .i64) (.prod .str (.int .i64)))) (.prod (.int .i64) (.prod (.int .i64) (.prod (.int .i64) (.int .i64)))))]), (true, .arr XNc)], [.one (.sl 1)]⟩],
 [⟨[(true, .arr XNc)], [.one (.sl 0)]⟩],
 [⟨[], [.agg [.pl XNc]]⟩],
 [⟨[(true, .arr (.int .i64))], [.one (.sl 0)]⟩],
 [⟨[(true, .gone), (true, .arr XNc)], [.one (.sl 1)]⟩],
 [⟨[], [.agg [.pl XNc]]⟩],
 [⟨[], [.agg [.pl XNc]]⟩],
 [⟨[(true, .box [.pl (.prod (.list (.prod (.int .i64) (.prod .str (.int .i64)))) (.prod (.int .i64) (.prod (.int .i64) (.prod (.int .i64) (.int .i64)))))]), (true, .arr XNc)], [.one (.sl 1)]⟩],
 [⟨[(true, .box [.pl (.prod (.list (.prod (.int .i64) (.prod .str (.int .i64)))) (.prod (.int .i64) (.prod (.int .i64) (.prod (.int .i64) (.int .i64)))))])], [.one (.pl .bool)]⟩],
 [⟨[(true, .box [.pl (.prod (.list (.prod (.int .i64) (.prod .str (.int .i64)))) (.prod (.int .i64) (.prod (.int .i64) (.prod (.int .i64) (.int .i64)))))])], [.one (.pl .bool)]⟩],
 [⟨[(true, .box [.pl (.prod (.list (.prod (.int .i64) (.prod .str (.int .i64)))) (.prod (.int .i64) (.prod (.int .i64) (.prod (.int .i64) (.int .i64)))))]), (true, .arr XLc)], [.one (.sl 1)]⟩],
 [⟨[(true, .box [.pl (.prod (.list (.prod (.int .i64) (.prod .str (.int .i64)))) (.prod (.int .i64) (.prod (.int .i64) (.prod (.int .i64) (.int .i64)))))])], []⟩],
 [⟨[], [.one (.pl (.int .i64))]⟩],
 [⟨[(true, .box [.pl (.prod (.list (.prod (.int .i64) (.prod .str (.int .i64)))) (.prod (.int .i64) (.prod (.int .i64) (.prod (.int .i64) (.int .i64)))))]), (true, .arr XNc)], [.one (.sl 1)]⟩],
 [⟨[(true, .box [.pl (.prod (.list (.prod (.int .i64) (.prod .str (.int .i64)))) (.prod (.int .i64) (.prod (.int .i64) (.prod (.int .i64) (.int .i64)))))]), (true, .arr XNc)], [.one (.sl 1)]⟩],
 [⟨[(true, .box [.pl (.prod (.list (.prod (.int .i64) (.prod .str (.int .i64)))) (.prod (.int .i64) (.prod (.int .i64) (.prod (.int .i64) (.int .i64)))))]), (true, .arr XNc)], [.one (.sl 1)]⟩],
 [⟨[], [.one (.pl (.int .i64))]⟩],
 [⟨[], [.agg [.pl XTc], .one (.pl (.int .i64))]⟩],
 [⟨[(true, .arr (.list (.int .i64)))], [.one (.sl 0), .one (.pl (.int .i64))]⟩],
 [⟨[], [.one (.nilp), .one (.pl (.int .i64))]⟩, ⟨[(true, .box [.sl 1, .mp 2, .sl 3, .pl .bool, .pl (.int .i64)]), (true, .arr (.any true)), (true, .map .str (.int .i64) false), (true, .arr (.int .i64))], [.one (.ptr 0 0), .one (.pl (.int .i64))]⟩],
 [⟨[], [.one (.pl .bool)]⟩],
 [⟨[], [.one (.pl .bool)]⟩],
 [⟨[(true, .arr (.int .i64))], [.one (.sl 0)]⟩],
 [⟨[], [.agg [.pl XNc]]⟩],
 [⟨[], [.one (.pl .bool)]⟩],
 [⟨[], [.one (.pl (.int .i64))]⟩],
 [⟨[], [.one (.pl (.int .i64))]⟩],
 [⟨[(true, .arr (.int .i64))], [.one (.sl 0)]⟩],
 [⟨[(true, .box [.pl XLc])], [.one (.fn 98 [] [some 0])]⟩],
 [⟨[(true, .box [.pl (.int .i64)])], [.one (.ifp 153 0 0)]⟩, ⟨[(true, .box [.pl (.int .i64)])], [.one (.ifp 156 0 0)]⟩, ⟨[(true, .box [.pl (.prod (.int .i64) (.int .i64))])], [.one (.ifp 159 0 0)]⟩, ⟨[(true, .box [.pl (.int .i64)])], [.one (.ifp 162 0 0)]⟩, ⟨[], [.one (.nili)]⟩],
 [⟨[(true, .arr (.int .i64))], [.one (.sl 0), .one (.pl (.int .i64))]⟩],
 [⟨[], [.one (.pl (.list .str))]⟩],
 [⟨[(true, .arr XNc)], [.one (.sl 0)]⟩],
 [⟨[(true, .gone), (true, .arr XNc)], [.one (.sl 1)]⟩],
 [⟨[(true, .box [.sl 3]), (true, .box [.sl 4]), (true, .box [.fn 118 [] [some 0, some 1, some 2]]), (true, .arr XNc), (true, .arr .str)], []⟩, ⟨[(true, .box [.sl 3]), (true, .box [.sl 5]), (true, .box [.fn 118 [] [some 0, some 1, some 2]]), (true, .arr XNc), (true, .gone), (true, .arr .str)], []⟩],
 [⟨[(true, .arr .str)], [.one (.pl .bool)]⟩],
 [⟨[(true, .arr .str)], [.one (.pl (.int .i64))]⟩],
 [⟨[(true, .box [.sl 2]), (true, .gone), (true, .arr (.int .i64))], []⟩],
 [⟨[(true, .box [.sl 2]), (true, .gone), (true, .arr (.int .i64))], []⟩],
 [⟨[(true, .arr (.int .i64))], [.one (.pl (.int .i64))]⟩],
 [⟨[(true, .box [.sl 1]), (true, .arr (.int .i64))], []⟩],
 [⟨[(true, .arr (.int .i64))], [.one (.pl .bool)]⟩],
 [⟨[(true, .arr (.int .i64))], []⟩],
 [⟨[(true, .box [.sl 2]), (true, .gone), (true, .arr (.int .i64))], [.one (.ifi 3 .i64)]⟩],
 [⟨[(true, .box [.sl 1]), (true, .arr (.int .i64))], [.one (.pl .bool)]⟩],
 [⟨[(true, .box [.sl 2]), (true, .gone), (true, .arr (.int .i64))], [.one (.ifi 3 .i64)]⟩],
 [⟨[], [.one (.pl .bool)]⟩],
 [⟨[], [.one (.pl (.int .i64))]⟩],
 [⟨[], [.one (.pl .bool)]⟩],
 [⟨[], [.one (.pl .bool)]⟩],
 [⟨[], [.one (.pl .bool)]⟩],
 [⟨[], [.one (.pl (.int .i64))]⟩],
 [⟨[], [.one (.pl .bool)]⟩],
 [⟨[(true, .box [.sl 4]), (true, .box [.mp 5]), (true, .box [.fn 25 [] [some 0, some 1, some 2, some 3]]), (true, .box [.pl (.list (.list (.int .i64)))]), (true, .arr XLc), (true, .map .str (.int .i64) false)], [.one (.pl (.int .i64))]⟩],
 [⟨[(true, .arr XOc)], [.agg [.pl XTc]]⟩],
 [⟨[], [.one (.pl (.int .i64))]⟩],
 [⟨[(true, .box [.pl XTc])], [.one (.pl .bool)]⟩],
 [⟨[(true, .box [.pl XTc])], [.one (.pl (.int .i64))]⟩],
 [⟨[(true, .box [.pl XTc])], [.one (.pl .bool)]⟩],
 [⟨[], [.one (.pl .bool)]⟩],
 [⟨[], [.one (.pl (.list (.int .i64))), .one (.pl (.list (.int .i64)))]⟩],
 [⟨[], [.one (.pl (.int .i64))]⟩],
 [⟨[], [.one (.pl (.int .i64))]⟩],
 [⟨[(true, .box [.pl XTc])], [.one (.pl .bool)]⟩],
 [⟨[], [.one (.pl .bool)]⟩],
 [⟨[], [.one (.pl (.int .i64))]⟩],
 [⟨[], [.one (.pl .bool)]⟩],
 [⟨[], [.one (.pl .bool)]⟩],
 [⟨[(true, .box [.pl XTc])], [.one (.pl .bool)]⟩],
 [⟨[(true, .box [.pl XTc])], [.one (.pl (.int .i64))]⟩],
 [⟨[(true, .box [.pl XTc])], [.one (.pl .bool)]⟩],
 [⟨[], [.one (.pl .bool)]⟩],
 [⟨[], [.agg [.pl XTc]]⟩],
 [⟨[], [.one (.pl .bool)]⟩],
 [⟨[], [.one (.pl .bool)]⟩],
 [⟨[], [.agg [.pl XTc], .one (.pl (.int .i64))]⟩],
 [⟨[], [.one (.pl (.int .i64))]⟩],
 [⟨[], [.one (.pl (.int .i64))]⟩],
 [⟨[], [.one (.pl .bool)]⟩],
 [⟨[], [.one (.pl .bool)]⟩],
 [⟨[], [.one (.pl .bool)]⟩],
 [⟨[], [.one (.pl .bool)]⟩],
 [⟨[], [.one (.pl .bool)]⟩],
 [⟨[(true, .arr (.int .i64))], [.one (.sl 0), .one (.pl (.int .i64))]⟩],
 [⟨[(true, .arr .str)], [.one (.sl 0)]⟩],
 [⟨[(true, .arr XNc)], [.one (.sl 0)]⟩],
 [⟨[(true, .arr XNc)], [.one (.sl 0)]⟩],
 [⟨[(true, .gone), (true, .arr XNc)], [.one (.sl 1)]⟩],
 [⟨[(true, .arr .bool)], [.one (.sl 0)]⟩],
 [⟨[(true, .arr .str)], [.one (.pl .bool)]⟩],
 [⟨[(true, .arr .bool)], [.one (.pl .bool)]⟩],
 [⟨[], [.one (.pl .bool)]⟩],
 [⟨[], [.one (.pl .bool)]⟩],
 [⟨[], [.one (.pl .bool)]⟩],
 [⟨[(true, .arr (.list (.int .i64)))], [.one (.sl 0)]⟩],
 [⟨[], [.one (.pl (.int .i64))]⟩],
 [⟨[], [.one (.pl (.int .i64))]⟩],
 [⟨[], [.agg [.pl XOc]]⟩],
 [⟨[], [.one (.pl .bool)]⟩],
 [⟨[], [.one (.pl .bool)]⟩],
 [⟨[], [.agg [.pl XTc]]⟩],
 [⟨[], [.one (.pl (.int .i64))]⟩],
 [⟨[], [.one (.pl .bool)]⟩],
 [⟨[], [.one (.pl (.int .i64))]⟩],
 [⟨[], [.one (.pl (.int .i64))]⟩],
 [⟨[], [.one (.pl .bool)]⟩],
 [⟨[], [.one (.pl .bool)]⟩],
 [⟨[], [.one (.pl .bool)]⟩],
 [⟨[(true, .arr (.int .i64))], [.one (.sl 0)]⟩],
 [⟨[(true, .arr (.int .i64))], [.one (.sl 0)]⟩],
 [⟨[], [.one (.pl .bool)]⟩],
 [⟨[], [.one (.pl .bool)]⟩],
 [⟨[], [.one (.pl .bool)]⟩]]
 bkL := [⟨[0, 5], ⟨[], [.one (.pl (.list XSc)), .one (.pl (.int .i64))]⟩, [1], [(.ret, [4], ⟨[], [.one (.pl .bool)]⟩), (.norm, [], ⟨[], []⟩)]⟩,
 ⟨[1, 6], ⟨[], [.one (.pl (.list (.list (.int .i64)))), .one (.pl (.int .i64))]⟩, [], [(.ret, [4], ⟨[], [.one (.pl .bool)]⟩), (.norm, [], ⟨[], []⟩)]⟩,
 noBlk,
 noBlk,
 ⟨[0, 6], ⟨[], [.one (.pl .str), .one (.pl (.int .i64))]⟩, [0, 1, 4, 5], [(.norm, [6], ⟨[], [.one (.pl (.int .i64))]⟩)]⟩,
 ⟨[0, 3, 4], ⟨[], [.one (.pl .str), .one (.pl (.int .i64)), .one (.pl (.int .i64))]⟩, [2], [(.norm, [3], ⟨[], [.one (.pl (.int .i64))]⟩)]⟩,
 ⟨[0, 6], ⟨[], [.one (.pl .str), .one (.pl (.int .i64))]⟩, [0, 1, 4, 5], [(.norm, [6], ⟨[], [.one (.pl (.int .i64))]⟩)]⟩,
 ⟨[0, 3, 4], ⟨[(true, .arr .str)], [.one (.pl .str), .one (.sl 0), .one (.pl (.int .i64))]⟩, [], [(.ret, [2], ⟨[(true, .arr .str)], [.one (.pl .bool)]⟩), (.norm, [], ⟨[(true, .arr .str)], []⟩)]⟩,
 ⟨[0, 3], ⟨[], [.one (.pl .str), .one (.pl (.int .i64))]⟩, [], [(.ret, [2], ⟨[], [.one (.pl .bool)]⟩), (.norm, [], ⟨[], []⟩)]⟩,
 ⟨[0, 3, 4], ⟨[(true, .arr .str)], [.one (.pl .str), .one (.sl 0), .one (.pl (.int .i64))]⟩, [], [(.ret, [2], ⟨[(true, .arr .str)], [.one (.pl .str)]⟩), (.norm, [], ⟨[(true, .arr .str)], []⟩)]⟩,
 ⟨[0, 3, 4, 5], ⟨[(true, .box [.pl (.prod (.int .i64) (.int .i64))]), (false, .arr (.prod (.int .i64) (.prod .str (.int .i64))))], [.one (.pl .str), .one (.ptr 0 0), .one (.sl 1), .one (.pl (.int .i64))]⟩, [3], [(.ret, [2], ⟨[(true, .box [.pl (.prod (.int .i64) (.int .i64))]), (true, .gone), (true, .arr (.prod (.int .i64) (.prod .str (.int .i64))))], [.one (.sl 2)]⟩), (.norm, [4], ⟨[(true, .box [.pl (.prod (.int .i64) (.int .i64))]), (true, .gone), (true, .arr (.prod (.int .i64) (.prod .str (.int .i64))))], [.one (.sl 2)]⟩)]⟩,
 ⟨[0, 5], ⟨[], [.one (.pl .str), .one (.pl (.int .i64))]⟩, [0, 2, 3, 4], [(.norm, [5], ⟨[], [.one (.pl (.int .i64))]⟩)]⟩,
 noBlk,
 noBlk,
 noBlk,
 ⟨[0, 1, 5, 6], ⟨[(false, .arr XNc)], [.one (.sl 0), .one (.pl XLc), .one (.pl (.int .i64)), .one (.pl (.int .i64))]⟩, [4], [(.norm, [0], ⟨[(true, .gone), (true, .arr XNc)], [.one (.sl 1)]⟩)]⟩,
 ⟨[0, 3, 11, 12, 13, 14], ⟨[(false, .arr XNc), (false, .arr (.int .i64))], [.one (.pl (.int .i64)), .one (.pl (.list XLc)), .one (.sl 0), .one (.sl 1), .one (.pl (.int .i64)), .one (.pl (.int .i64))]⟩, [0, 9], [(.ret, [8], ⟨[(true, .gone), (true, .gone), (true, .arr XNc)], [.one (.sl 2)]⟩), (.norm, [11, 12, 13], ⟨[(true, .gone), (true, .gone), (true, .arr XNc), (true, .arr (.int .i64))], [.one (.sl 2), .one (.sl 3), .one (.pl (.int .i64))]⟩)]⟩,
 noBlk,
 ⟨[0, 3], ⟨[(true, .box [.pl (.prod (.list (.prod (.int .i64) (.prod .str (.int .i64)))) (.prod (.int .i64) (.prod (.int .i64) (.prod (.int .i64) (.int .i64)))))]), (false, .arr XLc)], [.one (.ptr 0 0), .one (.sl 1)]⟩, [], [(.ret, [2], ⟨[(true, .box [.pl (.prod (.list (.prod (.int .i64) (.prod .str (.int .i64)))) (.prod (.int .i64) (.prod (.int .i64) (.prod (.int .i64) (.int .i64)))))]), (true, .gone), (true, .arr XLc)], [.one (.sl 2)]⟩), (.norm, [], ⟨[(true, .box [.pl (.prod (.list (.prod (.int .i64) (.prod .str (.int .i64)))) (.prod (.int .i64) (.prod (.int .i64) (.prod (.int .i64) (.int .i64)))))]), (true, .gone)], []⟩)]⟩,
 noBlk,
 ⟨[0, 3], ⟨[(true, .box [.pl (.prod (.list (.prod (.int .i64) (.prod .str (.int .i64)))) (.prod (.int .i64) (.prod (.int .i64) (.prod (.int .i64) (.int .i64)))))]), (false, .arr XNc)], [.one (.ptr 0 0), .one (.sl 1)]⟩, [2], [(.norm, [3], ⟨[(true, .box [.pl (.prod (.list (.prod (.int .i64) (.prod .str (.int .i64)))) (.prod (.int .i64) (.prod (.int .i64) (.prod (.int .i64) (.int .i64)))))]), (true, .gone), (true, .arr XNc)], [.one (.sl 2)]⟩)]⟩,
 noBlk,
 ⟨[0, 3], ⟨[(true, .box [.pl (.prod (.list (.prod (.int .i64) (.prod .str (.int .i64)))) (.prod (.int .i64) (.prod (.int .i64) (.prod (.int .i64) (.int .i64)))))]), (false, .arr XNc)], [.one (.ptr 0 0), .one (.sl 1)]⟩, [2], [(.norm, [3], ⟨[(true, .box [.pl (.prod (.list (.prod (.int .i64) (.prod .str (.int .i64)))) (.prod (.int .i64) (.prod (.int .i64) (.prod (.int .i64) (.int .i64)))))]), (true, .gone), (true, .arr XNc)], [.one (.sl 2)]⟩)]⟩,
 noBlk,
 ⟨[0, 3], ⟨[(true, .box [.pl (.prod (.list (.prod (.int .i64) (.prod .str (.int .i64)))) (.prod (.int .i64) (.prod (.int .i64) (.prod (.int .i64) (.int .i64)))))]), (false, .arr XNc)], [.one (.ptr 0 0), .one (.sl 1)]⟩, [2], [(.norm, [3], ⟨[(true, .box [.pl (.prod (.list (.prod (.int .i64) (.prod .str (.int .i64)))) (.prod (.int .i64) (.prod (.int .i64) (.prod (.int .i64) (.int .i64)))))]), (true, .gone), (true, .arr XNc)], [.one (.sl 2)]⟩)]⟩,
 noBlk,
 ⟨[0, 3], ⟨[(true, .box [.pl (.prod (.list (.prod (.int .i64) (.prod .str (.int .i64)))) (.prod (.int .i64) (.prod (.int .i64) (.prod (.int .i64) (.int .i64)))))]), (false, .arr XNc)], [.one (.ptr 0 0), .one (.sl 1)]⟩, [2], [(.norm, [3], ⟨[(true, .box [.pl (.prod (.list (.prod (.int .i64) (.prod .str (.int .i64)))) (.prod (.int .i64) (.prod (.int .i64) (.prod (.int .i64) (.int .i64)))))]), (true, .gone), (true, .arr XNc)], [.one (.sl 2)]⟩)]⟩,
 noBlk,
 ⟨[0, 3], ⟨[(true, .box [.pl (.prod (.list (.prod (.int .i64) (.prod .str (.int .i64)))) (.prod (.int .i64) (.prod (.int .i64) (.prod (.int .i64) (.int .i64)))))]), (false, .arr XNc)], [.one (.ptr 0 0), .one (.sl 1)]⟩, [2], [(.norm, [3], ⟨[(true, .box [.pl (.prod (.list (.prod (.int .i64) (.prod .str (.int .i64)))) (.prod (.int .i64) (.prod (.int .i64) (.prod (.int .i64) (.int .i64)))))]), (true, .gone), (true, .arr XNc)], [.one (.sl 2)]⟩)]⟩,
 noBlk,
 noBlk,
 noBlk,
 noBlk,
 noBlk,
 noBlk,
 noBlk,
 ⟨[0, 3, 4], ⟨[(true, .arr (.int .i64))], [.one (.pl XLc), .one (.sl 0), .one (.pl (.int .i64))]⟩, [0, 2, 3], [(.norm, [], ⟨[(true, .arr (.int .i64))], []⟩)]⟩,
 ⟨[3, 4, 5, 6], ⟨[(true, .arr (.int .i64)), (true, .arr (.int .i64))], [.one (.sl 0), .one (.pl (.int .i64)), .one (.sl 1), .one (.pl (.int .i64))]⟩, [0, 3, 4], [(.norm, [], ⟨[(true, .arr (.int .i64)), (true, .arr (.int .i64))], []⟩)]⟩,
 noBlk,
 ⟨[0, 1, 6], ⟨[(true, .box [.pl (.prod (.int .i64) (.int .i64))])], [.one (.pl (.list (.prod (.int .i64) (.prod .str (.int .i64))))), .one (.pl (.int .i64)), .one (.ptr 0 0)]⟩, [6], [(.ret, [4, 5], ⟨[(true, .box [.pl (.prod (.int .i64) (.int .i64))]), (true, .arr XNc)], [.one (.sl 1), .one (.pl (.int .i64))]⟩), (.ret, [4, 5], ⟨[(true, .box [.pl (.prod (.int .i64) (.int .i64))])], [.one (.pl XLc), .one (.pl (.int .i64))]⟩)]⟩,
 noBlk,
 noBlk,
 noBlk,
 noBlk,
 noBlk,
 noBlk,
 noBlk,
 noBlk,
 noBlk,
 noBlk,
 noBlk,
 noBlk,
 noBlk,
 noBlk,
 noBlk,
 noBlk,
 noBlk,
 ⟨[0, 3, 30, 31, 32], ⟨[(true, .arr .bool)], [.one (.pl XLc), .one (.sl 0), .one (.pl XLc), .one (.pl (.int .i64)), .one (.pl (.int .i64))]⟩, [0, 3], [(.ret, [2], ⟨[(true, .arr .bool)], [.one (.pl .bool)]⟩), (.norm, [], ⟨[(true, .arr .bool)], []⟩)]⟩,
 ⟨[1, 3], ⟨[(true, .box [.pl XNc])], [.one (.ptr 0 0), .one (.pl (.int .i64))]⟩, [], [(.ret, [2], ⟨[(true, .box [.pl XNc])], [.one (.pl .bool)]⟩)]⟩,
 ⟨[1, 3, 4], ⟨[(true, .box [.pl XNc]), (true, .box [.pl XNc])], [.one (.ptr 0 0), .one (.pl (.int .i64)), .one (.ptr 1 0)]⟩, [], [(.ret, [2], ⟨[(true, .box [.pl XNc]), (true, .box [.pl XNc])], [.one (.pl .bool)]⟩)]⟩,
 ⟨[0, 3, 4, 5, 41, 42, 43], ⟨[(true, .arr .bool), (true, .box [.pl XNc]), (true, .arr (.int .i64))], [.one (.pl XLc), .one (.sl 0), .one (.pl (.int .i64)), .one (.ptr 1 0), .one (.sl 2), .one (.pl (.int .i64)), .one (.pl (.int .i64))]⟩, [0, 3, 30, 31, 32], [(.ret, [2], ⟨[(true, .arr .bool), (true, .box [.pl XNc]), (true, .arr (.int .i64))], [.one (.pl .bool)]⟩), (.norm, [], ⟨[(true, .arr .bool), (true, .box [.pl XNc]), (true, .arr (.int .i64))], []⟩)]⟩,
 ⟨[0, 1, 7, 8], ⟨[], [.one (.pl (.list .bool)), .one (.pl .bool), .one (.pl (.int .i64)), .one (.pl (.int .i64))]⟩, [], [(.ret, [4], ⟨[], [.one (.pl (.int .i64))]⟩), (.norm, [], ⟨[], []⟩)]⟩,
 noBlk,
 noBlk,
 noBlk,
 noBlk,
 noBlk,
 noBlk,
 ⟨[3, 11, 12, 13], ⟨[(true, .arr (.int .i64))], [.one (.sl 0), .one (.pl XLc), .one (.pl (.int .i64)), .one (.pl (.int .i64))]⟩, [2, 3], [(.norm, [], ⟨[(true, .arr (.int .i64))], []⟩)]⟩,
 ⟨[3, 4, 19, 20, 21], ⟨[(true, .arr (.int .i64)), (true, .arr (.int .i64))], [.one (.sl 0), .one (.pl (.int .i64)), .one (.sl 1), .one (.pl (.int .i64)), .one (.pl (.int .i64))]⟩, [3, 4, 11, 12, 13], [(.norm, [], ⟨[(true, .arr (.int .i64)), (true, .arr (.int .i64))], []⟩)]⟩,
 noBlk,
 noBlk,
 noBlk,
 noBlk,
 noBlk,
 noBlk,
 noBlk,
 noBlk,
 noBlk,
 noBlk,
 noBlk,
 noBlk,
 noBlk,
 noBlk,
 noBlk,
 noBlk,
 noBlk,
 noBlk,
 noBlk,
 noBlk,
 noBlk,
 noBlk,
 noBlk,
 noBlk,
 noBlk,
 noBlk,
 noBlk,
 noBlk,
 noBlk,
 noBlk,
 noBlk,
 noBlk,
 noBlk,
 noBlk,
 noBlk,
 noBlk,
 noBlk,
 noBlk,
 noBlk,
 noBlk,
 noBlk,
 noBlk,
 noBlk,
 noBlk,
 noBlk,
 noBlk,
 noBlk,
 noBlk,
 noBlk,
 noBlk,
 noBlk,
 noBlk,
 noBlk,
 noBlk,
 noBlk,
 noBlk,
 noBlk,
 noBlk,
 noBlk,
 noBlk,
 noBlk,
 noBlk,
 noBlk,
 noBlk,
 noBlk,
 noBlk,
 noBlk,
 noBlk,
 noBlk,
 noBlk,
 noBlk,
 noBlk,
 noBlk,
 noBlk,
 noBlk,
 noBlk,
 noBlk,
 noBlk,
 noBlk,
 noBlk,
 noBlk,
 noBlk,
 noBlk,
 noBlk,
 noBlk,
 noBlk,
 noBlk,
 noBlk,
 noBlk,
 noBlk,
 noBlk,
 ⟨[0, 1, 7, 15, 16, 17], ⟨[(false, .arr XNc), (true, .arr (.int .i64))], [.one (.sl 0), .one (.pl XLc), .one (.sl 1), .one (.sl 1), .one (.pl (.int .i64)), .one (.pl (.int .i64))]⟩, [1, 2, 6, 7], [(.norm, [0], ⟨[(true, .gone), (true, .arr (.int .i64)), (true, .arr XNc)], [.one (.sl 2)]⟩)]⟩,
 ⟨[0, 1, 7, 8], ⟨[(true, .arr .str)], [.one (.sl 0), .one (.pl .str), .one (.pl (.int .i64)), .one (.pl (.int .i64))]⟩, [], [(.ret, [4], ⟨[(true, .arr .str)], [.one (.pl (.int .i64))]⟩), (.norm, [], ⟨[(true, .arr .str)], []⟩)]⟩,
 noBlk,
 ⟨[3, 15, 16, 17], ⟨[(true, .box [.fn 118 [] [some 2, some 3, some 0]]), (true, .arr (.int .i64)), (true, .box [.sl 4]), (true, .box [.sl 5]), (true, .arr XNc), (false, .arr .str)], [.one (.ptr 0 0), .one (.sl 1), .one (.pl (.int .i64)), .one (.pl (.int .i64))]⟩, [], [(.norm, [], ⟨[(true, .box [.fn 118 [] [some 2, some 3, some 0]]), (true, .arr (.int .i64)), (true, .box [.sl 4]), (true, .box [.sl 6]), (true, .arr XNc), (true, .gone), (true, .arr .str)], []⟩)]⟩,
 noBlk,
 noBlk,
 noBlk,
 noBlk,
 noBlk,
 noBlk,
 ⟨[0, 1], ⟨[(true, .box [.sl 1]), (true, .arr (.int .i64))], [.one (.ifp 165 0 0), .one (.pl (.int .i64))]⟩, [], [(.norm, [], ⟨[(true, .box [.sl 1]), (true, .arr (.int .i64))], []⟩)]⟩,
 noBlk,
 noBlk,
 noBlk,
 noBlk,
 noBlk,
 noBlk,
 noBlk,
 noBlk,
 noBlk,
 ⟨[0, 2, 7], ⟨[(true, .box [.sl 1]), (true, .arr (.int .i64))], [.one (.ifp 165 0 0), .one (.pl (.int .i64)), .one (.pl (.int .i64))]⟩, [1, 6], [(.norm, [7], ⟨[(true, .box [.sl 1]), (true, .arr (.int .i64))], [.one (.pl (.int .i64))]⟩)]⟩,
 noBlk,
 noBlk,
 noBlk,
 noBlk,
 noBlk,
 noBlk,
 noBlk,
 noBlk,
 noBlk,
 noBlk,
 noBlk,
 noBlk,
 noBlk,
 noBlk,
 noBlk,
 noBlk,
 noBlk,
 noBlk,
 noBlk,
 ⟨[4, 24, 25, 26], ⟨[(true, .mrows .str (.int .i64))], [.one (.mp 0), .one (.pl (.list (.prod .str XLc))), .one (.pl (.int .i64)), .one (.pl (.int .i64))]⟩, [0, 2, 3, 4], [(.norm, [], ⟨[(true, .mrows .str (.int .i64))], []⟩)]⟩,
 ⟨[4, 7, 8, 9, 50, 51, 52], ⟨[(true, .map .str (.list (.int .i64)) false), (true, .arr (.int .i64)), (true, .rows (.int .i64)), (true, .box [.sl 4]), (false, .arr (.int .i64))], [.one (.mp 0), .one (.sl 1), .one (.sl 2), .one (.ptr 3 0), .one (.pl (.list (.prod .str XLc))), .one (.pl (.int .i64)), .one (.pl (.int .i64))]⟩, [0, 2, 3, 7, 8, 9], [(.norm, [], ⟨[(true, .map .str (.list (.int .i64)) false), (true, .arr (.int .i64)), (true, .rows (.int .i64)), (true, .box [.sl 5]), (true, .gone), (true, .arr (.int .i64))], []⟩)]⟩,
 ⟨[4, 7, 8, 10, 59, 60, 61], ⟨[(true, .map .str (.list (.int .i64)) false), (true, .arr (.int .i64)), (true, .rows (.int .i64))], [.one (.mp 0), .one (.sl 1), .one (.sl 2), .one (.pl (.int .i64)), .one (.pl (.list .str)), .one (.pl (.int .i64)), .one (.pl (.int .i64))]⟩, [4, 7, 8, 9, 10, 50, 51, 52], [(.norm, [], ⟨[(true, .map .str (.list (.int .i64)) false), (true, .arr (.int .i64)), (true, .rows (.int .i64))], []⟩)]⟩,
 ⟨[7, 8, 10, 67, 68, 69], ⟨[(true, .arr (.int .i64)), (true, .rows (.int .i64))], [.one (.sl 0), .one (.sl 1), .one (.pl (.int .i64)), .one (.pl (.list (.int .i64))), .one (.pl (.int .i64)), .one (.pl (.int .i64))]⟩, [4, 7, 8, 10, 59, 60, 61], [(.norm, [], ⟨[(true, .arr (.int .i64)), (true, .rows (.int .i64))], []⟩)]⟩,
 ⟨[7, 8, 9, 16], ⟨[(true, .arr (.int .i64)), (true, .box [.sl 3]), (false, .arr (.int .i64)), (false, .arr (.int .i64))], [.one (.sl 0), .one (.pl (.list (.list (.int .i64)))), .one (.ptr 1 0), .one (.sl 2)]⟩, [0, 2, 3], [(.norm, [16], ⟨[(true, .arr (.int .i64)), (true, .box [.sl 5]), (true, .gone), (true, .gone), (true, .arr (.int .i64)), (true, .arr (.int .i64))], [.one (.sl 4)]⟩)]⟩,
 ⟨[7, 9, 119, 120, 121], ⟨[(true, .arr (.int .i64)), (true, .box [.sl 2]), (false, .arr (.int .i64))], [.one (.sl 0), .one (.ptr 1 0), .one (.pl (.list (.int .i64))), .one (.pl (.int .i64)), .one (.pl (.int .i64))]⟩, [7, 8, 9, 16], [(.norm, [], ⟨[(true, .arr (.int .i64)), (true, .box [.sl 3]), (true, .gone), (true, .arr (.int .i64))], []⟩)]⟩,
 noBlk,
 noBlk,
 noBlk,
 noBlk,
 noBlk,
 noBlk,
 noBlk,
 noBlk,
 noBlk,
 noBlk,
 noBlk,
 noBlk,
 noBlk,
 noBlk,
 noBlk,
 noBlk,
 noBlk,
 noBlk,
 noBlk,
 noBlk,
 noBlk,
 noBlk,
 noBlk,
 noBlk,
 noBlk,
 noBlk,
 noBlk,
 noBlk,
 noBlk,
 noBlk,
 noBlk,
 noBlk,
 noBlk,
 noBlk,
 noBlk,
 noBlk,
 noBlk,
 ⟨[2, 3, 4, 30, 31, 32], ⟨[(true, .box [.nilp]), (true, .box [.pl (.int .i64)]), (true, .box [.ptr 3 0]), (true, .box [.sl 4, .mp 5, .sl 6, .pl .bool, .pl (.int .i64)]), (true, .arr (.any true)), (true, .map .str (.int .i64) false), (true, .arr (.int .i64))], [.one (.ptr 0 0), .one (.ptr 1 0), .one (.ptr 2 0), .one (.pl (.list XSc)), .one (.pl (.int .i64)), .one (.pl (.int .i64))]⟩, [0, 2, 3, 4], [(.ret, [], ⟨[(true, .box [.nilp]), (true, .box [.pl (.int .i64)]), (true, .box [.ptr 3 0]), (true, .box [.sl 4, .mp 5, .sl 6, .pl .bool, .pl (.int .i64)]), (true, .arr (.any true)), (true, .map .str (.int .i64) false), (true, .arr (.int .i64))], []⟩), (.norm, [], ⟨[(true, .box [.nilp]), (true, .box [.pl (.int .i64)]), (true, .box [.ptr 3 0]), (true, .box [.sl 4, .mp 5, .sl 6, .pl .bool, .pl (.int .i64)]), (true, .arr (.any true)), (true, .map .str (.int .i64) false), (true, .arr (.int .i64))], []⟩)]⟩,
 ⟨[2, 3, 4, 9, 10, 56, 57, 58], ⟨[(true, .box [.nilp]), (true, .box [.pl (.int .i64)]), (true, .box [.ptr 5 0]), (false, .arr (.prod .str XLc)), (false, .arr (.int .i64)), (true, .box [.sl 6, .mp 7, .sl 8, .pl .bool, .pl (.int .i64)]), (false, .arr (.any true)), (true, .map .str (.int .i64) false), (true, .arr (.int .i64))], [.one (.ptr 0 0), .one (.ptr 1 0), .one (.ptr 2 0), .one (.sl 3), .one (.sl 4), .one (.pl (.list XSc)), .one (.pl (.int .i64)), .one (.pl (.int .i64))]⟩, [2, 3, 4], [(.ret, [], ⟨[(true, .box [.nilp]), (true, .box [.pl (.int .i64)]), (true, .box [.ptr 5 0]), (true, .gone), (true, .gone), (true, .box [.sl 9, .mp 7, .sl 8, .pl .bool, .pl (.int .i64)]), (true, .gone), (true, .map .str (.int .i64) false), (true, .arr (.int .i64)), (true, .arr (.any true))], []⟩), (.norm, [9, 10], ⟨[(true, .box [.nilp]), (true, .box [.pl (.int .i64)]), (true, .box [.ptr 5 0]), (true, .gone), (true, .gone), (true, .box [.sl 11, .mp 7, .sl 8, .pl .bool, .pl (.int .i64)]), (true, .gone), (true, .map .str (.int .i64) false), (true, .arr (.int .i64)), (true, .arr (.prod .str XLc)), (true, .arr (.int .i64)), (true, .arr (.any true))], [.one (.sl 9), .one (.sl 10)]⟩)]⟩,
 ⟨[2, 3, 4, 9, 10, 11, 12, 13], ⟨[(true, .box [.nilp]), (true, .box [.pl (.int .i64)]), (true, .box [.ptr 7 0]), (true, .arr (.prod .str XLc)), (true, .arr (.int .i64)), (true, .box [.pl XSc]), (true, .box [.ptr 8 0]), (true, .box [.sl 9, .mp 10, .sl 11, .pl .bool, .pl (.int .i64)]), (true, .box [.pl .str, .pl (.int .i64), .pl XLc, .sl 12, .sl 13, .pl (.list (.int .i64)), .sl 14]), (true, .arr (.any true)), (true, .map .str (.int .i64) false), (true, .arr (.int .i64)), (true, .arr .bool), (true, .arr (.int .i64)), (true, .arr (.any false))], [.one (.ptr 0 0), .one (.ptr 1 0), .one (.ptr 2 0), .one (.sl 3), .one (.sl 4), .one (.pl (.int .i64)), .one (.ptr 5 0), .one (.ptr 6 0)]⟩, [2, 3, 4, 56, 57, 58], [(.out 3, [9, 10], ⟨[(true, .box [.nilp]), (true, .box [.pl (.int .i64)]), (true, .box [.ptr 7 0]), (true, .arr (.prod .str XLc)), (true, .arr (.int .i64)), (true, .box [.pl XSc]), (true, .box [.ptr 8 0]), (true, .box [.sl 15, .mp 10, .sl 11, .pl .bool, .pl (.int .i64)]), (true, .box [.pl .str, .pl (.int .i64), .pl XLc, .sl 12, .sl 13, .pl (.list (.int .i64)), .sl 14]), (true, .gone), (true, .map .str (.int .i64) false), (true, .arr (.int .i64)), (true, .arr .bool), (true, .arr (.int .i64)), (true, .arr (.any false)), (true, .arr (.any true))], [.one (.sl 3), .one (.sl 4)]⟩), (.ret, [], ⟨[(true, .box [.nilp]), (true, .box [.pl (.int .i64)]), (true, .box [.ptr 7 0]), (true, .arr (.prod .str XLc)), (true, .arr (.int .i64)), (true, .box [.pl XSc]), (true, .box [.ptr 8 0]), (true, .box [.sl 15, .mp 10, .sl 11, .pl .bool, .pl (.int .i64)]), (true, .box [.pl .str, .pl (.int .i64), .pl XLc, .sl 12, .sl 13, .pl (.list (.int .i64)), .sl 14]), (true, .gone), (true, .map .str (.int .i64) false), (true, .arr (.int .i64)), (true, .arr .bool), (true, .arr (.int .i64)), (true, .arr (.any false)), (true, .arr (.any true))], []⟩), (.norm, [9, 10], ⟨[(true, .box [.nilp]), (true, .box [.pl (.int .i64)]), (true, .box [.ptr 7 0]), (true, .gone), (true, .gone), (true, .box [.pl XSc]), (true, .box [.ptr 8 0]), (true, .box [.sl 17, .mp 10, .sl 11, .pl .bool, .pl (.int .i64)]), (true, .box [.pl .str, .pl (.int .i64), .pl XLc, .sl 12, .sl 13, .pl (.list (.int .i64)), .sl 14]), (true, .gone), (true, .map .str (.int .i64) false), (true, .arr (.int .i64)), (true, .arr .bool), (true, .arr (.int .i64)), (true, .arr (.any false)), (true, .arr (.prod .str XLc)), (true, .arr (.int .i64)), (true, .arr (.any true))], [.one (.sl 15), .one (.sl 16)]⟩)]⟩,
 ⟨[2, 3, 4, 9, 10, 11, 12, 13], ⟨[(true, .box [.nilp]), (true, .box [.pl (.int .i64)]), (true, .box [.ptr 7 0]), (true, .arr (.prod .str XLc)), (true, .arr (.int .i64)), (true, .box [.pl XSc]), (true, .box [.ptr 8 0]), (true, .box [.sl 9, .mp 10, .sl 11, .pl .bool, .pl (.int .i64)]), (true, .box [.pl .str, .pl (.int .i64), .pl XLc, .sl 12, .sl 13, .pl (.list (.int .i64)), .sl 14]), (true, .arr (.any true)), (true, .map .str (.int .i64) false), (true, .arr (.int .i64)), (true, .arr .bool), (true, .arr (.int .i64)), (true, .arr (.any false))], [.one (.ptr 0 0), .one (.ptr 1 0), .one (.ptr 2 0), .one (.sl 3), .one (.sl 4), .one (.pl (.int .i64)), .one (.ptr 5 0), .one (.ptr 6 0)]⟩, [], [(.out 3, [9, 10], ⟨[(true, .box [.nilp]), (true, .box [.pl (.int .i64)]), (true, .box [.ptr 7 0]), (true, .arr (.prod .str XLc)), (true, .arr (.int .i64)), (true, .box [.pl XSc]), (true, .box [.ptr 8 0]), (true, .box [.sl 9, .mp 10, .sl 11, .pl .bool, .pl (.int .i64)]), (true, .box [.pl .str, .pl (.int .i64), .pl XLc, .sl 12, .sl 13, .pl (.list (.int .i64)), .sl 14]), (true, .arr (.any true)), (true, .map .str (.int .i64) false), (true, .arr (.int .i64)), (true, .arr .bool), (true, .arr (.int .i64)), (true, .arr (.any false))], [.one (.sl 3), .one (.sl 4)]⟩), (.ret, [], ⟨[(true, .box [.nilp]), (true, .box [.pl (.int .i64)]), (true, .box [.ptr 7 0]), (true, .arr (.prod .str XLc)), (true, .arr (.int .i64)), (true, .box [.pl XSc]), (true, .box [.ptr 8 0]), (true, .box [.sl 9, .mp 10, .sl 11, .pl .bool, .pl (.int .i64)]), (true, .box [.pl .str, .pl (.int .i64), .pl XLc, .sl 12, .sl 13, .pl (.list (.int .i64)), .sl 14]), (true, .arr (.any true)), (true, .map .str (.int .i64) false), (true, .arr (.int .i64)), (true, .arr .bool), (true, .arr (.int .i64)), (true, .arr (.any false))], []⟩), (.norm, [9, 10], ⟨[(true, .box [.nilp]), (true, .box [.pl (.int .i64)]), (true, .box [.ptr 7 0]), (true, .gone), (true, .gone), (true, .box [.pl XSc]), (true, .box [.ptr 8 0]), (true, .box [.sl 9, .mp 10, .sl 11, .pl .bool, .pl (.int .i64)]), (true, .box [.pl .str, .pl (.int .i64), .pl XLc, .sl 12, .sl 13, .pl (.list (.int .i64)), .sl 14]), (true, .arr (.any true)), (true, .map .str (.int .i64) false), (true, .arr (.int .i64)), (true, .arr .bool), (true, .arr (.int .i64)), (true, .arr (.any false)), (true, .arr (.prod .str XLc)), (true, .arr (.int .i64))], [.one (.sl 15), .one (.sl 16)]⟩)]⟩,
 ⟨[2, 3, 4, 13, 99, 100, 101], ⟨[(true, .box [.nilp]), (true, .box [.pl (.int .i64)]), (true, .box [.ptr 5 0]), (true, .box [.ptr 6 0]), (true, .box [.pl XLc]), (true, .box [.sl 7, .mp 8, .sl 9, .pl .bool, .pl (.int .i64)]), (true, .box [.pl .str, .pl (.int .i64), .pl XLc, .sl 10, .sl 11, .pl (.list (.int .i64)), .sl 12]), (true, .arr (.any true)), (true, .map .str (.int .i64) false), (true, .arr (.int .i64)), (true, .arr .bool), (true, .arr (.int .i64)), (true, .arr (.any false))], [.one (.ptr 0 0), .one (.ptr 1 0), .one (.ptr 2 0), .one (.ptr 3 0), .one (.fn 98 [] [some 4]), .one (.pl (.int .i64)), .agg [.pl XNc]]⟩, [9, 10, 11, 12], [(.ret, [], ⟨[(true, .box [.nilp]), (true, .box [.pl (.int .i64)]), (true, .box [.ptr 5 0]), (true, .box [.ptr 6 0]), (true, .box [.pl XLc]), (true, .box [.sl 7, .mp 8, .sl 9, .pl .bool, .pl (.int .i64)]), (true, .box [.pl .str, .pl (.int .i64), .pl XLc, .sl 10, .sl 11, .pl (.list (.int .i64)), .sl 12]), (true, .arr (.any true)), (true, .map .str (.int .i64) false), (true, .arr (.int .i64)), (true, .arr .bool), (true, .arr (.int .i64)), (true, .arr (.any false))], []⟩), (.norm, [], ⟨[(true, .box [.nilp]), (true, .box [.pl (.int .i64)]), (true, .box [.ptr 5 0]), (true, .box [.ptr 6 0]), (true, .box [.pl XLc]), (true, .box [.sl 7, .mp 8, .sl 9, .pl .bool, .pl (.int .i64)]), (true, .box [.pl .str, .pl (.int .i64), .pl XLc, .sl 10, .sl 11, .pl (.list (.int .i64)), .sl 12]), (true, .arr (.any true)), (true, .map .str (.int .i64) false), (true, .arr (.int .i64)), (true, .arr .bool), (true, .arr (.int .i64)), (true, .arr (.any false))], []⟩)]⟩,
 ⟨[2, 3, 4, 13, 14, 15], ⟨[(true, .box [.nilp]), (true, .box [.pl (.int .i64)]), (true, .box [.ptr 5 0]), (true, .box [.ptr 6 0]), (true, .box [.pl XNc]), (true, .box [.sl 7, .mp 8, .sl 9, .pl .bool, .pl (.int .i64)]), (true, .box [.pl .str, .pl (.int .i64), .pl XLc, .sl 10, .sl 11, .pl (.list (.int .i64)), .sl 12]), (true, .arr (.any true)), (true, .map .str (.int .i64) false), (true, .arr (.int .i64)), (true, .arr .bool), (true, .arr (.int .i64)), (true, .arr (.any false))], [.one (.ptr 0 0), .one (.ptr 1 0), .one (.ptr 2 0), .one (.ptr 3 0), .one (.pl (.int .i64)), .one (.ptr 4 0)]⟩, [2, 3, 4, 13, 99, 100, 101], [(.ret, [], ⟨[(true, .box [.nilp]), (true, .box [.pl (.int .i64)]), (true, .box [.ptr 5 0]), (true, .box [.ptr 6 0]), (true, .box [.pl XNc]), (true, .box [.sl 7, .mp 8, .sl 9, .pl .bool, .pl (.int .i64)]), (true, .box [.pl .str, .pl (.int .i64), .pl XLc, .sl 10, .sl 11, .pl (.list (.int .i64)), .sl 12]), (true, .arr (.any true)), (true, .map .str (.int .i64) false), (true, .arr (.int .i64)), (true, .arr .bool), (true, .arr (.int .i64)), (true, .arr (.any false))], []⟩), (.norm, [], ⟨[(true, .box [.nilp]), (true, .box [.pl (.int .i64)]), (true, .box [.ptr 5 0]), (true, .box [.ptr 6 0]), (true, .box [.pl XNc]), (true, .box [.sl 7, .mp 8, .sl 9, .pl .bool, .pl (.int .i64)]), (true, .box [.pl .str, .pl (.int .i64), .pl XLc, .sl 10, .sl 11, .pl (.list (.int .i64)), .sl 12]), (true, .arr (.any true)), (true, .map .str (.int .i64) false), (true, .arr (.int .i64)), (true, .arr .bool), (true, .arr (.int .i64)), (true, .arr (.any false))], []⟩)]⟩,
 ⟨[13, 14, 15], ⟨[(true, .box [.ptr 2 0]), (true, .box [.pl XNc]), (true, .box [.pl .str, .pl (.int .i64), .pl XLc, .sl 3, .sl 4, .pl (.list (.int .i64)), .sl 5]), (true, .arr .bool), (true, .arr (.int .i64)), (true, .arr (.any false))], [.one (.ptr 0 0), .one (.pl (.int .i64)), .one (.ptr 1 0)]⟩, [], [(.norm, [], ⟨[(true, .box [.ptr 2 0]), (true, .box [.pl XNc]), (true, .box [.pl .str, .pl (.int .i64), .pl XLc, .sl 3, .sl 4, .pl (.list (.int .i64)), .sl 5]), (true, .arr .bool), (true, .arr (.int .i64)), (true, .arr (.any false))], []⟩)]⟩,
 ⟨[13, 14, 15, 133, 134, 135], ⟨[(true, .box [.ptr 3 0]), (true, .box [.pl XNc]), (true, .arr (.int .i64)), (true, .box [.pl .str, .pl (.int .i64), .pl XLc, .sl 4, .sl 5, .pl (.list (.int .i64)), .sl 6]), (true, .arr .bool), (true, .arr (.int .i64)), (true, .arr (.any false))], [.one (.ptr 0 0), .one (.pl (.int .i64)), .one (.ptr 1 0), .one (.sl 2), .one (.pl (.int .i64)), .one (.pl (.int .i64))]⟩, [], [(.norm, [], ⟨[(true, .box [.ptr 3 0]), (true, .box [.pl XNc]), (true, .arr (.int .i64)), (true, .box [.pl .str, .pl (.int .i64), .pl XLc, .sl 4, .sl 5, .pl (.list (.int .i64)), .sl 6]), (true, .arr .bool), (true, .arr (.int .i64)), (true, .arr (.any false))], []⟩)]⟩,
 ⟨[4, 10, 181, 182, 183], ⟨[(true, .box [.ptr 3 0]), (true, .arr (.int .i64)), (true, .arr (.int .i64)), (true, .box [.sl 4, .mp 5, .sl 6, .pl .bool, .pl (.int .i64)]), (true, .arr (.any true)), (true, .map .str (.int .i64) false), (false, .arr (.int .i64))], [.one (.ptr 0 0), .one (.sl 1), .one (.sl 2), .one (.pl (.int .i64)), .one (.pl (.int .i64))]⟩, [2, 3, 4, 21], [(.norm, [], ⟨[(true, .box [.ptr 3 0]), (true, .arr (.int .i64)), (true, .arr (.int .i64)), (true, .box [.sl 4, .mp 5, .sl 7, .pl .bool, .pl (.int .i64)]), (true, .arr (.any true)), (true, .map .str (.int .i64) false), (true, .gone), (true, .arr (.int .i64))], []⟩)]⟩,
 ⟨[0, 1, 7, 8], ⟨[], [.one (.pl (.list XSc)), .one (.fn 22 [] []), .one (.pl (.int .i64)), .one (.pl (.int .i64))]⟩, [], [(.ret, [4], ⟨[], [.one (.pl (.int .i64))]⟩), (.norm, [], ⟨[], []⟩)]⟩,
 ⟨[0, 1, 7, 8], ⟨[], [.one (.pl XLc), .one (.fn 49 [] []), .one (.pl (.int .i64)), .one (.pl (.int .i64))]⟩, [], [(.ret, [4], ⟨[], [.one (.pl (.int .i64))]⟩), (.norm, [], ⟨[], []⟩)]⟩,
 noBlk,
 noBlk,
 noBlk,
 noBlk,
 noBlk,
 noBlk,
 noBlk,
 noBlk,
 noBlk,
 noBlk,
 noBlk,
 noBlk,
 noBlk,
 noBlk,
 noBlk,
 noBlk,
 noBlk,
 noBlk,
 noBlk,
 noBlk,
 noBlk,
 noBlk,
 noBlk,
 noBlk,
 noBlk,
 noBlk,
 noBlk,
 noBlk,
 noBlk,
 noBlk,
 noBlk,
 noBlk,
 noBlk,
 noBlk,
 noBlk,
 noBlk,
 noBlk,
 noBlk,
 noBlk,
 noBlk,
 noBlk,
 noBlk,
 noBlk,
 noBlk,
 noBlk,
 noBlk,
 noBlk,
 noBlk,
 noBlk,
 noBlk,
 noBlk,
 noBlk,
 noBlk,
 noBlk,
 noBlk,
 noBlk,
 noBlk,
 noBlk,
 noBlk,
 noBlk,
 noBlk,
 noBlk,
 noBlk,
 noBlk,
 noBlk,
 noBlk,
 noBlk,
 noBlk,
 noBlk,
 noBlk,
 noBlk,
 noBlk,
 noBlk,
 noBlk,
 noBlk,
 noBlk,
 noBlk,
 noBlk,
 noBlk,
 noBlk,
 noBlk,
 noBlk,
 noBlk,
 noBlk,
 noBlk,
 noBlk,
 noBlk,
 noBlk,
 noBlk,
 noBlk,
 noBlk,
 noBlk,
 noBlk,
 noBlk,
 noBlk,
 noBlk,
 noBlk,
 noBlk,
 noBlk,
 noBlk,
 noBlk,
 noBlk,
 noBlk,
 noBlk,
 noBlk,
 noBlk,
 noBlk,
 ⟨[6, 7, 9, 49, 50, 51], ⟨[(true, .box [.sl 3, .sl 4, .sl 5]), (true, .box [.mp 6]), (true, .box [.sl 7]), (false, .arr XOc), (true, .arr (.int .i64)), (false, .arr (.int .i64)), (true, .map .str (.int .i64) false), (true, .rows (.int .i64))], [.one (.ptr 0 0), .one (.ptr 1 0), .one (.ptr 2 0), .one (.pl (.list XSc)), .one (.pl (.int .i64)), .one (.pl (.int .i64))]⟩, [0, 2, 3, 6, 7, 8, 9], [(.norm, [], ⟨[(true, .box [.sl 8, .sl 4, .sl 9]), (true, .box [.mp 6]), (true, .box [.sl 7]), (true, .gone), (true, .arr (.int .i64)), (true, .gone), (true, .map .str (.int .i64) false), (true, .rows (.int .i64)), (true, .arr XOc), (true, .arr (.int .i64))], []⟩)]⟩,
 ⟨[8, 9, 12, 91, 92, 93], ⟨[(true, .box [.sl 2]), (true, .box [.sl 3]), (true, .arr XLc), (true, .rows (.int .i64))], [.one (.ptr 0 0), .one (.ptr 1 0), .one (.pl (.int .i64)), .one (.pl (.list XSc)), .one (.pl (.int .i64)), .one (.pl (.int .i64))]⟩, [2, 3, 6, 7, 8, 9], [(.norm, [], ⟨[(true, .box [.sl 2]), (true, .box [.sl 3]), (true, .arr XLc), (true, .rows (.int .i64))], []⟩)]⟩,
 ⟨[8, 9, 12, 13], ⟨[(true, .box [.sl 2]), (true, .box [.sl 3]), (true, .arr XLc), (true, .rows (.int .i64))], [.one (.ptr 0 0), .one (.ptr 1 0), .one (.pl (.int .i64)), .one (.pl (.int .i64))]⟩, [8, 9, 91, 92, 93], [(.norm, [12], ⟨[(true, .box [.sl 2]), (true, .box [.sl 3]), (true, .arr XLc), (true, .rows (.int .i64))], [.one (.pl (.int .i64))]⟩)]⟩,
 ⟨[9, 12, 13, 111, 112, 113], ⟨[(true, .box [.sl 1]), (true, .rows (.int .i64))], [.one (.ptr 0 0), .one (.pl (.int .i64)), .one (.pl (.int .i64)), .one (.pl XLc), .one (.pl (.int .i64)), .one (.pl (.int .i64))]⟩, [], [(.norm, [12], ⟨[(true, .box [.sl 1]), (true, .rows (.int .i64))], [.one (.pl (.int .i64))]⟩)]⟩,
 ⟨[12, 16], ⟨[(true, .box [.pl XNc])], [.one (.pl (.int .i64)), .one (.ptr 0 0)]⟩, [9, 13, 111, 112, 113], [(.norm, [12], ⟨[(true, .box [.pl XNc])], [.one (.pl (.int .i64))]⟩)]⟩,
 ⟨[6, 9, 17, 135, 136, 137], ⟨[(true, .box [.sl 4, .sl 5, .sl 6]), (true, .box [.pl (.list (.list (.int .i64)))]), (true, .box [.fn 25 [] [some 7, some 8, some 2, some 1]]), (true, .arr XLc), (false, .arr XOc), (false, .arr (.int .i64)), (true, .arr (.int .i64)), (true, .box [.sl 3]), (true, .box [.mp 9]), (true, .map .str (.int .i64) false)], [.one (.ptr 0 0), .one (.ptr 1 0), .one (.ptr 2 0), .one (.sl 3), .one (.pl (.int .i64)), .one (.pl (.int .i64))]⟩, [2, 3, 6], [(.norm, [], ⟨[(true, .box [.sl 10, .sl 11, .sl 6]), (true, .box [.pl (.list (.list (.int .i64)))]), (true, .box [.fn 25 [] [some 7, some 8, some 2, some 1]]), (true, .arr XLc), (true, .gone), (true, .gone), (true, .arr (.int .i64)), (true, .box [.sl 3]), (true, .box [.mp 9]), (true, .map .str (.int .i64) false), (true, .arr XOc), (true, .arr (.int .i64))], []⟩)]⟩,
 ⟨[6, 17, 18, 19], ⟨[(true, .box [.sl 2, .sl 3, .sl 4]), (true, .box [.fn 25 [] [some 5, some 6, some 1, some 7]]), (true, .arr XOc), (true, .arr (.int .i64)), (true, .arr (.int .i64)), (true, .box [.sl 8]), (true, .box [.mp 9]), (true, .box [.pl (.list (.list (.int .i64)))]), (true, .arr XLc), (true, .map .str (.int .i64) false)], [.one (.ptr 0 0), .one (.ptr 1 0), .one (.pl (.int .i64)), .one (.pl XLc)]⟩, [6, 9, 17, 135, 136, 137], [(.norm, [], ⟨[(true, .box [.sl 10, .sl 3, .sl 4]), (true, .box [.fn 25 [] [some 5, some 6, some 1, some 7]]), (true, .gone), (true, .arr (.int .i64)), (true, .arr (.int .i64)), (true, .box [.sl 8]), (true, .box [.mp 9]), (true, .box [.pl (.list (.list (.int .i64)))]), (true, .arr XLc), (true, .map .str (.int .i64) false), (true, .arr XOc)], []⟩)]⟩,
 ⟨[6, 17, 18, 156, 157, 158], ⟨[(true, .box [.sl 2, .sl 3, .sl 4]), (true, .box [.fn 25 [] [some 5, some 6, some 1, some 7]]), (false, .arr XOc), (true, .arr (.int .i64)), (true, .arr (.int .i64)), (true, .box [.sl 8]), (true, .box [.mp 9]), (true, .box [.pl (.list (.list (.int .i64)))]), (true, .arr XLc), (true, .map .str (.int .i64) false)], [.one (.ptr 0 0), .one (.ptr 1 0), .one (.pl (.int .i64)), .one (.pl XLc), .one (.pl (.int .i64)), .one (.pl (.int .i64))]⟩, [], [(.norm, [], ⟨[(true, .box [.sl 10, .sl 3, .sl 4]), (true, .box [.fn 25 [] [some 5, some 6, some 1, some 7]]), (true, .gone), (true, .arr (.int .i64)), (true, .arr (.int .i64)), (true, .box [.sl 8]), (true, .box [.mp 9]), (true, .box [.pl (.list (.list (.int .i64)))]), (true, .arr XLc), (true, .map .str (.int .i64) false), (true, .arr XOc)], []⟩)]⟩,
 ⟨[17, 18, 23, 175, 176, 177], ⟨[(true, .box [.fn 25 [] [some 3, some 4, some 0, some 5]]), (true, .cells [.ptr 6 1, .ptr 6 2, .ptr 6 3]), (true, .arr (.int .i64)), (true, .box [.sl 7]), (true, .box [.mp 8]), (true, .box [.pl (.list (.list (.int .i64)))]), (true, .box [.pl XOc]), (true, .arr XLc), (true, .map .str (.int .i64) false)], [.one (.ptr 0 0), .one (.pl (.int .i64)), .one (.sl 1), .one (.sl 2), .one (.pl (.int .i64)), .one (.pl (.int .i64))]⟩, [6, 17, 18, 22, 156, 157, 158], [(.norm, [], ⟨[(true, .box [.fn 25 [] [some 3, some 4, some 0, some 5]]), (true, .cells [.ptr 6 1, .ptr 6 2, .ptr 6 3]), (true, .arr (.int .i64)), (true, .box [.sl 7]), (true, .box [.mp 8]), (true, .box [.pl (.list (.list (.int .i64)))]), (true, .box [.pl XOc]), (true, .arr XLc), (true, .map .str (.int .i64) false)], []⟩)]⟩,
 noBlk,
 ⟨[1, 3, 4], ⟨[(true, .box [.sl 2, .pl (.list (.int .i64)), .pl (.list (.int .i64))]), (true, .box [.sl 3, .pl (.list (.int .i64)), .pl (.list (.int .i64))]), (true, .arr XOc), (false, .arr XOc)], [.one (.ptr 0 0), .one (.ptr 1 0), .one (.pl (.int .i64))]⟩, [2, 3], [(.norm, [], ⟨[(true, .box [.sl 2, .pl (.list (.int .i64)), .pl (.list (.int .i64))]), (true, .box [.sl 4, .pl (.list (.int .i64)), .pl (.list (.int .i64))]), (true, .arr XOc), (true, .gone), (true, .arr XOc)], []⟩)]⟩,
 ⟨[0, 1, 7, 8], ⟨[(true, .box [.pl XTc])], [.one (.pl (.list XOc)), .one (.fn 34 [] [some 0]), .one (.pl (.int .i64)), .one (.pl (.int .i64))]⟩, [], [(.ret, [4], ⟨[(true, .box [.pl XTc])], [.one (.pl (.int .i64))]⟩), (.norm, [], ⟨[(true, .box [.pl XTc])], []⟩)]⟩,
 ⟨[5, 16, 17, 18], ⟨[(true, .box [.pl XTc])], [.one (.fn 59 [] [some 0]), .one (.pl (.list (.int .i64))), .one (.pl (.int .i64)), .one (.pl (.int .i64))]⟩, [2, 3, 7], [(.ret, [4], ⟨[(true, .box [.pl XTc])], [.one (.pl .bool)]⟩), (.norm, [], ⟨[(true, .box [.pl XTc])], []⟩)]⟩,
 ⟨[0, 1, 7, 8], ⟨[], [.one (.pl (.list (.int .i64))), .one (.fn 62 [] []), .one (.pl (.int .i64)), .one (.pl (.int .i64))]⟩, [], [(.ret, [4], ⟨[], [.one (.pl (.int .i64))]⟩), (.norm, [], ⟨[], []⟩)]⟩,
 ⟨[0, 1, 7, 8], ⟨[(true, .box [.pl XTc])], [.one (.pl (.list (.int .i64))), .one (.fn 36 [] [some 0]), .one (.pl (.int .i64)), .one (.pl (.int .i64))]⟩, [], [(.ret, [4], ⟨[(true, .box [.pl XTc])], [.one (.pl (.int .i64))]⟩), (.norm, [], ⟨[(true, .box [.pl XTc])], []⟩)]⟩,
 noBlk,
 noBlk,
 noBlk,
 noBlk,
 noBlk,
 ⟨[1, 3, 17, 18], ⟨[(true, .box [.pl XTc]), (true, .arr (.int .i64))], [.one (.ptr 0 0), .one (.sl 1), .one (.pl (.int .i64)), .one (.pl (.int .i64))]⟩, [], [(.ret, [2], ⟨[(true, .box [.pl XTc]), (true, .arr (.int .i64))], [.one (.pl .bool)]⟩), (.norm, [], ⟨[(true, .box [.pl XTc]), (true, .arr (.int .i64))], []⟩)]⟩,
 ⟨[1, 3, 5], ⟨[(true, .box [.pl XTc]), (true, .arr (.int .i64)), (false, .arr (.int .i64))], [.one (.ptr 0 0), .one (.sl 1), .one (.sl 2)]⟩, [1, 3, 17, 18], [(.ret, [2], ⟨[(true, .box [.pl XTc]), (true, .arr (.int .i64)), (true, .gone)], [.one (.pl .bool)]⟩), (.norm, [], ⟨[(true, .box [.pl XTc]), (true, .arr (.int .i64)), (true, .gone)], []⟩)]⟩,
 ⟨[3, 5, 64, 65, 66], ⟨[(true, .arr (.int .i64)), (false, .arr (.int .i64))], [.one (.sl 0), .one (.sl 1), .one (.pl (.list (.int .i64))), .one (.pl (.int .i64)), .one (.pl (.int .i64))]⟩, [1, 3], [(.ret, [2], ⟨[(true, .arr (.int .i64)), (true, .gone)], [.one (.pl .bool)]⟩), (.norm, [5], ⟨[(true, .arr (.int .i64)), (true, .gone), (true, .arr (.int .i64))], [.one (.sl 2)]⟩)]⟩,
 noBlk,
 ⟨[1, 3, 4], ⟨[(true, .box [.pl XTc]), (true, .box [.sl 2, .pl (.list (.int .i64)), .pl (.list (.int .i64))]), (false, .arr XOc)], [.one (.ptr 0 0), .one (.ptr 1 0), .one (.pl (.int .i64))]⟩, [2, 3], [(.norm, [], ⟨[(true, .box [.pl XTc]), (true, .box [.sl 3, .pl (.list (.int .i64)), .pl (.list (.int .i64))]), (true, .gone), (true, .arr XOc)], []⟩)]⟩,
 ⟨[0, 1, 5], ⟨[], [.one (.pl (.list (.int .i64))), .one (.pl (.list (.int .i64))), .one (.pl (.int .i64))]⟩, [], [(.ret, [4], ⟨[], [.one (.pl .bool)]⟩), (.norm, [], ⟨[], []⟩)]⟩,
 ⟨[2, 3, 5], ⟨[(true, .box [.pl XTc]), (true, .box [.pl XTc])], [.one (.ptr 0 0), .one (.ptr 1 0), .one (.pl (.int .i64))]⟩, [], [(.ret, [4], ⟨[(true, .box [.pl XTc]), (true, .box [.pl XTc])], [.one (.pl .bool)]⟩), (.norm, [], ⟨[(true, .box [.pl XTc]), (true, .box [.pl XTc])], []⟩)]⟩,
 noBlk,
 ⟨[0, 1, 5], ⟨[], [.one (.pl (.list XSc)), .one (.pl .str), .one (.pl (.int .i64))]⟩, [], [(.ret, [4], ⟨[], [.one (.pl (.int .i64))]⟩), (.norm, [], ⟨[], []⟩)]⟩,
 ⟨[0, 3, 4], ⟨[(true, .arr (.int .i64))], [.one (.pl XLc), .one (.sl 0), .one (.pl (.int .i64))]⟩, [0, 3], [(.ret, [2], ⟨[(true, .arr (.int .i64))], [.one (.pl .bool)]⟩), (.norm, [], ⟨[(true, .arr (.int .i64))], []⟩)]⟩,
 ⟨[3, 4, 5, 6], ⟨[(true, .arr (.int .i64)), (true, .arr (.int .i64))], [.one (.sl 0), .one (.pl (.int .i64)), .one (.sl 1), .one (.pl (.int .i64))]⟩, [0, 3, 4], [(.ret, [2], ⟨[(true, .arr (.int .i64)), (true, .arr (.int .i64))], [.one (.pl .bool)]⟩), (.norm, [], ⟨[(true, .arr (.int .i64)), (true, .arr (.int .i64))], []⟩)]⟩,
 ⟨[0, 5, 6, 7], ⟨[(true, .box [.pl XNc]), (true, .arr (.int .i64))], [.one (.pl XLc), .one (.ptr 0 0), .one (.sl 1), .one (.pl (.int .i64))]⟩, [], [(.ret, [4], ⟨[(true, .box [.pl XNc]), (true, .arr (.int .i64))], [.one (.pl .bool)]⟩), (.norm, [], ⟨[(true, .box [.pl XNc]), (true, .arr (.int .i64))], []⟩)]⟩,
 ⟨[0, 3, 7], ⟨[(true, .arr (.int .i64))], [.one (.pl XLc), .one (.sl 0), .one (.pl (.int .i64))]⟩, [0], [(.ret, [2], ⟨[(true, .arr (.int .i64))], [.one (.pl .bool)]⟩), (.norm, [], ⟨[(true, .arr (.int .i64))], []⟩)]⟩,
 ⟨[0, 1, 5], ⟨[], [.one (.pl (.list XSc)), .one (.pl XLc), .one (.pl (.int .i64))]⟩, [], [(.ret, [4], ⟨[], [.one (.pl .bool)]⟩), (.norm, [], ⟨[], []⟩)]⟩,
 noBlk,
 ⟨[0, 3, 4], ⟨[(false, .arr (.prod .str XLc))], [.one (.pl (.list XSc)), .one (.sl 0), .one (.pl (.int .i64))]⟩, [], [(.ret, [2], ⟨[(true, .gone)], [.one (.pl (.int .i64))]⟩), (.norm, [3], ⟨[(true, .gone), (true, .arr (.prod .str XLc))], [.one (.sl 1)]⟩)]⟩,
 noBlk,
 noBlk,
 ⟨[0, 2, 7, 8, 9], ⟨[(false, .arr XNc), (true, .arr (.int .i64)), (false, .arr (.int .i64))], [.one (.pl XLc), .one (.sl 0), .one (.sl 1), .one (.sl 2), .one (.pl (.int .i64))]⟩, [0, 1, 6], [(.norm, [2, 8], ⟨[(true, .gone), (true, .arr (.int .i64)), (true, .gone), (true, .arr XNc), (true, .arr (.int .i64))], [.one (.sl 3), .one (.sl 4)]⟩)]⟩,
 noBlk,
 noBlk,
 noBlk,
 noBlk,
 ⟨[0, 3, 4], ⟨[(true, .arr .bool)], [.one (.pl XLc), .one (.sl 0), .one (.pl (.int .i64))]⟩, [2, 3], [(.norm, [], ⟨[(true, .arr .bool)], []⟩)]⟩,
 ⟨[0, 3, 4, 5, 6], ⟨[(true, .arr .bool), (true, .arr (.int .i64))], [.one (.pl XLc), .one (.sl 0), .one (.pl (.int .i64)), .one (.sl 1), .one (.pl (.int .i64))]⟩, [0, 3, 4], [(.norm, [], ⟨[(true, .arr .bool), (true, .arr (.int .i64))], []⟩)]⟩,
 noBlk,
 ⟨[0, 1, 5], ⟨[(true, .arr .str)], [.one (.sl 0), .one (.pl .str), .one (.pl (.int .i64))]⟩, [], [(.ret, [4], ⟨[(true, .arr .str)], [.one (.pl .bool)]⟩), (.norm, [], ⟨[(true, .arr .str)], []⟩)]⟩,
 ⟨[0, 3, 4, 5], ⟨[(true, .arr .bool), (false, .arr .str)], [.one (.pl XLc), .one (.sl 0), .one (.sl 1), .one (.pl (.int .i64))]⟩, [2], [(.norm, [4], ⟨[(true, .arr .bool), (true, .gone), (true, .arr .str)], [.one (.sl 2)]⟩)]⟩,
 noBlk,
 noBlk,
 noBlk,
 ⟨[0, 1, 2, 7], ⟨[(true, .arr .bool)], [.one (.pl (.list (.prod .str XLc))), .one (.sl 0), .one (.pl (.list .str)), .one (.pl (.int .i64))]⟩, [], [(.ret, [6], ⟨[(true, .arr .bool)], [.one (.pl .bool)]⟩), (.norm, [], ⟨[(true, .arr .bool)], []⟩)]⟩,
 ⟨[0, 1, 5], ⟨[], [.one (.pl (.list .str)), .one (.pl .str), .one (.pl (.int .i64))]⟩, [], [(.ret, [4], ⟨[], [.one (.pl .bool)]⟩), (.norm, [], ⟨[], []⟩)]⟩,
 ⟨[0, 4, 5], ⟨[(false, .arr (.list .str))], [.one (.pl (.list (.prod .str XLc))), .one (.sl 0), .one (.pl (.int .i64))]⟩, [0, 2, 3], [(.norm, [4], ⟨[(true, .gone), (true, .arr (.list .str))], [.one (.sl 1)]⟩)]⟩,
 ⟨[0, 4, 6, 7], ⟨[(true, .arr (.list .str)), (true, .arr .bool), (false, .arr (.int .i64))], [.one (.pl (.list (.prod .str XLc))), .one (.sl 0), .one (.sl 1), .one (.sl 2)]⟩, [], [(.ret, [2, 3], ⟨[(true, .arr (.list .str)), (true, .arr .bool), (true, .gone), (true, .arr (.int .i64))], [.one (.sl 3), .one (.pl (.int .i64))]⟩), (.norm, [7], ⟨[(true, .arr (.list .str)), (true, .arr .bool), (true, .gone), (true, .arr (.int .i64))], [.one (.sl 3)]⟩)]⟩,
 ⟨[0, 4, 6, 8, 9], ⟨[(true, .arr (.list .str)), (true, .arr .bool)], [.one (.pl (.list (.prod .str XLc))), .one (.sl 0), .one (.sl 1), .one (.pl (.int .i64)), .one (.pl (.int .i64))]⟩, [0, 2, 3, 4, 6, 7], [(.norm, [8], ⟨[(true, .arr (.list .str)), (true, .arr .bool)], [.one (.pl (.int .i64))]⟩)]⟩,
 noBlk,
 ⟨[0, 3], ⟨[], [.one (.pl XLc), .one (.pl (.int .i64))]⟩, [], [(.ret, [2], ⟨[], [.one (.pl .bool)]⟩), (.norm, [], ⟨[], []⟩)]⟩,
 noBlk,
 noBlk,
 noBlk,
 noBlk,
 noBlk,
 noBlk,
 noBlk,
 noBlk,
 noBlk,
 noBlk,
 noBlk,
 noBlk,
 ⟨[0, 1, 5, 6, 7], ⟨[(false, .arr (.list (.int .i64)))], [.one (.pl (.list XSc)), .one (.pl (.int .i64)), .one (.sl 0), .one (.pl (.int .i64)), .one (.pl (.int .i64))]⟩, [4], [(.norm, [5], ⟨[(true, .gone), (true, .arr (.list (.int .i64)))], [.one (.sl 1)]⟩)]⟩,
 ⟨[1, 8, 9, 10], ⟨[(true, .arr XNc), (false, .arr (.int .i64))], [.one (.pl (.int .i64)), .one (.sl 0), .one (.sl 1), .one (.pl (.int .i64))]⟩, [0, 5, 6, 7], [(.norm, [1, 9], ⟨[(true, .arr XNc), (true, .gone), (true, .arr (.int .i64))], [.one (.pl (.int .i64)), .one (.sl 2)]⟩)]⟩,
 noBlk,
 noBlk,
 noBlk,
 noBlk,
 noBlk,
 noBlk,
 noBlk,
 noBlk,
 noBlk,
 noBlk,
 noBlk,
 noBlk,
 noBlk,
 noBlk,
 noBlk,
 noBlk,
 noBlk,
 ⟨[0, 1, 2, 3, 11, 12, 13], ⟨[(true, .box [.pl XOc]), (true, .arr (.int .i64))], [.one (.pl (.list XSc)), .one (.pl (.list (.list (.int .i64)))), .one (.pl XLc), .one (.pl (.int .i64)), .one (.ptr 0 0), .one (.sl 1), .one (.pl (.int .i64))]⟩, [10, 11], [(.norm, [], ⟨[(true, .box [.pl XOc]), (true, .arr (.int .i64))], []⟩)]⟩,
 noBlk,
 noBlk,
 noBlk,
 noBlk,
 noBlk,
 noBlk,
 noBlk,
 noBlk,
 noBlk,
 noBlk,
 noBlk,
 noBlk,
 noBlk,
 noBlk,
 noBlk,
 noBlk,
 noBlk,
 noBlk,
 noBlk,
 noBlk,
 noBlk,
 noBlk,
 noBlk,
 noBlk,
 noBlk,
 ⟨[0, 2, 5], ⟨[(true, .box [.sl 1, .sl 2, .sl 3]), (true, .arr XOc), (true, .arr (.int .i64)), (true, .arr (.int .i64))], [.one (.pl (.list XSc)), .one (.ptr 0 0), .one (.pl (.int .i64))]⟩, [0, 2, 4], [(.ret, [3], ⟨[(true, .box [.sl 4, .sl 5, .sl 6]), (true, .arr XOc), (true, .arr (.int .i64)), (true, .arr (.int .i64)), (true, .arr XOc), (true, .arr (.int .i64)), (true, .arr (.int .i64))], [.one (.pl (.int .i64))]⟩), (.norm, [], ⟨[(true, .box [.sl 1, .sl 2, .sl 3]), (true, .arr XOc), (true, .arr (.int .i64)), (true, .arr (.int .i64))], []⟩)]⟩,
 ⟨[0, 6, 7], ⟨[(true, .box [.sl 1, .sl 2, .sl 3]), (false, .arr XOc), (true, .arr (.int .i64)), (false, .arr (.int .i64))], [.one (.pl (.list XSc)), .one (.ptr 0 0), .one (.pl (.int .i64))]⟩, [0, 2, 3, 6], [(.norm, [], ⟨[(true, .box [.sl 4, .sl 2, .sl 5]), (true, .gone), (true, .arr (.int .i64)), (true, .gone), (true, .arr XOc), (true, .arr (.int .i64))], []⟩)]⟩,
 ⟨[0, 6, 8, 9], ⟨[(true, .box [.sl 1, .sl 2, .sl 3]), (false, .arr XOc), (false, .arr (.int .i64)), (true, .arr (.int .i64))], [.one (.pl (.list XSc)), .one (.ptr 0 0), .one (.pl (.list (.list (.int .i64)))), .one (.pl (.int .i64))]⟩, [2, 3, 6], [(.norm, [], ⟨[(true, .box [.sl 4, .sl 5, .sl 3]), (true, .gone), (true, .gone), (true, .arr (.int .i64)), (true, .arr XOc), (true, .arr (.int .i64))], []⟩)]⟩,
 ⟨[0, 6, 8, 9], ⟨[(true, .box [.sl 1, .sl 2, .sl 3]), (true, .arr XOc), (true, .arr (.int .i64)), (true, .arr (.int .i64))], [.one (.pl (.list XSc)), .one (.ptr 0 0), .one (.pl (.list (.list (.int .i64)))), .one (.pl (.int .i64))]⟩, [0, 6, 8, 9], [(.norm, [], ⟨[(true, .box [.sl 4, .sl 2, .sl 3]), (true, .gone), (true, .arr (.int .i64)), (true, .arr (.int .i64)), (true, .arr XOc)], []⟩)]⟩,
 ⟨[0, 6, 8, 9, 10, 11], ⟨[(true, .box [.sl 1, .sl 2, .sl 3]), (false, .arr XOc), (true, .arr (.int .i64)), (true, .arr (.int .i64))], [.one (.pl (.list XSc)), .one (.ptr 0 0), .one (.pl (.list (.list (.int .i64)))), .one (.pl (.int .i64)), .one (.pl XLc), .one (.pl (.int .i64))]⟩, [], [(.norm, [], ⟨[(true, .box [.sl 4, .sl 2, .sl 3]), (true, .gone), (true, .arr (.int .i64)), (true, .arr (.int .i64)), (true, .arr XOc)], []⟩)]⟩,
 noBlk,
 ⟨[1, 3, 4], ⟨[(true, .box [.pl XTc]), (true, .box [.sl 2, .pl (.list (.int .i64)), .pl (.list (.int .i64))]), (false, .arr XOc)], [.one (.ptr 0 0), .one (.ptr 1 0), .one (.pl (.int .i64))]⟩, [2, 3], [(.norm, [], ⟨[(true, .box [.pl XTc]), (true, .box [.sl 3, .pl (.list (.int .i64)), .pl (.list (.int .i64))]), (true, .gone), (true, .arr XOc)], []⟩)]⟩,
 ⟨[1, 3], ⟨[(true, .box [.pl XTc])], [.one (.ptr 0 0), .one (.pl (.int .i64))]⟩, [1], [(.ret, [2], ⟨[(true, .box [.pl XTc])], [.one (.pl .bool)]⟩), (.norm, [], ⟨[(true, .box [.pl XTc])], []⟩)]⟩,
 ⟨[1, 6], ⟨[(true, .box [.pl XTc])], [.one (.ptr 0 0), .one (.pl (.int .i64))]⟩, [], [(.ret, [2], ⟨[(true, .box [.pl XTc])], [.one (.pl .bool)]⟩), (.norm, [], ⟨[(true, .box [.pl XTc])], []⟩)]⟩,
 noBlk,
 noBlk,
 noBlk,
 ⟨[1, 3, 4], ⟨[(true, .box [.pl XTc]), (true, .arr .bool), (false, .arr (.int .i64))], [.one (.ptr 0 0), .one (.sl 1), .one (.sl 2)]⟩, [], [(.ret, [2], ⟨[(true, .box [.pl XTc]), (true, .arr .bool), (true, .gone), (true, .arr (.int .i64))], [.one (.sl 3)]⟩)]⟩,
 ⟨[1, 3, 5, 6], ⟨[(true, .box [.pl XTc]), (true, .arr .bool)], [.one (.ptr 0 0), .one (.sl 1), .one (.pl (.int .i64)), .one (.pl (.int .i64))]⟩, [1, 2, 3, 4], [(.norm, [5], ⟨[(true, .box [.pl XTc]), (true, .arr .bool)], [.one (.pl (.int .i64))]⟩)]⟩,
 ⟨[3, 7, 8, 9], ⟨[(true, .arr .bool), (true, .arr (.int .i64))], [.one (.sl 0), .one (.pl .bool), .one (.sl 1), .one (.pl (.int .i64))]⟩, [1, 3, 5, 6], [(.norm, [7], ⟨[(true, .arr .bool), (true, .arr (.int .i64))], [.one (.pl .bool)]⟩)]⟩,
 ⟨[0, 5, 6], ⟨[], [.one (.pl (.list XSc)), .one (.pl (.int .i64)), .one (.pl (.int .i64))]⟩, [0, 2, 3], [(.norm, [5], ⟨[], [.one (.pl (.int .i64))]⟩)]⟩,
 ⟨[0, 5, 6, 7], ⟨[], [.one (.pl (.list XSc)), .one (.pl (.int .i64)), .one (.pl (.int .i64)), .one (.pl (.int .i64))]⟩, [0, 6], [(.norm, [5], ⟨[], [.one (.pl (.int .i64))]⟩)]⟩,
 ⟨[3, 5], ⟨[(true, .box [.pl XTc])], [.one (.ptr 0 0), .one (.pl (.int .i64))]⟩, [], [(.ret, [2], ⟨[(true, .box [.pl XTc])], [.one (.pl .bool)]⟩), (.norm, [], ⟨[(true, .box [.pl XTc])], []⟩)]⟩]
 lkL := [(1, [(0, 0), (2, 1)]), (4, [(0, 10), (2, 11)]), (5, [(0, 4), (2, 6)]), (7, [(0, 5)]), (10, [(0, 7)]), (12, [(0, 8)]), (13, [(0, 9)]), (18, [(0, 28)]), (19, [(0, 26)]), (20, [(0, 24)]), (22, [(0, 22)]), (23, [(0, 20)]), (28, [(0, 16)]), (31, [(0, 15)]), (37, [(0, 18)]), (43, [(0, 36), (2, 37)]), (44, [(0, 362), (2, 363), (4, 365), (6, 367), (8, 369), (10, 370)]), (46, [(0, 244), (2, 245), (4, 248), (5, 249), (6, 251), (8, 252)]), (47, [(0, 57), (2, 60)]), (52, [(0, 61)]), (54, [(0, 68), (2, 69)]), (57, [(0, 201), (2, 202), (4, 203), (6, 204), (8, 205), (10, 206)]), (60, [(0, 161)]), (61, [(1, 164)]), (63, [(0, 162)]), (67, [(0, 171)]), (71, [(0, 181)]), (74, [(0, 253)]), (78, [(0, 254)]), (81, [(0, 372)]), (84, [(0, 373)]), (86, [(0, 374)]), (92, [(0, 375)]), (96, [(0, 376)]), (98, [(0, 382), (2, 383), (4, 384)]), (99, [(0, 386)]), (100, [(0, 388)]), (101, [(0, 387)]), (102, [(0, 477), (2, 478), (4, 479), (6, 481)]), (103, [(0, 397)]), (104, [(0, 390)]), (105, [(0, 395)]), (106, [(0, 391), (2, 392), (4, 394)]), (109, [(0, 393)]), (110, [(0, 415), (2, 416), (4, 417)]), (111, [(0, 409)]), (114, [(0, 400)]), (115, [(0, 405), (2, 406)]), (116, [(0, 408)]), (117, [(0, 413)]), (118, [(0, 414)]), (119, [(0, 419)]), (121, [(0, 432), (2, 433)]), (124, [(0, 451)]), (127, [(0, 483)]), (129, [(0, 484), (2, 485)]), (135, [(0, 489), (2, 490), (4, 491)]), (137, [(0, 492), (2, 493)]), (138, [(0, 494)])]
 tkL := [(15, [(3, 39)]), (44, [(24, 364), (28, 366), (38, 368)]), (46, [(18, 246), (19, 247), (29, 250)]), (48, [(9, 58), (10, 59)]), (102, [(23, 480)])]
 dkL := [(0, [(5, ([], (.take 0 (.take 2 (.only 1 (.only 3 (.take 4 (.take 5 (.take 6 (.take 7 (.take 8 (.take 9 (.only 10 (.take 11 (.take 12 .done)))))))))))))))]),
 (2, [(9, ([32], (.take 0 (.take 1 (.take 2 (.take 3 (.take 5 (.only 4 (.only 6 (.take 7 (.take 8 (.take 9 (.take 10 (.take 11 (.take 12 (.take 13 (.take 14 (.take 15 (.take 16 (.only 17 (.take 18 (.only 19 (.take 20 (.take 21 (.take 22 .done)))))))))))))))))))))))))]),
 (3, [(3, ([3], (.take 0 (.take 1 (.only 2 .done))))), (6, ([3], (.take 0 (.take 1 (.only 2 .done))))), (8, ([3], (.take 0 (.take 1 (.take 2 (.take 3 (.take 4 (.take 5 (.take 6 (.only 7 .done))))))))))]),
 (13, [(5, ([], (.take 0 (.take 1 (.take 2 (.take 3 (.take 4 (.take 5 (.take 6 (.take 7 (.take 8 (.take 9 (.take 10 (.take 11 (.take 12 (.take 13 (.take 14 (.take 15 (.take 16 (.take 17 (.take 18 (.take 19 (.take 20 (.take 21 .done))))))))))))))))))))))))]),
 (15, [(6, ([6], (.take 0 (.take 1 (.take 2 (.take 3 (.take 4 (.take 5 (.only 6 .done))))))))), (11, ([6], (.take 0 (.take 1 (.take 2 (.take 3 (.take 4 (.take 5 (.take 6 (.take 7 (.only 8 .done)))))))))))]),
 (24, [(5, ([], (.take 0 (.take 1 (.take 2 (.take 3 (.take 4 (.take 5 (.take 6 (.take 7 (.take 8 (.take 9 .done)))))))))))), (8, ([], (.take 0 (.take 1 (.take 2 (.take 3 (.take 4 (.take 5 (.take 6 (.take 7 (.take 8 (.take 9 (.only 10 (.only 11 .done))))))))))))))]),
 (25, [(2, ([0], (.take 0 (.take 1 (.take 2 (.take 3 (.take 4 (.take 6 (.take 7 (.take 8 (.alt 5 (.only 9 (.only 10 (.take 11 (.take 12 (.take 13 (.only 14 .done)))))) (.only 9 (.only 5 (.only 10 (.take 11 (.take 12 (.take 13 (.only 14 .done))))))))))))))))))]),
 (36, [(1, ([], (.take 0 (.take 1 (.take 2 (.take 3 (.take 4 (.take 5 (.take 6 (.take 7 (.take 8 (.take 9 (.take 10 (.take 11 (.take 12 (.take 13 (.take 14 (.take 15 (.take 16 (.take 17 .done)))))))))))))))))))), (3, ([], (.take 0 (.take 1 (.take 2 (.take 3 (.take 4 (.take 5 (.take 6 (.take 7 (.take 8 (.take 9 (.only 10 (.only 11 .done))))))))))))))]),
 (40, [(2, ([], (.take 0 (.take 1 (.take 2 (.take 3 (.take 4 (.take 5 (.take 6 (.take 7 (.take 8 (.take 9 (.take 10 (.take 11 (.take 12 (.take 13 (.take 14 (.take 15 (.take 16 (.take 17 (.take 18 (.take 19 (.take 20 (.take 21 (.take 22 (.take 23 (.take 24 (.take 25 (.take 26 (.take 27 (.take 28 (.take 29 (.take 30 (.take 31 (.take 32 (.take 33 (.take 34 (.take 35 (.only 36 (.take 37 (.take 38 .done))))))))))))))))))))))))))))))))))))))))), (4, ([], (.take 0 (.take 1 (.take 2 (.take 3 (.take 4 (.take 5 (.take 6 (.take 7 (.take 8 (.take 9 (.take 10 (.only 11 (.take 12 .done)))))))))))))))]),
 (43, [(11, ([3], (.take 0 (.take 1 (.take 2 (.take 3 (.take 4 (.take 6 (.take 7 (.take 8 (.take 9 (.take 10 (.take 11 (.alt 5 (.only 12 (.take 13 (.take 14 (.take 15 (.only 16 .done))))) (.only 12 (.take 13 (.only 5 (.take 14 (.take 15 (.only 16 .done))))))))))))))))))))]),
 (44, [(23, ([8, 9], (.take 1 (.take 2 (.take 3 (.take 4 (.take 5 (.take 6 (.take 7 (.alt 0 (.only 8 (.take 9 (.only 10 .done))) (.only 8 (.only 0 (.take 9 (.only 10 .done)))))))))))))), (27, ([9], (.take 1 (.take 3 (.take 6 (.alt 0 (.alt 2 (.take 4 (.alt 5 (.only 7 (.only 8 (.take 9 (.only 10 .done)))) (.only 7 (.only 5 (.only 8 (.take 9 (.only 10 .done))))))) (.only 7 (.only 2 (.take 4 (.only 5 (.only 8 (.take 9 (.only 10 .done)))))))) (.alt 2 (.take 4 (.alt 0 (.alt 5 (.only 7 (.only 8 (.take 9 (.only 10 .done)))) (.only 7 (.only 5 (.only 8 (.take 9 (.only 10 .done)))))) (.alt 5 (.alt 0 (.only 7 (.only 8 (.take 9 (.only 10 .done)))) (.only 7 (.alt 0 (.only 8 (.take 9 (.only 10 .done))) (.only 8 (.only 0 (.take 9 (.only 10 .done))))))) (.only 7 (.alt 0 (.only 5 (.only 8 (.take 9 (.only 10 .done)))) (.only 5 (.alt 0 (.only 8 (.take 9 (.only 10 .done))) (.only 8 (.only 0 (.take 9 (.only 10 .done))))))))))) (.only 7 (.alt 0 (.only 2 (.take 4 (.only 5 (.only 8 (.take 9 (.only 10 .done)))))) (.only 2 (.take 4 (.alt 0 (.only 5 (.only 8 (.take 9 (.only 10 .done)))) (.only 5 (.alt 0 (.only 8 (.take 9 (.only 10 .done))) (.only 8 (.only 0 (.take 9 (.only 10 .done)))))))))))))))))), (37, ([6, 17], (.take 0 (.take 3 (.take 5 (.alt 1 (.alt 2 (.only 4 (.take 6 (.take 7 (.take 8 (.take 9 (.only 10 (.only 11 (.only 12 (.take 13 (.only 14 .done)))))))))) (.only 4 (.take 6 (.take 7 (.take 8 (.take 9 (.only 2 (.only 10 (.only 11 (.only 12 (.take 13 (.only 14 .done)))))))))))) (.alt 2 (.alt 1 (.only 4 (.take 6 (.take 7 (.take 8 (.take 9 (.only 10 (.only 11 (.only 12 (.take 13 (.only 14 .done)))))))))) (.only 4 (.take 6 (.take 7 (.take 8 (.take 9 (.alt 1 (.only 10 (.only 11 (.only 12 (.take 13 (.only 14 .done))))) (.only 10 (.alt 1 (.only 11 (.only 12 (.take 13 (.only 14 .done)))) (.only 11 (.only 1 (.only 12 (.take 13 (.only 14 .done)))))))))))))) (.only 4 (.take 6 (.take 7 (.take 8 (.take 9 (.alt 1 (.only 2 (.only 10 (.only 11 (.only 12 (.take 13 (.only 14 .done)))))) (.only 2 (.alt 1 (.only 10 (.only 11 (.only 12 (.take 13 (.only 14 .done))))) (.only 10 (.alt 1 (.only 11 (.only 12 (.take 13 (.only 14 .done)))) (.only 11 (.only 1 (.only 12 (.take 13 (.only 14 .done)))))))))))))))))))))), (47, ([17, 23], (.take 0 (.take 1 (.take 2 (.take 5 (.take 6 (.alt 3 (.only 4 (.only 7 (.take 8 (.only 9 .done)))) (.only 4 (.alt 3 (.only 7 (.take 8 (.only 9 .done))) (.only 7 (.only 3 (.take 8 (.only 9 .done))))))))))))))]),
 (46, [(7, ([], (.take 0 (.take 1 (.take 2 (.take 3 (.take 4 (.take 5 (.take 6 (.take 7 (.take 8 (.take 9 (.take 10 (.take 11 .done)))))))))))))), (10, ([41], (.take 0 (.take 1 (.take 2 (.take 3 (.take 4 (.take 5 (.take 6 (.only 7 .done)))))))))), (17, ([], (.take 0 (.take 1 (.take 2 (.take 3 (.take 5 (.take 6 (.take 7 (.take 9 (.take 10 (.take 11 (.take 12 (.alt 4 (.alt 8 (.alt 13 (.take 14 (.alt 15 (.only 16 (.only 17 .done)) (.only 16 (.only 15 (.only 17 .done))))) (.only 16 (.only 13 (.take 14 (.only 15 (.only 17 .done)))))) (.alt 13 (.alt 8 (.take 14 (.alt 15 (.only 16 (.only 17 .done)) (.only 16 (.only 15 (.only 17 .done))))) (.only 16 (.only 8 (.take 14 (.only 15 (.only 17 .done)))))) (.only 16 (.alt 8 (.only 13 (.take 14 (.only 15 (.only 17 .done)))) (.only 13 (.only 8 (.take 14 (.only 15 (.only 17 .done))))))))) (.alt 8 (.alt 4 (.alt 13 (.take 14 (.alt 15 (.only 16 (.only 17 .done)) (.only 16 (.only 15 (.only 17 .done))))) (.only 16 (.only 13 (.take 14 (.only 15 (.only 17 .done)))))) (.alt 13 (.alt 4 (.take 14 (.alt 15 (.only 16 (.only 17 .done)) (.only 16 (.only 15 (.only 17 .done))))) (.only 16 (.only 4 (.take 14 (.only 15 (.only 17 .done)))))) (.only 16 (.alt 4 (.only 13 (.take 14 (.only 15 (.only 17 .done)))) (.only 13 (.only 4 (.take 14 (.only 15 (.only 17 .done))))))))) (.alt 13 (.alt 4 (.alt 8 (.take 14 (.alt 15 (.only 16 (.only 17 .done)) (.only 16 (.only 15 (.only 17 .done))))) (.only 16 (.only 8 (.take 14 (.only 15 (.only 17 .done)))))) (.alt 8 (.alt 4 (.take 14 (.alt 15 (.only 16 (.only 17 .done)) (.only 16 (.only 15 (.only 17 .done))))) (.only 16 (.only 4 (.take 14 (.only 15 (.only 17 .done)))))) (.only 16 (.alt 4 (.only 8 (.take 14 (.only 15 (.only 17 .done)))) (.only 8 (.only 4 (.take 14 (.only 15 (.only 17 .done))))))))) (.only 16 (.alt 4 (.alt 8 (.only 13 (.take 14 (.only 15 (.only 17 .done)))) (.only 13 (.only 8 (.take 14 (.only 15 (.only 17 .done)))))) (.alt 8 (.alt 4 (.only 13 (.take 14 (.only 15 (.only 17 .done)))) (.only 13 (.only 4 (.take 14 (.only 15 (.only 17 .done)))))) (.only 13 (.alt 4 (.only 8 (.take 14 (.only 15 (.only 17 .done)))) (.only 8 (.only 4 (.take 14 (.only 15 (.only 17 .done)))))))))))))))))))))))))), (18, ([4], (.take 5 (.alt 0 (.alt 1 (.take 2 (.take 3 (.alt 4 (.only 6 (.only 7 (.take 8 (.take 9 (.only 10 .done))))) (.only 6 (.only 4 (.only 7 (.take 8 (.take 9 (.only 10 .done))))))))) (.only 6 (.only 1 (.take 2 (.take 3 (.only 4 (.only 7 (.take 8 (.take 9 (.only 10 .done)))))))))) (.alt 1 (.take 2 (.take 3 (.alt 0 (.alt 4 (.only 6 (.only 7 (.take 8 (.take 9 (.only 10 .done))))) (.only 6 (.only 4 (.only 7 (.take 8 (.take 9 (.only 10 .done))))))) (.alt 4 (.alt 0 (.only 6 (.only 7 (.take 8 (.take 9 (.only 10 .done))))) (.only 6 (.alt 0 (.only 7 (.take 8 (.take 9 (.only 10 .done)))) (.only 7 (.only 0 (.take 8 (.take 9 (.only 10 .done)))))))) (.only 6 (.alt 0 (.only 4 (.only 7 (.take 8 (.take 9 (.only 10 .done))))) (.only 4 (.alt 0 (.only 7 (.take 8 (.take 9 (.only 10 .done)))) (.only 7 (.only 0 (.take 8 (.take 9 (.only 10 .done))))))))))))) (.only 6 (.alt 0 (.only 1 (.take 2 (.take 3 (.only 4 (.only 7 (.take 8 (.take 9 (.only 10 .done)))))))) (.only 1 (.take 2 (.take 3 (.alt 0 (.only 4 (.only 7 (.take 8 (.take 9 (.only 10 .done))))) (.only 4 (.alt 0 (.only 7 (.take 8 (.take 9 (.only 10 .done)))) (.only 7 (.only 0 (.take 8 (.take 9 (.only 10 .done)))))))))))))))))), (25, ([], (.take 0 (.take 1 (.take 2 (.take 3 (.take 4 (.take 5 (.take 6 (.take 7 (.take 8 (.take 9 (.take 10 (.take 11 .done)))))))))))))), (28, ([13], (.take 4 (.take 5 (.alt 0 (.take 1 (.take 2 (.alt 3 (.only 6 (.take 7 (.only 8 .done))) (.only 6 (.only 3 (.take 7 (.only 8 .done))))))) (.only 6 (.only 0 (.take 1 (.take 2 (.only 3 (.take 7 (.only 8 .done)))))))))))), (32, ([13], (.take 4 (.take 9 (.alt 0 (.take 1 (.take 2 (.alt 3 (.only 5 (.take 6 (.take 7 (.only 8 (.take 10 (.only 11 (.take 12 (.take 13 (.take 14 (.take 15 (.take 16 (.take 17 (.take 18 (.take 19 (.take 20 (.take 21 (.take 22 (.only 23 .done)))))))))))))))))) (.only 5 (.take 6 (.take 7 (.alt 3 (.only 8 (.take 10 (.only 11 (.take 12 (.take 13 (.take 14 (.take 15 (.take 16 (.take 17 (.take 18 (.take 19 (.take 20 (.take 21 (.take 22 (.only 23 .done))))))))))))))) (.only 8 (.take 10 (.alt 3 (.only 11 (.take 12 (.take 13 (.take 14 (.take 15 (.take 16 (.take 17 (.take 18 (.take 19 (.take 20 (.take 21 (.take 22 (.only 23 .done))))))))))))) (.only 11 (.take 12 (.take 13 (.take 14 (.take 15 (.take 16 (.take 17 (.take 18 (.take 19 (.take 20 (.take 21 (.only 3 (.take 22 (.only 23 .done)))))))))))))))))))))))) (.only 5 (.take 6 (.take 7 (.alt 0 (.take 1 (.take 2 (.alt 3 (.only 8 (.take 10 (.only 11 (.take 12 (.take 13 (.take 14 (.take 15 (.take 16 (.take 17 (.take 18 (.take 19 (.take 20 (.take 21 (.take 22 (.only 23 .done))))))))))))))) (.only 8 (.take 10 (.alt 3 (.only 11 (.take 12 (.take 13 (.take 14 (.take 15 (.take 16 (.take 17 (.take 18 (.take 19 (.take 20 (.take 21 (.take 22 (.only 23 .done))))))))))))) (.only 11 (.take 12 (.take 13 (.take 14 (.take 15 (.take 16 (.take 17 (.take 18 (.take 19 (.take 20 (.take 21 (.only 3 (.take 22 (.only 23 .done)))))))))))))))))))) (.only 8 (.take 10 (.alt 0 (.take 1 (.take 2 (.alt 3 (.only 11 (.take 12 (.take 13 (.take 14 (.take 15 (.take 16 (.take 17 (.take 18 (.take 19 (.take 20 (.take 21 (.take 22 (.only 23 .done))))))))))))) (.only 11 (.take 12 (.take 13 (.take 14 (.take 15 (.take 16 (.take 17 (.take 18 (.take 19 (.take 20 (.take 21 (.only 3 (.take 22 (.only 23 .done))))))))))))))))) (.only 11 (.take 12 (.take 13 (.take 14 (.take 15 (.take 16 (.take 17 (.take 18 (.take 19 (.take 20 (.take 21 (.only 0 (.take 1 (.take 2 (.only 3 (.take 22 (.only 23 .done))))))))))))))))))))))))))))), (41, ([4], (.take 5 (.take 6 (.take 7 (.take 8 (.alt 0 (.alt 1 (.take 2 (.take 3 (.alt 4 (.only 9 (.only 10 (.take 11 (.take 12 (.only 13 .done))))) (.only 9 (.only 4 (.only 10 (.take 11 (.take 12 (.only 13 .done))))))))) (.only 9 (.only 1 (.take 2 (.take 3 (.only 4 (.only 10 (.take 11 (.take 12 (.only 13 .done)))))))))) (.alt 1 (.take 2 (.take 3 (.alt 0 (.alt 4 (.only 9 (.only 10 (.take 11 (.take 12 (.only 13 .done))))) (.only 9 (.only 4 (.only 10 (.take 11 (.take 12 (.only 13 .done))))))) (.alt 4 (.alt 0 (.only 9 (.only 10 (.take 11 (.take 12 (.only 13 .done))))) (.only 9 (.alt 0 (.only 10 (.take 11 (.take 12 (.only 13 .done)))) (.only 10 (.only 0 (.take 11 (.take 12 (.only 13 .done)))))))) (.only 9 (.alt 0 (.only 4 (.only 10 (.take 11 (.take 12 (.only 13 .done))))) (.only 4 (.alt 0 (.only 10 (.take 11 (.take 12 (.only 13 .done)))) (.only 10 (.only 0 (.take 11 (.take 12 (.only 13 .done))))))))))))) (.only 9 (.alt 0 (.only 1 (.take 2 (.take 3 (.only 4 (.only 10 (.take 11 (.take 12 (.only 13 .done)))))))) (.only 1 (.take 2 (.take 3 (.alt 0 (.only 4 (.only 10 (.take 11 (.take 12 (.only 13 .done))))) (.only 4 (.alt 0 (.only 10 (.take 11 (.take 12 (.only 13 .done)))) (.only 10 (.only 0 (.take 11 (.take 12 (.only 13 .done)))))))))))))))))))))]),
 (48, [(9, ([], (.take 0 (.take 1 (.take 2 (.take 3 (.take 4 (.take 5 (.take 6 (.take 7 (.alt 8 (.alt 9 (.only 10 (.only 11 .done)) (.only 10 (.only 9 (.only 11 .done)))) (.only 10 (.only 8 (.only 9 (.only 11 .done)))))))))))))))]),
 (50, [(2, ([2], (.take 0 (.take 1 (.take 2 (.take 3 (.take 4 (.take 5 (.take 6 (.only 7 (.take 8 (.only 9 .done))))))))))))]),
 (54, [(9, ([3], (.take 0 (.take 1 (.take 2 (.take 3 (.take 4 (.take 6 (.take 7 (.take 8 (.alt 5 (.only 9 (.take 10 (.take 11 (.only 12 .done)))) (.only 9 (.only 5 (.take 10 (.take 11 (.only 12 .done))))))))))))))))]),
 (57, [(7, ([4], (.take 0 (.take 1 (.take 2 (.take 3 (.take 4 (.take 5 (.take 7 (.alt 6 (.only 8 (.only 9 (.only 10 .done))) (.only 8 (.only 6 (.only 9 (.only 10 .done))))))))))))))]),
 (65, [(0, ([0], (.take 0 (.take 1 (.take 2 (.take 3 (.take 5 (.alt 4 (.only 6 (.only 7 (.only 8 (.take 9 (.take 10 (.only 11 .done)))))) (.only 6 (.alt 4 (.only 7 (.only 8 (.take 9 (.take 10 (.only 11 .done))))) (.only 7 (.only 4 (.only 8 (.take 9 (.take 10 (.only 11 .done))))))))))))))))]),
 (68, [(1, ([], (.take 0 (.take 1 (.take 2 (.take 3 (.take 4 (.take 5 (.take 6 (.take 7 (.take 8 (.take 9 .done))))))))))))]),
 (69, [(0, ([0], (.take 0 (.take 1 (.take 2 (.take 3 (.take 4 (.take 5 (.take 6 (.take 8 (.take 9 (.take 10 (.alt 7 (.only 11 (.take 12 (.only 13 (.take 14 (.only 15 .done))))) (.only 11 (.only 7 (.take 12 (.only 13 (.take 14 (.only 15 .done)))))))))))))))))))]),
 (80, [(3, ([], (.take 0 (.take 1 (.take 2 (.take 3 (.take 4 (.take 5 (.take 6 (.take 7 .done)))))))))), (4, ([2, 3, 4], (.take 1 (.take 3 (.alt 0 (.only 2 (.take 4 (.take 5 (.take 6 (.take 7 (.only 8 (.take 9 .done))))))) (.only 2 (.take 4 (.take 5 (.take 6 (.take 7 (.only 0 (.only 8 (.take 9 .done)))))))))))))]),
 (87, [(3, ([], (.take 0 (.take 1 (.take 2 (.take 3 (.take 4 (.take 5 (.take 6 (.take 7 .done))))))))))]),
 (100, [(6, ([], (.take 0 (.take 1 (.take 2 (.take 3 (.take 4 (.take 5 (.take 6 (.take 7 (.take 8 (.take 9 (.take 10 .done)))))))))))))]),
 (101, [(6, ([], (.take 0 (.take 1 (.take 2 (.take 3 (.take 4 (.take 5 (.take 6 (.take 7 (.take 8 .done)))))))))))]),
 (102, [(17, ([6, 52], (.take 0 (.take 2 (.take 3 (.take 4 (.take 5 (.take 6 (.alt 1 (.only 7 (.only 8 (.take 9 (.only 10 .done)))) (.only 7 (.only 1 (.only 8 (.take 9 (.only 10 .done)))))))))))))), (22, ([6, 8], (.take 0 (.take 2 (.take 3 (.take 4 (.alt 1 (.only 5 (.only 6 (.only 7 (.take 8 (.only 9 .done))))) (.only 5 (.alt 1 (.only 6 (.only 7 (.take 8 (.only 9 .done)))) (.only 6 (.only 1 (.only 7 (.take 8 (.only 9 .done)))))))))))))), (28, ([6, 10], (.take 0 (.take 2 (.take 3 (.take 4 (.take 5 (.take 6 (.alt 1 (.only 7 (.only 8 (.only 9 (.take 10 (.only 11 .done))))) (.only 7 (.alt 1 (.only 8 (.only 9 (.take 10 (.only 11 .done)))) (.only 8 (.only 1 (.only 9 (.take 10 (.only 11 .done))))))))))))))))]),
 (103, [(10, ([3], (.take 0 (.take 1 (.take 2 (.take 3 (.take 4 (.take 5 (.take 6 (.take 7 (.take 8 (.take 9 (.take 10 (.take 11 (.only 12 (.only 13 (.take 14 .done)))))))))))))))))]),
 (115, [(9, ([3], (.take 0 (.take 1 (.take 2 (.take 3 (.take 4 (.take 5 (.take 6 (.take 7 (.only 8 (.take 9 (.take 10 (.take 11 (.take 12 (.take 13 (.take 14 (.take 15 (.take 16 (.take 17 (.take 18 (.take 19 (.take 20 (.take 21 (.take 22 (.take 23 (.take 24 (.take 25 (.only 26 .done)))))))))))))))))))))))))))))]),
 (124, [(1, ([], (.take 0 (.take 1 (.take 2 (.take 3 (.take 4 (.take 5 (.take 6 (.take 7 (.take 8 (.take 9 (.take 10 (.only 11 (.only 12 .done)))))))))))))))]),
 (125, [(3, ([], (.take 0 (.take 3 (.only 1 (.only 2 (.only 4 (.take 5 (.take 6 (.only 7 (.take 8 (.take 9 .done))))))))))))]),
 (128, [(3, ([], (.take 0 (.take 3 (.take 4 (.take 5 (.only 1 (.take 2 (.take 6 .done)))))))))]),
 (129, [(13, ([], (.take 0 (.take 1 (.take 2 (.take 3 (.take 4 (.take 5 (.take 6 (.take 7 (.take 8 (.take 9 (.take 10 (.take 11 (.take 12 (.take 13 (.take 14 (.take 15 (.take 16 .done)))))))))))))))))))])]
 fnumL := [3, 8, 9, 19, 43, 69, 90, 91, 92, 93, 112, 125, 113, 94, 114, 44, 70, 95, 115, 126, 132, 134, 135, 136, 137, 138, 71, 139, 117, 127, 58, 128, 133, 111, 140, 96, 116, 145, 143, 141, 142, 144, 97, 72, 10, 20, 45, 50, 80, 26, 83, 81, 104, 82, 105, 73, 74, 75, 99, 24, 51, 118, 119, 129, 100, 168, 101, 120, 166, 170, 102, 121, 167, 21, 47, 22, 23, 48, 79, 49, 25, 16, 15, 37, 64, 34, 35, 60, 61, 88, 59, 38, 65, 62, 63, 38, 65, 36, 39, 13, 12, 33, 11, 27, 52, 53, 84, 106, 107, 108, 54, 85, 31, 57, 87, 109, 110, 86, 110, 28, 55, 29, 30, 56, 32, 4, 14, 16, 17, 40, 18, 42, 66, 89, 67, 41, 68, 5, 6, 7]
 fnL := [Tryz.f3, Tryz.f8, Tryz.f9, Tryz.f19, Tryz.f43, Tryz.f69, Tryz.f90, Tryz.f91, Tryz.f92, Tryz.f93, Tryz.f112, Tryz.f125, Tryz.f113, Tryz.f94, Tryz.f114, Tryz.f44, Tryz.f70, Tryz.f95, Tryz.f115, Tryz.f126, Tryz.f132, Tryz.f134, Tryz.f135, Tryz.f136, Tryz.f137, Tryz.f138, Tryz.f71, Tryz.f139, Tryz.f117, Tryz.f127, Tryz.f58, Tryz.f128, Tryz.f133, Tryz.f111, Tryz.f140, Tryz.f96, Tryz.f116, Tryz.f145, Tryz.f143, Tryz.f141, Tryz.f142, Tryz.f144, Tryz.f97, Tryz.f72, Tryz.f10, Tryz.f20, Tryz.f45, Tryz.f50, Tryz.f80, Tryz.f26, Tryz.f83, Tryz.f81, Tryz.f104, Tryz.f82, Tryz.f105, Tryz.f73, Tryz.f74, Tryz.f75, Tryz.f99, Tryz.f24, Tryz.f51, Tryz.f118, Tryz.f119, Tryz.f129, Tryz.f100, Tryz.f168, Tryz.f101, Tryz.f120, Tryz.f166, Tryz.f170, Tryz.f102, Tryz.f121, Tryz.f167, Tryz.f21, Tryz.f47, Tryz.f22, Tryz.f23, Tryz.f48, Tryz.f79, Tryz.f49, Tryz.f25, Tryz.f16, Tryz.f15, Tryz.f37, Tryz.f64, Tryz.f34, Tryz.f35, Tryz.f60, Tryz.f61, Tryz.f88, Tryz.f59, Tryz.f38, Tryz.f65, Tryz.f62, Tryz.f63, Tryz.f38, Tryz.f65, Tryz.f36, Tryz.f39, Tryz.f13, Tryz.f12, Tryz.f33, Tryz.f11, Tryz.f27, Tryz.f52, Tryz.f53, Tryz.f84, Tryz.f106, Tryz.f107, Tryz.f108, Tryz.f54, Tryz.f85, Tryz.f31, Tryz.f57, Tryz.f87, Tryz.f109, Tryz.f110, Tryz.f86, Tryz.f110, Tryz.f28, Tryz.f55, Tryz.f29, Tryz.f30, Tryz.f56, Tryz.f32, Tryz.f4, Tryz.f14, Tryz.f16, Tryz.f17, Tryz.f40, Tryz.f18, Tryz.f42, Tryz.f66, Tryz.f89, Tryz.f67, Tryz.f41, Tryz.f68, Tryz.f5, Tryz.f6, Tryz.f7]
 placeL := [(1, [true, true, false, true]), (1, [true, true, true, false, true]), (0, []), (0, []), (5, [true, true, false, true, false, false]), (7, [true, true, false, true]), (5, [true, true, true, false, true, false, false]), (10, [true, true, false, true]), (12, [true, true, false, true]), (13, [true, true, false, true]), (4, [true, true, true, true, false]), (4, [true, true, true, true, false, false, false, true, false, true, false, true, false, false]), (0, []), (0, []), (0, []), (31, [true, true, false, true]), (28, [true, true, true, true, true, true, true, false, true]), (0, []), (37, [true, true, true, false]), (0, []), (23, [true, true, false]), (0, []), (22, [true, true, false]), (0, []), (20, [true, true, false]), (0, []), (19, [true, true, false]), (0, []), (18, [true, true, false]), (0, []), (0, []), (0, []), (0, []), (0, []), (0, []), (0, []), (43, [true, true, false, true]), (43, [true, true, false, true, false, false, true, false, false, true, true, true]), (0, []), (15, [true, true]), (0, []), (0, []), (0, []), (0, []), (0, []), (0, []), (0, []), (0, []), (0, []), (0, []), (0, []), (0, []), (0, []), (0, []), (0, []), (0, []), (0, []), (47, [true, true, true, false, true]), (48, [true, true, true]), (48, [true, true, true, true]), (47, [true, true, true, false, true, false, false, true, true, false, false, true, true, true]), (52, [true, false, true]), (0, []), (0, []), (0, []), (0, []), (0, []), (0, []), (54, [true, true, false, true]), (54, [true, true, false, true, false, false, true, true, false, false, true, false, true]), (0, []), (0, []), (0, []), (0, []), (0, []), (0, []), (0, []), (0, []), (0, []), (0, []), (0, []), (0, []), (0, []), (0, []), (0, []), (0, []), (0, []), (0, []), (0, []), (0, []), (0, []), (0, []), (0, []), (0, []), (0, []), (0, []), (0, []), (0, []), (0, []), (0, []), (0, []), (0, []), (0, []), (0, []), (0, []), (0, []), (0, []), (0, []), (0, []), (0, []), (0, []), (0, []), (0, []), (0, []), (0, []), (0, []), (0, []), (0, []), (0, []), (0, []), (0, []), (0, []), (0, []), (0, []), (0, []), (0, []), (0, []), (0, []), (0, []), (0, []), (0, []), (0, []), (0, []), (0, []), (0, []), (0, []), (0, []), (0, []), (0, []), (0, []), (0, []), (0, []), (0, []), (0, []), (0, []), (0, []), (0, []), (0, []), (0, []), (0, []), (0, []), (0, []), (0, []), (0, []), (0, []), (0, []), (0, []), (0, []), (0, []), (0, []), (0, []), (60, [true, true, false, true]), (63, [true, false, true]), (0, []), (61, [true, true, false, true, true, true, true, true]), (0, []), (0, []), (0, []), (0, []), (0, []), (0, []), (67, []), (0, []), (0, []), (0, []), (0, []), (0, []), (0, []), (0, []), (0, []), (0, []), (71, [true, true, false]), (0, []), (0, []), (0, []), (0, []), (0, []), (0, []), (0, []), (0, []), (0, []), (0, []), (0, []), (0, []), (0, []), (0, []), (0, []), (0, []), (0, []), (0, []), (0, []), (57, [true, true, true, false, true]), (57, [true, true, true, true, true, true, true, false, true]), (57, [true, true, true, true, true, true, true, false, true, false, false, true, true, false, false, true, false, true]), (57, [true, true, true, true, true, true, true, false, true, false, false, true, true, false, false, true, false, true, false, false, true, true, false, false, true, true]), (57, [true, true, true, true, true, true, true, true, true, false]), (57, [true, true, true, true, true, true, true, true, true, false, false, false, true, false, true, true, true]), (0, []), (0, []), (0, []), (0, []), (0, []), (0, []), (0, []), (0, []), (0, []), (0, []), (0, []), (0, []), (0, []), (0, []), (0, []), (0, []), (0, []), (0, []), (0, []), (0, []), (0, []), (0, []), (0, []), (0, []), (0, []), (0, []), (0, []), (0, []), (0, []), (0, []), (0, []), (0, []), (0, []), (0, []), (0, []), (0, []), (0, []), (46, [true, true, true, false, true]), (46, [true, true, true, true, true, true, false, true]), (46, [true, true, true, true, true, true, false, true, false, false, true, true, false, false, true, true]), (46, [true, true, true, true, true, true, false, true, false, false, true, true, false, false, true, true, true]), (46, [true, true, true, true, true, true, false, true, false, false, true, true, false, false, true, true, true, true, true, false, true]), (46, [true, true, true, true, true, true, false, true, false, false, true, true, false, false, true, true, true, true, true, false, true, false, true, false]), (46, [true, true, true, true, true, true, false, true, false, false, true, true, false, false, true, true, true, true, true, false, true, false, true, false, true, true]), (46, [true, true, true, true, true, true, false, true, false, false, true, true, false, false, true, true, true, true, true, false, true, false, true, false, true, true, true]), (46, [true, true, true, true, true, true, true, true, false, true]), (74, [true, false, true]), (78, [true, false, true]), (0, []), (0, []), (0, []), (0, []), (0, []), (0, []), (0, []), (0, []), (0, []), (0, []), (0, []), (0, []), (0, []), (0, []), (0, []), (0, []), (0, []), (0, []), (0, []), (0, []), (0, []), (0, []), (0, []), (0, []), (0, []), (0, []), (0, []), (0, []), (0, []), (0, []), (0, []), (0, []), (0, []), (0, []), (0, []), (0, []), (0, []), (0, []), (0, []), (0, []), (0, []), (0, []), (0, []), (0, []), (0, []), (0, []), (0, []), (0, []), (0, []), (0, []), (0, []), (0, []), (0, []), (0, []), (0, []), (0, []), (0, []), (0, []), (0, []), (0, []), (0, []), (0, []), (0, []), (0, []), (0, []), (0, []), (0, []), (0, []), (0, []), (0, []), (0, []), (0, []), (0, []), (0, []), (0, []), (0, []), (0, []), (0, []), (0, []), (0, []), (0, []), (0, []), (0, []), (0, []), (0, []), (0, []), (0, []), (0, []), (0, []), (0, []), (0, []), (0, []), (0, []), (0, []), (0, []), (0, []), (0, []), (0, []), (0, []), (0, []), (0, []), (0, []), (0, []), (0, []), (0, []), (0, []), (0, []), (44, [true, true, true, true, true, true, true, true, false, true]), (44, [true, true, true, true, true, true, true, true, true, true, false, true]), (44, [true, true, true, true, true, true, true, true, true, true, false, true, false, false, true, true, false, false, true, true]), (44, [true, true, true, true, true, true, true, true, true, true, false, true, false, false, true, true, false, false, true, true, true]), (44, [true, true, true, true, true, true, true, true, true, true, false, true, false, false, true, true, false, false, true, true, true, false, false, true, true, false, false, true, true]), (44, [true, true, true, true, true, true, true, true, true, true, true, true, true, false, true]), (44, [true, true, true, true, true, true, true, true, true, true, true, true, true, false, true, false, false, true, true, false, false, true, true]), (44, [true, true, true, true, true, true, true, true, true, true, true, true, true, false, true, false, false, true, true, false, false, true, true, true]), (44, [true, true, true, true, true, true, true, true, true, true, true, true, true, false, true, false, false, true, true, false, false, true, true, true, false, false, true, true, false, false, true, true, true, true, false, true]), (0, []), (81, [true, true, false, true]), (84, [true, false, true]), (86, [true, true, true, false, true]), (92, [true, false, true]), (96, [true, false, true]), (0, []), (0, []), (0, []), (0, []), (0, []), (98, [true, true, false, true]), (98, [true, true, false, true, false, false, true, true, false, false, true, true]), (98, [true, true, false, true, false, false, true, true, false, false, true, true, false, false, true, false, true, true, true, true, true, true]), (0, []), (99, [true, true, false, true]), (101, [true, true, false, true]), (100, [true, true, false, true]), (0, []), (104, [true, false, true]), (106, [true, true, true, false, true]), (106, [true, true, true, false, true, false, false, true, false, false, true, true, false, true]), (109, [true, true, true, false, true]), (106, [true, true, true, true, false, true]), (105, [true, true, false, true]), (0, []), (103, [true, true, true, false, true]), (0, []), (0, []), (114, [true, true, true, false, true]), (0, []), (0, []), (0, []), (0, []), (115, [true, true, false, true]), (115, [true, true, false, true, false, false, true, false, false, true, true]), (0, []), (116, [true, false, true]), (111, [true, true, true, true, false, true]), (0, []), (0, []), (0, []), (117, [true, false, true]), (118, [true, false, true]), (110, [true, true, true, false, true]), (110, [true, true, true, true, true, true, false]), (110, [true, true, true, true, true, true, false, false, false, true, false, true, false, true]), (0, []), (119, [true, false, true]), (0, []), (0, []), (0, []), (0, []), (0, []), (0, []), (0, []), (0, []), (0, []), (0, []), (0, []), (0, []), (121, [true, true, true, false, true]), (121, [true, true, true, false, true, false, false, true, false, false, true, true, true, false, true]), (0, []), (0, []), (0, []), (0, []), (0, []), (0, []), (0, []), (0, []), (0, []), (0, []), (0, []), (0, []), (0, []), (0, []), (0, []), (0, []), (0, []), (124, [true, true, true, false, true]), (0, []), (0, []), (0, []), (0, []), (0, []), (0, []), (0, []), (0, []), (0, []), (0, []), (0, []), (0, []), (0, []), (0, []), (0, []), (0, []), (0, []), (0, []), (0, []), (0, []), (0, []), (0, []), (0, []), (0, []), (0, []), (102, [true, true, true, false, true]), (102, [true, true, true, true, true, true, false, true]), (102, [true, true, true, true, true, true, true, true, false, true]), (102, [true, true, true, true, true, true, true, true, false, true, false, false, true, false, false, true]), (102, [true, true, true, true, true, true, true, true, false, true, false, false, true, false, false, true, true, true]), (0, []), (127, [true, true, false, true]), (129, [true, true, false, true]), (129, [true, true, true, false, true]), (0, []), (0, []), (0, []), (135, [true, true, true]), (135, [true, true, true, false, false, false, true, false, true]), (135, [true, true, true, false, false, false, true, false, true, false, false, true, false, false, true, true, false, true]), (137, [true, true, true, true, true, false, true]), (137, [true, true, true, true, true, false, true, false, false, true, false, false, true, true]), (138, [true, true, true, true, true, false, true])] }
noncomputable def xf : tabs.tb.RF := fun φ => match φ with
 | _ => fun _ => none
noncomputable def T : Tbl := tabs.tbl xf
noncomputable def c0 (rf : T.RF) (d1 : List XS) : Option Bool := rf 0 d1
noncomputable def c1 (rf : T.RF) (d1 : List XS) (d2 : List (List Int)) : Option Bool := rf 1 (d1, d2)
noncomputable def c2 (rf : T.RF) : Option Bool := rf 2 ()
noncomputable def c3 (rf : T.RF) (d1 : List UInt8) : Option (XL × Int × Int) := rf 3 d1
noncomputable def c4 (rf : T.RF) (d1 : List UInt8) : Option (List (Int × List UInt8 × Int) × Int × Int) := rf 4 d1
noncomputable def c5 (rf : T.RF) (d1 : List UInt8) (d2 : Int) : Option ((Int × List UInt8 × Int) × Int) := rf 5 (d1, d2)
noncomputable def c6 (rf : T.RF) (d1 : Int) : Option Bool := rf 6 d1
noncomputable def c7 (rf : T.RF) (d1 : List UInt8) : Option Int := rf 7 d1
noncomputable def c8 (rf : T.RF) (d1 : Int) : Option Bool := rf 8 d1
noncomputable def c9 (rf : T.RF) (d1 : List UInt8) (d2 : Int) : Option ((Int × List UInt8 × Int) × Int) := rf 9 (d1, d2)
noncomputable def c10 (rf : T.RF) (d1 : List UInt8) : Option Bool := rf 10 d1
noncomputable def c11 (rf : T.RF) : Option (List (List UInt8)) := rf 11 ()
noncomputable def c12 (rf : T.RF) (d1 : List UInt8) : Option Bool := rf 12 d1
noncomputable def c13 (rf : T.RF) (d1 : List UInt8) : Option (List UInt8) := rf 13 d1
noncomputable def c14 (rf : T.RF) : Option (List (List UInt8)) := rf 14 ()
noncomputable def c15 (rf : T.RF) (d1 : List (Int × List UInt8 × Int)) (d2 : Int) : Option (XL × Int × Int × Int) := rf 15 (d1, d2)
noncomputable def c16 (rf : T.RF) (d1 : List (Int × List UInt8 × Int) × Int × Int × Int × Int) : Option ((List (Int × List UInt8 × Int) × Int × Int × Int × Int) × XL) := rf 16 d1
noncomputable def c17 (rf : T.RF) (d1 : List (Int × List UInt8 × Int) × Int × Int × Int × Int) : Option ((List (Int × List UInt8 × Int) × Int × Int × Int × Int) × XL) := rf 17 d1
noncomputable def c18 (rf : T.RF) (d1 : List (Int × List UInt8 × Int) × Int × Int × Int × Int) : Option ((List (Int × List UInt8 × Int) × Int × Int × Int × Int) × XL) := rf 18 d1
noncomputable def c19 (rf : T.RF) (d1 : List (Int × List UInt8 × Int) × Int × Int × Int × Int) : Option ((List (Int × List UInt8 × Int) × Int × Int × Int × Int) × XL) := rf 19 d1
noncomputable def c20 (rf : T.RF) (d1 : List (Int × List UInt8 × Int) × Int × Int × Int × Int) : Option ((List (Int × List UInt8 × Int) × Int × Int × Int × Int) × XL) := rf 20 d1
noncomputable def c21 (rf : T.RF) (d1 : List (Int × List UInt8 × Int) × Int × Int × Int × Int) : Option ((List (Int × List UInt8 × Int) × Int × Int × Int × Int) × XL) := rf 21 d1
noncomputable def c22 (rf : T.RF) (d1 : List (Int × List UInt8 × Int) × Int × Int × Int × Int) : Option ((List (Int × List UInt8 × Int) × Int × Int × Int × Int) × XL) := rf 22 d1
noncomputable def c23 (rf : T.RF) (d1 : List (Int × List UInt8 × Int) × Int × Int × Int × Int) : Option ((List (Int × List UInt8 × Int) × Int × Int × Int × Int) × XL) := rf 23 d1
noncomputable def c24 (rf : T.RF) (d1 : List (Int × List UInt8 × Int) × Int × Int × Int × Int) : Option ((List (Int × List UInt8 × Int) × Int × Int × Int × Int) × XL) := rf 24 d1
noncomputable def c25 (rf : T.RF) (d1 : List (Int × List UInt8 × Int) × Int × Int × Int × Int) (d2 : Int) : Option ((List (Int × List UInt8 × Int) × Int × Int × Int × Int) × XL) := rf 25 (d1, d2)
noncomputable def c26 (rf : T.RF) (d1 : List (Int × List UInt8 × Int)) (d2 : Int) : Option Int := rf 26 (d1, d2)
noncomputable def c27 (rf : T.RF) (d1 : List (Int × List UInt8 × Int) × Int × Int × Int × Int) (d2 : Int × List UInt8 × Int) : Option ((List (Int × List UInt8 × Int) × Int × Int × Int × Int) × XL) := rf 27 (d1, d2)
noncomputable def c28 (rf : T.RF) (d1 : Int) (d2 : Int) (d3 : List UInt8) (d4 : List XL) : Option XL := rf 28 (d1, d2, d3, d4)
noncomputable def c29 (rf : T.RF) (d1 : Int) (d2 : Int) (d3 : List UInt8) : Option XN := rf 29 (d1, d2, d3)
noncomputable def c30 (rf : T.RF) (d1 : XN) : Option (List Int) := rf 30 d1
noncomputable def c31 (rf : T.RF) (d1 : XL) (d2 : XL) : Option XL := rf 31 (d1, d2)
noncomputable def c32 (rf : T.RF) (d1 : XN) (d2 : Int) : Option XN := rf 32 (d1, d2)
noncomputable def c33 (rf : T.RF) (d1 : XN) (d2 : List Int) : Option XN := rf 33 (d1, d2)
noncomputable def c34 (rf : T.RF) (d1 : List (Int × List UInt8 × Int) × Int × Int × Int × Int) (d2 : List UInt8) : Option ((List (Int × List UInt8 × Int) × Int × Int × Int × Int) × XL) := rf 34 (d1, d2)
noncomputable def c35 (rf : T.RF) (d1 : List (Int × List UInt8 × Int) × Int × Int × Int × Int) (d2 : List UInt8) : Option ((List (Int × List UInt8 × Int) × Int × Int × Int × Int) × Bool) := rf 35 (d1, d2)
noncomputable def c36 (rf : T.RF) (d1 : List (Int × List UInt8 × Int) × Int × Int × Int × Int) (d2 : List UInt8) : Option ((List (Int × List UInt8 × Int) × Int × Int × Int × Int) × Bool) := rf 36 (d1, d2)
noncomputable def c37 (rf : T.RF) (d1 : List (Int × List UInt8 × Int) × Int × Int × Int × Int) : Option ((List (Int × List UInt8 × Int) × Int × Int × Int × Int) × List XL) := rf 37 d1
noncomputable def c38 (rf : T.RF) (d1 : List (Int × List UInt8 × Int) × Int × Int × Int × Int) (d2 : List UInt8) : Option (List (Int × List UInt8 × Int) × Int × Int × Int × Int) := rf 38 (d1, d2)
noncomputable def c39 (rf : T.RF) (d1 : List UInt8) : Option Int := rf 39 d1
noncomputable def c40 (rf : T.RF) (d1 : List (Int × List UInt8 × Int) × Int × Int × Int × Int) : Option ((List (Int × List UInt8 × Int) × Int × Int × Int × Int) × XL) := rf 40 d1
noncomputable def c41 (rf : T.RF) (d1 : List (Int × List UInt8 × Int) × Int × Int × Int × Int) : Option ((List (Int × List UInt8 × Int) × Int × Int × Int × Int) × XL) := rf 41 d1
noncomputable def c42 (rf : T.RF) (d1 : List (Int × List UInt8 × Int) × Int × Int × Int × Int) (d2 : Int) (d3 : XL) (d4 : XL) : Option ((List (Int × List UInt8 × Int) × Int × Int × Int × Int) × XL) := rf 42 (d1, d2, d3, d4)
noncomputable def c43 (rf : T.RF) (d1 : XL) : Option Int := rf 43 d1
noncomputable def c44 (rf : T.RF) (d1 : List XS) : Option (XT × Int) := rf 44 d1
noncomputable def c45 (rf : T.RF) (d1 : List XS) : Option (List (List Int) × Int) := rf 45 d1
noncomputable def c46 (rf : T.RF) (d1 : List XS) : Option (Int ⊕ (Bool × Int × List Unit × List (List UInt8 × Int) × List Int × Int)) := rf 46 d1
noncomputable def c47 (rf : T.RF) (d1 : XL) : Option Bool := rf 47 d1
noncomputable def c48 (rf : T.RF) (d1 : XN) : Option Bool := rf 48 d1
noncomputable def c49 (rf : T.RF) (d1 : XN) : Option (List Int) := rf 49 d1
noncomputable def c50 (rf : T.RF) (d1 : XN) (d2 : List Int) : Option XN := rf 50 (d1, d2)
noncomputable def c51 (rf : T.RF) (d1 : List Bool) (d2 : Bool) : Option Bool := rf 51 (d1, d2)
noncomputable def c52 (rf : T.RF) (d1 : List Bool) (d2 : Bool) : Option Int := rf 52 (d1, d2)
noncomputable def c53 (rf : T.RF) (d1 : XL) : Option Int := rf 53 d1
noncomputable def c54 (rf : T.RF) (d1 : XL) : Option (List Int) := rf 54 d1
noncomputable def c55 (rf : T.RF) (d1 : XL) : Option XL := rf 55 d1
noncomputable def c56 (rf : T.RF) (d1 : XN) : Option (Int ⊕ Int ⊕ (Int × Int) ⊕ Int ⊕ Unit) := rf 56 d1
noncomputable def c57 (rf : T.RF) (d1 : List (List UInt8 × XL)) : Option (List Int × Int) := rf 57 d1
noncomputable def c58 (rf : T.RF) (d1 : XL) : Option (List (List UInt8)) := rf 58 d1
noncomputable def c59 (rf : T.RF) (d1 : XL) (d2 : Int) : Option XL := rf 59 (d1, d2)
noncomputable def c60 (rf : T.RF) (d1 : XL) (d2 : XL) (d3 : Int) : Option XL := rf 60 (d1, d2, d3)
noncomputable def c61 (rf : T.RF) (d1 : XL) (d2 : List (List UInt8)) (d3 : Int) : Option ((XL × List (List UInt8)) ⊕ (XL × List (List UInt8))) := rf 61 (d1, d2, d3)
noncomputable def c62 (rf : T.RF) (d1 : List (List UInt8)) (d2 : List UInt8) : Option (List (List UInt8) × Bool) := rf 62 (d1, d2)
noncomputable def c63 (rf : T.RF) (d1 : List (List UInt8)) (d2 : List UInt8) : Option (List (List UInt8) × Int) := rf 63 (d1, d2)
noncomputable def c64 (rf : T.RF) (d1 : List Int) (d2 : Int) : Option (List Int) := rf 64 (d1, d2)
noncomputable def c65 (rf : T.RF) (d1 : List Int) (d2 : Int) : Option (List Int) := rf 65 (d1, d2)
noncomputable def c66 (rf : T.RF) (d1 : List Int) : Option (List Int × Int) := rf 66 d1
noncomputable def c67 (rf : T.RF) (d1 : List Int) (d2 : Int) : Option (List Int) := rf 67 (d1, d2)
noncomputable def c68 (rf : T.RF) (d1 : List Int) (d2 : Int) (d3 : Int) : Option (List Int × Bool) := rf 68 (d1, d2, d3)
noncomputable def c69 (rf : T.RF) (d1 : List Int) (d2 : Int) (d3 : Int) : Option (List Int) := rf 69 (d1, d2, d3)
noncomputable def c70 (rf : T.RF) (d1 : List Int) : Option (List Int × Int) := rf 70 d1
noncomputable def c71 (rf : T.RF) (d1 : List Int) (d2 : Int) (d3 : Int) : Option (List Int × Bool) := rf 71 (d1, d2, d3)
noncomputable def c72 (rf : T.RF) (d1 : List Int) : Option (List Int × Int) := rf 72 d1
noncomputable def c73 (rf : T.RF) (d1 : List XS) : Option Bool := rf 73 d1
noncomputable def c74 (rf : T.RF) (d1 : List XS) : Option Int := rf 74 d1
noncomputable def c75 (rf : T.RF) (d1 : XS) : Option Bool := rf 75 d1
noncomputable def c76 (rf : T.RF) (d1 : XL) : Option Bool := rf 76 d1
noncomputable def c77 (rf : T.RF) (d1 : XL) : Option Bool := rf 77 d1
noncomputable def c78 (rf : T.RF) (d1 : XL) : Option Int := rf 78 d1
noncomputable def c79 (rf : T.RF) (d1 : XN) : Option Bool := rf 79 d1
noncomputable def c80 (rf : T.RF) (d1 : List (List Int)) (d2 : List XL) (d3 : List (List UInt8 × Int)) (d4 : Int) (d5 : Int) : Option (List (List Int) × List XL × List (List UInt8 × Int) × Int) := rf 80 (d1, d2, d3, d4, d5)
noncomputable def c81 (rf : T.RF) (d1 : List XO) (d2 : List Int) (d3 : List Int) : Option (List XO × XT) := rf 81 (d1, d2, d3)
noncomputable def c82 (rf : T.RF) (d1 : XT) : Option Int := rf 82 d1
noncomputable def c83 (rf : T.RF) (d1 : XT) (d2 : List XO) : Option (XT × Bool) := rf 83 (d1, d2)
noncomputable def c84 (rf : T.RF) (d1 : XT) (d2 : List XO) : Option (XT × Int) := rf 84 (d1, d2)
noncomputable def c85 (rf : T.RF) (d1 : XT) (d2 : XO) : Option (XT × Bool) := rf 85 (d1, d2)
noncomputable def c86 (rf : T.RF) (d1 : XT) (d2 : XO) : Option Bool := rf 86 (d1, d2)
noncomputable def c87 (rf : T.RF) (d1 : XO) : Option (List Int × List Int) := rf 87 d1
noncomputable def c88 (rf : T.RF) (d1 : Int) : Option Int := rf 88 d1
noncomputable def c89 (rf : T.RF) (d1 : Int) : Option Int := rf 89 d1
noncomputable def c90 (rf : T.RF) (d1 : XT) (d2 : Int) : Option (XT × Bool) := rf 90 (d1, d2)
noncomputable def c91 (rf : T.RF) (d1 : List Int) : Option Bool := rf 91 d1
noncomputable def c92 (rf : T.RF) (d1 : List Int) : Option Int := rf 92 d1
noncomputable def c93 (rf : T.RF) (d1 : Int) : Option Bool := rf 93 d1
noncomputable def c94 (rf : T.RF) (d1 : Int) : Option Bool := rf 94 d1
noncomputable def c95 (rf : T.RF) (d1 : XT) (d2 : List Int) : Option (XT × Bool) := rf 95 (d1, d2)
noncomputable def c96 (rf : T.RF) (d1 : XT) (d2 : List Int) : Option (XT × Int) := rf 96 (d1, d2)
noncomputable def c97 (rf : T.RF) (d1 : XT) (d2 : Int) : Option (XT × Bool) := rf 97 (d1, d2)
noncomputable def c98 (rf : T.RF) (d1 : XT) : Option Bool := rf 98 d1
noncomputable def c99 (rf : T.RF) (d1 : XT) : Option XT := rf 99 d1
noncomputable def c100 (rf : T.RF) (d1 : XT) (d2 : XT) : Option Bool := rf 100 (d1, d2)
noncomputable def c101 (rf : T.RF) (d1 : List Int) (d2 : List Int) : Option Bool := rf 101 (d1, d2)
noncomputable def c102 (rf : T.RF) (d1 : List XS) : Option (XT × Int) := rf 102 d1
noncomputable def c103 (rf : T.RF) (d1 : List XS) : Option Int := rf 103 d1
noncomputable def c104 (rf : T.RF) (d1 : List XS) (d2 : List UInt8) : Option Int := rf 104 (d1, d2)
noncomputable def c105 (rf : T.RF) (d1 : List XS) (d2 : XL) : Option Bool := rf 105 (d1, d2)
noncomputable def c106 (rf : T.RF) (d1 : XL) : Option Bool := rf 106 d1
noncomputable def c107 (rf : T.RF) (d1 : XN) : Option Bool := rf 107 d1
noncomputable def c108 (rf : T.RF) (d1 : XN) : Option Bool := rf 108 d1
noncomputable def c109 (rf : T.RF) (d1 : XL) (d2 : Int) : Option Bool := rf 109 (d1, d2)
noncomputable def c110 (rf : T.RF) (d1 : List (List UInt8 × XL)) : Option (List Int × Int) := rf 110 d1
noncomputable def c111 (rf : T.RF) (d1 : XL) : Option (List (List UInt8)) := rf 111 d1
noncomputable def c112 (rf : T.RF) (d1 : XL) : Option XL := rf 112 d1
noncomputable def c113 (rf : T.RF) (d1 : XL) (d2 : Int) : Option XL := rf 113 (d1, d2)
noncomputable def c114 (rf : T.RF) (d1 : XL) (d2 : XL) (d3 : Int) : Option XL := rf 114 (d1, d2, d3)
noncomputable def c115 (rf : T.RF) (d1 : XL) : Option (List Bool) := rf 115 d1
noncomputable def c116 (rf : T.RF) (d1 : List (List UInt8)) (d2 : List UInt8) : Option (List (List UInt8) × Bool) := rf 116 (d1, d2)
noncomputable def c117 (rf : T.RF) (d1 : List Bool) (d2 : List (List UInt8 × XL)) (d3 : List (List UInt8)) : Option (List Bool × Bool) := rf 117 (d1, d2, d3)
noncomputable def c118 (rf : T.RF) (d1 : List (List UInt8)) (d2 : List UInt8) : Option Bool := rf 118 (d1, d2)
noncomputable def c119 (rf : T.RF) (d1 : XL) : Option Bool := rf 119 d1
noncomputable def c120 (rf : T.RF) (d1 : Int) : Option Bool := rf 120 d1
noncomputable def c121 (rf : T.RF) (d1 : List XS) (d2 : Int) : Option (List (List Int)) := rf 121 (d1, d2)
noncomputable def c122 (rf : T.RF) (d1 : List XS) (d2 : List (List Int)) (d3 : Int) : Option Int := rf 122 (d1, d2, d3)
noncomputable def c123 (rf : T.RF) (d1 : List XS) (d2 : List (List Int)) (d3 : XL) (d4 : Int) (d5 : Int) : Option Int := rf 123 (d1, d2, d3, d4, d5)
noncomputable def c124 (rf : T.RF) (d1 : List XS) (d2 : List (List Int)) (d3 : XL) (d4 : Int) (d5 : Int) : Option XO := rf 124 (d1, d2, d3, d4, d5)
noncomputable def c125 (rf : T.RF) (d1 : XT) : Option Bool := rf 125 d1
noncomputable def c126 (rf : T.RF) (d1 : XT) : Option Bool := rf 126 d1
noncomputable def c127 (rf : T.RF) (d1 : XT) : Option XT := rf 127 d1
noncomputable def c128 (rf : T.RF) (d1 : XT) : Option Int := rf 128 d1
noncomputable def c129 (rf : T.RF) (d1 : XT) : Option Bool := rf 129 d1
noncomputable def c130 (rf : T.RF) (d1 : Int) : Option Int := rf 130 d1
noncomputable def c131 (rf : T.RF) (d1 : Int) : Option Int := rf 131 d1
noncomputable def c132 (rf : T.RF) (d1 : XT) (d2 : XO) : Option Bool := rf 132 (d1, d2)
noncomputable def c133 (rf : T.RF) (d1 : Int) : Option Bool := rf 133 d1
noncomputable def c134 (rf : T.RF) (d1 : XT) (d2 : Int) (d3 : Int) (d4 : Int) : Option Bool := rf 134 (d1, d2, d3, d4)
noncomputable def c135 (rf : T.RF) (d1 : XT) : Option (List Int) := rf 135 d1
noncomputable def c136 (rf : T.RF) (d1 : XO) : Option (List Int) := rf 136 d1
noncomputable def c139 (rf : T.RF) (d1 : XT) (d2 : Int) : Option Bool := rf 139 (d1, d2)
noncomputable def k0 (rb : T.RB) (d1 : List XS) (d2 : Int) : Option (Bool ⊕ Unit) := rb 0 (d1, d2)
noncomputable def k1 (rb : T.RB) (d1 : List (List Int)) (d2 : Int) : Option (Bool ⊕ Unit) := rb 1 (d1, d2)
noncomputable def k4 (rb : T.RB) (d1 : List UInt8) (d2 : Int) : Option Int := rb 4 (d1, d2)
noncomputable def k5 (rb : T.RB) (d1 : List UInt8) (d2 : Int) (d3 : Int) : Option Int := rb 5 (d1, d2, d3)
noncomputable def k6 (rb : T.RB) (d1 : List UInt8) (d2 : Int) : Option Int := rb 6 (d1, d2)
noncomputable def k7 (rb : T.RB) (d1 : List (List UInt8)) (d2 : List UInt8) (d3 : Int) : Option ((List (List UInt8) × Bool) ⊕ (List (List UInt8))) := rb 7 (d1, d2, d3)
noncomputable def k8 (rb : T.RB) (d1 : List UInt8) (d2 : Int) : Option (Bool ⊕ Unit) := rb 8 (d1, d2)
noncomputable def k9 (rb : T.RB) (d1 : List (List UInt8)) (d2 : List UInt8) (d3 : Int) : Option ((List (List UInt8) × List UInt8) ⊕ (List (List UInt8))) := rb 9 (d1, d2, d3)
noncomputable def k10 (rb : T.RB) (d1 : Int × Int) (d2 : List (Int × List UInt8 × Int)) (d3 : List UInt8) (d4 : Int) : Option (((Int × Int) × List (Int × List UInt8 × Int)) ⊕ ((Int × Int) × List (Int × List UInt8 × Int))) := rb 10 (d1, d2, d3, d4)
noncomputable def k11 (rb : T.RB) (d1 : List UInt8) (d2 : Int) : Option Int := rb 11 (d1, d2)
noncomputable def k15 (rb : T.RB) (d1 : XL) (d2 : XL) (d3 : Int) (d4 : Int) : Option XL := rb 15 (d1, d2, d3, d4)
noncomputable def k16 (rb : T.RB) (d1 : XL) (d2 : List Int) (d3 : Int) (d4 : List XL) (d5 : Int) (d6 : Int) : Option (XL ⊕ (XL × List Int × Int)) := rb 16 (d1, d2, d3, d4, d5, d6)
noncomputable def k18 (rb : T.RB) (d1 : List (Int × List UInt8 × Int) × Int × Int × Int × Int) (d2 : List XL) : Option (((List (Int × List UInt8 × Int) × Int × Int × Int × Int) × List XL) ⊕ (List (Int × List UInt8 × Int) × Int × Int × Int × Int)) := rb 18 (d1, d2)
noncomputable def k20 (rb : T.RB) (d1 : List (Int × List UInt8 × Int) × Int × Int × Int × Int) (d2 : XL) : Option ((List (Int × List UInt8 × Int) × Int × Int × Int × Int) × XL) := rb 20 (d1, d2)
noncomputable def k22 (rb : T.RB) (d1 : List (Int × List UInt8 × Int) × Int × Int × Int × Int) (d2 : XL) : Option ((List (Int × List UInt8 × Int) × Int × Int × Int × Int) × XL) := rb 22 (d1, d2)
noncomputable def k24 (rb : T.RB) (d1 : List (Int × List UInt8 × Int) × Int × Int × Int × Int) (d2 : XL) : Option ((List (Int × List UInt8 × Int) × Int × Int × Int × Int) × XL) := rb 24 (d1, d2)
noncomputable def k26 (rb : T.RB) (d1 : List (Int × List UInt8 × Int) × Int × Int × Int × Int) (d2 : XL) : Option ((List (Int × List UInt8 × Int) × Int × Int × Int × Int) × XL) := rb 26 (d1, d2)
noncomputable def k28 (rb : T.RB) (d1 : List (Int × List UInt8 × Int) × Int × Int × Int × Int) (d2 : XL) : Option ((List (Int × List UInt8 × Int) × Int × Int × Int × Int) × XL) := rb 28 (d1, d2)
noncomputable def k36 (rb : T.RB) (d1 : List Int) (d2 : XL) (d3 : Int) : Option (List Int) := rb 36 (d1, d2, d3)
noncomputable def k37 (rb : T.RB) (d1 : List Int) (d2 : List Int) (d3 : Int) (d4 : Int) : Option (List Int × List Int) := rb 37 (d1, d2, d3, d4)
noncomputable def k39 (rb : T.RB) (d1 : Int × Int) (d2 : List (Int × List UInt8 × Int)) (d3 : Int) : Option (((Int × Int) × XL × Int) ⊕ ((Int × Int) × XL × Int)) := rb 39 (d1, d2, d3)
noncomputable def k57 (rb : T.RB) (d1 : List Bool) (d2 : XL) (d3 : XL) (d4 : Int) (d5 : Int) : Option ((List Bool × Bool) ⊕ (List Bool)) := rb 57 (d1, d2, d3, d4, d5)
noncomputable def k58 (rb : T.RB) (d1 : XN) (d2 : Int) : Option (XN × Bool) := rb 58 (d1, d2)
noncomputable def k59 (rb : T.RB) (d1 : XN) (d2 : XN) (d3 : Int) : Option (XN × XN × Bool) := rb 59 (d1, d2, d3)
noncomputable def k60 (rb : T.RB) (d1 : List Bool) (d2 : XN) (d3 : List Int) (d4 : XL) (d5 : Int) (d6 : Int) (d7 : Int) : Option ((List Bool × XN × List Int × Bool) ⊕ (List Bool × XN × List Int)) := rb 60 (d1, d2, d3, d4, d5, d6, d7)
noncomputable def k61 (rb : T.RB) (d1 : List Bool) (d2 : Bool) (d3 : Int) (d4 : Int) : Option (Int ⊕ Unit) := rb 61 (d1, d2, d3, d4)
noncomputable def k68 (rb : T.RB) (d1 : List Int) (d2 : XL) (d3 : Int) (d4 : Int) : Option (List Int) := rb 68 (d1, d2, d3, d4)
noncomputable def k69 (rb : T.RB) (d1 : List Int) (d2 : List Int) (d3 : Int) (d4 : Int) (d5 : Int) : Option (List Int × List Int) := rb 69 (d1, d2, d3, d4, d5)
noncomputable def k161 (rb : T.RB) (d1 : XL) (d2 : List Int) (d3 : XL) (d4 : Int) (d5 : Int) : Option (List Int × XL) := rb 161 (d1, d2, d3, d4, d5)
noncomputable def k162 (rb : T.RB) (d1 : List (List UInt8)) (d2 : List UInt8) (d3 : Int) (d4 : Int) : Option ((List (List UInt8) × Int) ⊕ (List (List UInt8))) := rb 162 (d1, d2, d3, d4)
noncomputable def k164 (rb : T.RB) (d1 : List Int) (d2 : XL) (d3 : List (List UInt8)) (d4 : Int) (d5 : Int) : Option (List Int × XL × List (List UInt8)) := rb 164 (d1, d2, d3, d4, d5)
noncomputable def k171 (rb : T.RB) (d1 : List Int) (d2 : Int) : Option (List Int) := rb 171 (d1, d2)
noncomputable def k181 (rb : T.RB) (d1 : List Int) (d2 : Int) (d3 : Int) : Option (List Int × Int) := rb 181 (d1, d2, d3)
noncomputable def k201 (rb : T.RB) (d1 : List (List UInt8 × List Int)) (d2 : List (List UInt8 × XL)) (d3 : Int) (d4 : Int) : Option (List (List UInt8 × List Int)) := rb 201 (d1, d2, d3, d4)
noncomputable def k202 (rb : T.RB) (d1 : List (List UInt8 × List Int)) (d2 : List Int) (d3 : List (List Int)) (d4 : List Int) (d5 : List (List UInt8 × XL)) (d6 : Int) (d7 : Int) : Option (List (List UInt8 × List Int) × List Int × List (List Int) × List Int) := rb 202 (d1, d2, d3, d4, d5, d6, d7)
noncomputable def k203 (rb : T.RB) (d1 : List (List UInt8 × List Int)) (d2 : List Int) (d3 : List (List Int)) (d4 : Int) (d5 : List (List UInt8)) (d6 : Int) (d7 : Int) : Option (List (List UInt8 × List Int) × List Int × List (List Int)) := rb 203 (d1, d2, d3, d4, d5, d6, d7)
noncomputable def k204 (rb : T.RB) (d1 : List Int) (d2 : List (List Int)) (d3 : Int) (d4 : List Int) (d5 : Int) (d6 : Int) : Option (List Int × List (List Int)) := rb 204 (d1, d2, d3, d4, d5, d6)
noncomputable def k205 (rb : T.RB) (d1 : List Int) (d2 : List Int) (d3 : List Int) (d4 : List (List Int)) : Option (List Int × List Int × List Int) := rb 205 (d1, d2, d3, d4)
noncomputable def k206 (rb : T.RB) (d1 : List Int) (d2 : List Int) (d3 : List Int) (d4 : Int) (d5 : Int) : Option (List Int × List Int) := rb 206 (d1, d2, d3, d4, d5)
noncomputable def k244 (rb : T.RB) (d1 : Int) (d2 : Bool) (d3 : Int) (d4 : List Unit) (d5 : List (List UInt8 × Int)) (d6 : List Int) (d7 : List XS) (d8 : Int) (d9 : Int) : Option ((Int × Bool × Int × List Unit × List (List UInt8 × Int) × List Int) ⊕ (Int × Bool × Int × List Unit × List (List UInt8 × Int) × List Int)) := rb 244 (d1, d2, d3, d4, d5, d6, d7, d8, d9)
noncomputable def k245 (rb : T.RB) (d1 : Int) (d2 : List (List UInt8 × XL)) (d3 : List Int) (d4 : Bool) (d5 : Int) (d6 : List Unit) (d7 : List (List UInt8 × Int)) (d8 : List Int) (d9 : List XS) (d10 : Int) (d11 : Int) : Option ((Int × Bool × Int × List (List UInt8 × Int) × List Int × List Unit) ⊕ (Int × Bool × Int × List (List UInt8 × Int) × List Int × List (List UInt8 × XL) × List Int × List Unit)) := rb 245 (d1, d2, d3, d4, d5, d6, d7, d8, d9, d10, d11)
noncomputable def k246 (rb : T.RB) (d1 : Int) (d2 : List (List UInt8 × XL)) (d3 : List Int) (d4 : XS) (d5 : Bool) (d6 : Int) (d7 : List UInt8) (d8 : Int) (d9 : XL) (d10 : List Int) (d11 : List Unit) (d12 : List (List UInt8 × Int)) (d13 : List Int) (d14 : List Bool) (d15 : List Int) (d16 : List Unit) (d17 : Int) : Option ((Int × List (List UInt8 × XL) × List Int × XS × Bool × Int × List UInt8 × Int × XL × List Int × List (List UInt8 × Int) × List Int × List Bool × List Int × List Unit × List Unit) ⊕ (Int × List (List UInt8 × XL) × List Int × XS × Bool × Int × List UInt8 × Int × XL × List Int × List (List UInt8 × Int) × List Int × List Bool × List Int × List Unit × List Unit) ⊕ (Int × XS × Bool × Int × List UInt8 × Int × XL × List Int × List (List UInt8 × Int) × List Int × List Bool × List Int × List Unit × List (List UInt8 × XL) × List Int × List Unit)) := rb 246 (d1, d2, d3, d4, d5, d6, d7, d8, d9, d10, d11, d12, d13, d14, d15, d16, d17)
noncomputable def k247 (rb : T.RB) (d1 : Int) (d2 : List (List UInt8 × XL)) (d3 : List Int) (d4 : XS) (d5 : Bool) (d6 : Int) (d7 : List UInt8) (d8 : Int) (d9 : XL) (d10 : List Int) (d11 : List Unit) (d12 : List (List UInt8 × Int)) (d13 : List Int) (d14 : List Bool) (d15 : List Int) (d16 : List Unit) (d17 : Int) : Option ((Int × List (List UInt8 × XL) × List Int × XS × Bool × Int × List UInt8 × Int × XL × List Int × List Unit × List (List UInt8 × Int) × List Int × List Bool × List Int × List Unit) ⊕ (Int × List (List UInt8 × XL) × List Int × XS × Bool × Int × List UInt8 × Int × XL × List Int × List Unit × List (List UInt8 × Int) × List Int × List Bool × List Int × List Unit) ⊕ (Int × XS × Bool × Int × List UInt8 × Int × XL × List Int × List Unit × List (List UInt8 × Int) × List Int × List Bool × List Int × List Unit × List (List UInt8 × XL) × List Int)) := rb 247 (d1, d2, d3, d4, d5, d6, d7, d8, d9, d10, d11, d12, d13, d14, d15, d16, d17)
noncomputable def k248 (rb : T.RB) (d1 : Int) (d2 : XL) (d3 : Bool) (d4 : Int) (d5 : List UInt8) (d6 : Int) (d7 : XL) (d8 : List Int) (d9 : List Unit) (d10 : List (List UInt8 × Int)) (d11 : List Int) (d12 : List Bool) (d13 : List Int) (d14 : List Unit) (d15 : Int) (d16 : XN) : Option ((Int × XL × Bool × Int × List UInt8 × Int × XL × List Int × List Unit × List (List UInt8 × Int) × List Int × List Bool × List Int × List Unit) ⊕ (Int × XL × Bool × Int × List UInt8 × Int × XL × List Int × List Unit × List (List UInt8 × Int) × List Int × List Bool × List Int × List Unit)) := rb 248 (d1, d2, d3, d4, d5, d6, d7, d8, d9, d10, d11, d12, d13, d14, d15, d16)
noncomputable def k249 (rb : T.RB) (d1 : Int) (d2 : XN) (d3 : Bool) (d4 : Int) (d5 : List UInt8) (d6 : Int) (d7 : XL) (d8 : List Int) (d9 : List Unit) (d10 : List (List UInt8 × Int)) (d11 : List Int) (d12 : List Bool) (d13 : List Int) (d14 : List Unit) (d15 : Int) : Option ((Int × XN × Bool × Int × List UInt8 × Int × XL × List Int × List Unit × List (List UInt8 × Int) × List Int × List Bool × List Int × List Unit) ⊕ (Int × XN × Bool × Int × List UInt8 × Int × XL × List Int × List Unit × List (List UInt8 × Int) × List Int × List Bool × List Int × List Unit)) := rb 249 (d1, d2, d3, d4, d5, d6, d7, d8, d9, d10, d11, d12, d13, d14, d15)
noncomputable def k250 (rb : T.RB) (d1 : XN) (d2 : List UInt8) (d3 : Int) (d4 : XL) (d5 : List Int) (d6 : List Bool) (d7 : List Int) (d8 : List Unit) (d9 : Int) : Option (XN × List UInt8 × Int × XL × List Int × List Bool × List Int × List Unit) := rb 250 (d1, d2, d3, d4, d5, d6, d7, d8, d9)
noncomputable def k251 (rb : T.RB) (d1 : XN) (d2 : List Int) (d3 : List UInt8) (d4 : Int) (d5 : XL) (d6 : List Int) (d7 : List Bool) (d8 : List Int) (d9 : List Unit) (d10 : Int) (d11 : Int) (d12 : Int) : Option (XN × List Int × List UInt8 × Int × XL × List Int × List Bool × List Int × List Unit) := rb 251 (d1, d2, d3, d4, d5, d6, d7, d8, d9, d10, d11, d12)
noncomputable def k252 (rb : T.RB) (d1 : List Int) (d2 : List Int) (d3 : Bool) (d4 : Int) (d5 : List Unit) (d6 : List (List UInt8 × Int)) (d7 : List Int) (d8 : Int) (d9 : Int) : Option (List Int × List Int × Bool × Int × List Unit × List (List UInt8 × Int) × List Int) := rb 252 (d1, d2, d3, d4, d5, d6, d7, d8, d9)
noncomputable def k253 (rb : T.RB) (d1 : List XS) (d2 : Int) (d3 : Int) : Option (Int ⊕ Unit) := rb 253 (d1, d2, d3)
noncomputable def k254 (rb : T.RB) (d1 : XL) (d2 : Int) (d3 : Int) : Option (Int ⊕ Unit) := rb 254 (d1, d2, d3)
noncomputable def k362 (rb : T.RB) (d1 : List XO) (d2 : List Int) (d3 : List Int) (d4 : List (List UInt8 × Int)) (d5 : List (List Int)) (d6 : List XS) (d7 : Int) (d8 : Int) : Option (List Int × List (List UInt8 × Int) × List (List Int) × List XO × List Int) := rb 362 (d1, d2, d3, d4, d5, d6, d7, d8)
noncomputable def k363 (rb : T.RB) (d1 : List XL) (d2 : List (List Int)) (d3 : Int) (d4 : List XS) (d5 : Int) (d6 : Int) : Option (List XL × List (List Int)) := rb 363 (d1, d2, d3, d4, d5, d6)
noncomputable def k364 (rb : T.RB) (d1 : List XL) (d2 : List (List Int)) (d3 : Int) (d4 : Int) : Option (List XL × List (List Int) × Int) := rb 364 (d1, d2, d3, d4)
noncomputable def k365 (rb : T.RB) (d1 : List (List Int)) (d2 : Int) (d3 : Int) (d4 : XL) (d5 : Int) (d6 : Int) : Option (List (List Int) × Int) := rb 365 (d1, d2, d3, d4, d5, d6)
noncomputable def k366 (rb : T.RB) (d1 : XN) (d2 : Int) : Option (XN × Int) := rb 366 (d1, d2)
noncomputable def k367 (rb : T.RB) (d1 : List (List Int)) (d2 : List XL) (d3 : List XO) (d4 : List Int) (d5 : List Int) (d6 : List (List UInt8 × Int)) (d7 : Int) (d8 : Int) : Option (List (List Int) × List XL × List Int × List (List UInt8 × Int) × List XO × List Int) := rb 367 (d1, d2, d3, d4, d5, d6, d7, d8)
noncomputable def k368 (rb : T.RB) (d1 : List XO) (d2 : List Int) (d3 : List Int) (d4 : List (List Int)) (d5 : List XL) (d6 : List (List UInt8 × Int)) (d7 : Int) (d8 : XL) : Option (List Int × List Int × List (List Int) × List XL × List (List UInt8 × Int) × List XO) := rb 368 (d1, d2, d3, d4, d5, d6, d7, d8)
noncomputable def k369 (rb : T.RB) (d1 : List XO) (d2 : List Int) (d3 : List Int) (d4 : List (List Int)) (d5 : List XL) (d6 : List (List UInt8 × Int)) (d7 : Int) (d8 : XL) (d9 : Int) (d10 : Int) : Option (List Int × List Int × List (List Int) × List XL × List (List UInt8 × Int) × List XO) := rb 369 (d1, d2, d3, d4, d5, d6, d7, d8, d9, d10)
noncomputable def k370 (rb : T.RB) (d1 : List Int) (d2 : List (List Int)) (d3 : XO) (d4 : List XL) (d5 : List (List UInt8 × Int)) (d6 : Int) (d7 : Int) (d8 : Int) : Option (List Int × List (List Int) × XO × List XL × List (List UInt8 × Int)) := rb 370 (d1, d2, d3, d4, d5, d6, d7, d8)
noncomputable def k372 (rb : T.RB) (d1 : List Int) (d2 : List Int) (d3 : List Int) (d4 : List Int) (d5 : List XO) (d6 : List XO) (d7 : Int) : Option (List Int × List Int × List Int × List Int × List XO × List XO) := rb 372 (d1, d2, d3, d4, d5, d6, d7)
noncomputable def k373 (rb : T.RB) (d1 : XT) (d2 : List XO) (d3 : Int) (d4 : Int) : Option ((XT × Int) ⊕ XT) := rb 373 (d1, d2, d3, d4)
noncomputable def k374 (rb : T.RB) (d1 : XT) (d2 : List Int) (d3 : Int) (d4 : Int) : Option ((XT × Bool) ⊕ XT) := rb 374 (d1, d2, d3, d4)
noncomputable def k375 (rb : T.RB) (d1 : List Int) (d2 : Int) (d3 : Int) : Option (Int ⊕ Unit) := rb 375 (d1, d2, d3)
noncomputable def k376 (rb : T.RB) (d1 : XT) (d2 : List Int) (d3 : Int) (d4 : Int) : Option ((XT × Int) ⊕ XT) := rb 376 (d1, d2, d3, d4)
noncomputable def k382 (rb : T.RB) (d1 : XT) (d2 : List Int) (d3 : Int) (d4 : Int) : Option ((XT × List Int × Bool) ⊕ (XT × List Int)) := rb 382 (d1, d2, d3, d4)
noncomputable def k383 (rb : T.RB) (d1 : XT) (d2 : List Int) (d3 : List Int) : Option ((XT × List Int × Bool) ⊕ (XT × List Int)) := rb 383 (d1, d2, d3)
noncomputable def k384 (rb : T.RB) (d1 : List Int) (d2 : List Int) (d3 : List Int) (d4 : Int) (d5 : Int) : Option ((List Int × Bool) ⊕ (List Int × List Int)) := rb 384 (d1, d2, d3, d4, d5)
noncomputable def k386 (rb : T.RB) (d1 : XT) (d2 : List Int) (d3 : List Int) (d4 : List XO) (d5 : Int) : Option (XT × List Int × List Int × List XO) := rb 386 (d1, d2, d3, d4, d5)
noncomputable def k387 (rb : T.RB) (d1 : List Int) (d2 : List Int) (d3 : Int) : Option (Bool ⊕ Unit) := rb 387 (d1, d2, d3)
noncomputable def k388 (rb : T.RB) (d1 : XT) (d2 : XT) (d3 : Int) : Option ((XT × XT × Bool) ⊕ (XT × XT)) := rb 388 (d1, d2, d3)
noncomputable def k390 (rb : T.RB) (d1 : List XS) (d2 : List UInt8) (d3 : Int) : Option (Int ⊕ Unit) := rb 390 (d1, d2, d3)
noncomputable def k391 (rb : T.RB) (d1 : List Int) (d2 : XL) (d3 : Int) : Option ((List Int × Bool) ⊕ (List Int)) := rb 391 (d1, d2, d3)
noncomputable def k392 (rb : T.RB) (d1 : List Int) (d2 : List Int) (d3 : Int) (d4 : Int) : Option ((List Int × List Int × Bool) ⊕ (List Int × List Int)) := rb 392 (d1, d2, d3, d4)
noncomputable def k393 (rb : T.RB) (d1 : XN) (d2 : List Int) (d3 : XL) (d4 : Int) : Option ((XN × List Int × Bool) ⊕ (XN × List Int)) := rb 393 (d1, d2, d3, d4)
noncomputable def k394 (rb : T.RB) (d1 : List Int) (d2 : XL) (d3 : Int) : Option ((List Int × Bool) ⊕ (List Int)) := rb 394 (d1, d2, d3)
noncomputable def k395 (rb : T.RB) (d1 : List XS) (d2 : XL) (d3 : Int) : Option (Bool ⊕ Unit) := rb 395 (d1, d2, d3)
noncomputable def k397 (rb : T.RB) (d1 : List (List UInt8 × XL)) (d2 : List XS) (d3 : Int) : Option (Int ⊕ (List (List UInt8 × XL))) := rb 397 (d1, d2, d3)
noncomputable def k400 (rb : T.RB) (d1 : XL) (d2 : List Int) (d3 : List Int) (d4 : XL) (d5 : Int) : Option (List Int × XL × List Int) := rb 400 (d1, d2, d3, d4, d5)
noncomputable def k405 (rb : T.RB) (d1 : List Bool) (d2 : XL) (d3 : Int) : Option (List Bool) := rb 405 (d1, d2, d3)
noncomputable def k406 (rb : T.RB) (d1 : List Bool) (d2 : List Int) (d3 : XL) (d4 : Int) (d5 : Int) : Option (List Bool × List Int) := rb 406 (d1, d2, d3, d4, d5)
noncomputable def k408 (rb : T.RB) (d1 : List (List UInt8)) (d2 : List UInt8) (d3 : Int) : Option ((List (List UInt8) × Bool) ⊕ (List (List UInt8))) := rb 408 (d1, d2, d3)
noncomputable def k409 (rb : T.RB) (d1 : List Bool) (d2 : List (List UInt8)) (d3 : XL) (d4 : Int) : Option (List Bool × List (List UInt8)) := rb 409 (d1, d2, d3, d4)
noncomputable def k413 (rb : T.RB) (d1 : List Bool) (d2 : List (List UInt8 × XL)) (d3 : List (List UInt8)) (d4 : Int) : Option ((List Bool × Bool) ⊕ (List Bool)) := rb 413 (d1, d2, d3, d4)
noncomputable def k414 (rb : T.RB) (d1 : List (List UInt8)) (d2 : List UInt8) (d3 : Int) : Option (Bool ⊕ Unit) := rb 414 (d1, d2, d3)
noncomputable def k415 (rb : T.RB) (d1 : List (List (List UInt8))) (d2 : List (List UInt8 × XL)) (d3 : Int) : Option (List (List (List UInt8))) := rb 415 (d1, d2, d3)
noncomputable def k416 (rb : T.RB) (d1 : List (List (List UInt8))) (d2 : List Bool) (d3 : List Int) (d4 : List (List UInt8 × XL)) : Option ((List (List (List UInt8)) × List Bool × List Int × Int) ⊕ (List (List (List UInt8)) × List Bool × List Int)) := rb 416 (d1, d2, d3, d4)
noncomputable def k417 (rb : T.RB) (d1 : List (List (List UInt8))) (d2 : List Bool) (d3 : List (List UInt8 × XL)) (d4 : Int) (d5 : Int) : Option (List (List (List UInt8)) × List Bool × Int) := rb 417 (d1, d2, d3, d4, d5)
noncomputable def k419 (rb : T.RB) (d1 : XL) (d2 : Int) : Option (Bool ⊕ Unit) := rb 419 (d1, d2)
noncomputable def k432 (rb : T.RB) (d1 : List (List Int)) (d2 : List XS) (d3 : Int) (d4 : Int) (d5 : Int) : Option (List (List Int)) := rb 432 (d1, d2, d3, d4, d5)
noncomputable def k433 (rb : T.RB) (d1 : XL) (d2 : List Int) (d3 : Int) (d4 : Int) : Option (XL × List Int × Int) := rb 433 (d1, d2, d3, d4)
noncomputable def k451 (rb : T.RB) (d1 : XO) (d2 : List Int) (d3 : List XS) (d4 : List (List Int)) (d5 : XL) (d6 : Int) (d7 : Int) : Option (XO × List Int) := rb 451 (d1, d2, d3, d4, d5, d6, d7)
noncomputable def k477 (rb : T.RB) (d1 : List XO) (d2 : List Int) (d3 : List Int) (d4 : List XS) (d5 : Int) : Option ((List XO × List Int × List Int × List XO × List Int × List Int × Int) ⊕ XT) := rb 477 (d1, d2, d3, d4, d5)
noncomputable def k478 (rb : T.RB) (d1 : List XO) (d2 : List Int) (d3 : List Int) (d4 : List XS) (d5 : Int) : Option (List Int × List XO × List Int) := rb 478 (d1, d2, d3, d4, d5)
noncomputable def k479 (rb : T.RB) (d1 : List XO) (d2 : List Int) (d3 : List Int) (d4 : List XS) (d5 : List (List Int)) (d6 : Int) : Option (List Int × List XO × List Int) := rb 479 (d1, d2, d3, d4, d5, d6)
noncomputable def k480 (rb : T.RB) (d1 : List XO) (d2 : List Int) (d3 : List Int) (d4 : List XS) (d5 : List (List Int)) (d6 : Int) : Option (List Int × List Int × List XO) := rb 480 (d1, d2, d3, d4, d5, d6)
noncomputable def k481 (rb : T.RB) (d1 : List XO) (d2 : List Int) (d3 : List Int) (d4 : List XS) (d5 : List (List Int)) (d6 : Int) (d7 : XL) (d8 : Int) : Option (List Int × List Int × List XO) := rb 481 (d1, d2, d3, d4, d5, d6, d7, d8)
noncomputable def k483 (rb : T.RB) (d1 : XT) (d2 : List Int) (d3 : List Int) (d4 : List XO) (d5 : Int) : Option (XT × List Int × List Int × List XO) := rb 483 (d1, d2, d3, d4, d5)
noncomputable def k484 (rb : T.RB) (d1 : XT) (d2 : Int) : Option ((XT × Bool) ⊕ XT) := rb 484 (d1, d2)
noncomputable def k485 (rb : T.RB) (d1 : XT) (d2 : Int) : Option ((XT × Bool) ⊕ XT) := rb 485 (d1, d2)
noncomputable def k489 (rb : T.RB) (d1 : XT) (d2 : List Bool) (d3 : List Int) : Option (XT × List Bool × List Int) := rb 489 (d1, d2, d3)
noncomputable def k490 (rb : T.RB) (d1 : XT) (d2 : List Bool) (d3 : Int) (d4 : Int) : Option (XT × List Bool × Int) := rb 490 (d1, d2, d3, d4)
noncomputable def k491 (rb : T.RB) (d1 : List Bool) (d2 : List Int) (d3 : Bool) (d4 : Int) : Option (List Bool × List Int × Bool) := rb 491 (d1, d2, d3, d4)
noncomputable def k492 (rb : T.RB) (d1 : List XS) (d2 : Int) (d3 : Int) : Option Int := rb 492 (d1, d2, d3)
noncomputable def k493 (rb : T.RB) (d1 : List XS) (d2 : Int) (d3 : Int) (d4 : Int) : Option Int := rb 493 (d1, d2, d3, d4)
noncomputable def k494 (rb : T.RB) (d1 : XT) (d2 : Int) : Option ((XT × Bool) ⊕ XT) := rb 494 (d1, d2)
noncomputable def b0 (rf : T.RF) (rb : T.RB) (d1 : List XS) (d2 : Int) : Option (Bool ⊕ Unit) :=
 bif decide (d2 < (((d1.length : Nat) : Int))) then
  bif inb d2 d1.length then
   (nth d1 d2.toNat).bind fun (x1 : XS) =>
   bif decide ((((x1.2.2.length : Nat) : Int)) > 100) then
   some (.inl false)
   else
   bif inb d2 d1.length then
   (nth d1 d2.toNat).bind fun (x2 : XS) =>
   bif decide ((((x2.1.length : Nat) : Int)) > 100) then
   some (.inl false)
   else
   k0 rb d1 (IntKind.i64.wrap (d2 + 1))
   else
   none
  else
   none
 else
  some (.inr ())
theorem eb0 (rf : T.RF) (rb : T.RB) (d1 : List XS) (d2 : Int) : T.stepB rf rb 0 (d1, d2) = b0 rf rb d1 d2 := by kernel_rfl
noncomputable def b1 (rf : T.RF) (rb : T.RB) (d1 : List (List Int)) (d2 : Int) : Option (Bool ⊕ Unit) :=
 bif decide (d2 < (((d1.length : Nat) : Int))) then
  bif inb d2 d1.length then
   (nth d1 d2.toNat).bind fun (x1 : List Int) =>
   bif decide ((((x1.length : Nat) : Int)) > 60) then
   some (.inl false)
   else
   k1 rb d1 (IntKind.i64.wrap (d2 + 1))
  else
   none
 else
  some (.inr ())
theorem eb1 (rf : T.RF) (rb : T.RB) (d1 : List (List Int)) (d2 : Int) : T.stepB rf rb 1 (d1, d2) = b1 rf rb d1 d2 := by kernel_rfl
noncomputable def r1 (rf : T.RF) (rb : T.RB) (d1 : List XS) (d2 : List (List Int)) : Option Bool :=
 bif decide ((((d1.length : Nat) : Int)) > 60) then
  some false
 else
 bif decide ((((d2.length : Nat) : Int)) > 20) then
  some false
 else
  (k0 rb d1 0).bind fun (z1 : Bool ⊕ Unit) =>
  match z1 with
  | .inl u2 =>
    some u2
  | .inr w3 =>
    (k1 rb d2 0).bind fun (z4 : Bool ⊕ Unit) =>
    match z4 with
    | .inl u5 =>
      some u5
    | .inr w6 =>
      some true
theorem er1 (rf : T.RF) (rb : T.RB) (d1 : List XS) (d2 : List (List Int)) : T.stepF rf rb 1 (d1, d2) = r1 rf rb d1 d2 := by kernel_rfl
noncomputable def r6 (rf : T.RF) (rb : T.RB) (d1 : Int) : Option Bool :=
 bif decide (d1 ≥ 48) then
  some (decide (d1 ≤ 57))
 else
  some false
theorem er6 (rf : T.RF) (rb : T.RB) (d1 : Int) : T.stepF rf rb 6 d1 = r6 rf rb d1 := by kernel_rfl
noncomputable def b5 (rf : T.RF) (rb : T.RB) (d1 : List UInt8) (d2 : Int) (d3 : Int) : Option Int :=
 bif decide (d3 < (((d1.length : Nat) : Int))) then
  bif decide (d2 ≤ 2147483647) then
   bif inb d3 d1.length then
   (nth d1 d3.toNat).bind fun (b1 : UInt8) =>
   k5 rb d1 (IntKind.i64.wrap ((IntKind.i64.wrap (10 * d2)) + (IntKind.i64.wrap (IntKind.u8.wrap ((((b1.toNat : Nat) : Int)) - 48))))) (IntKind.i64.wrap (d3 + 1))
   else
   none
  else
   some d2
 else
  some d2
theorem eb5 (rf : T.RF) (rb : T.RB) (d1 : List UInt8) (d2 : Int) (d3 : Int) : T.stepB rf rb 5 (d1, d2, d3) = b5 rf rb d1 d2 d3 := by kernel_rfl
noncomputable def r7 (rf : T.RF) (rb : T.RB) (d1 : List UInt8) : Option Int :=
 (k5 rb d1 0 0).bind fun (z1 : Int) =>
 some z1
theorem er7 (rf : T.RF) (rb : T.RB) (d1 : List UInt8) : T.stepF rf rb 7 d1 = r7 rf rb d1 := by kernel_rfl
noncomputable def r8 (rf : T.RF) (rb : T.RB) (d1 : Int) : Option Bool :=
 bif decide (d1 ≥ 97) then
  bif decide (d1 ≤ 122) then
   some true
  else
   some (d1 == 95)
 else
  some (d1 == 95)
theorem er8 (rf : T.RF) (rb : T.RB) (d1 : Int) : T.stepF rf rb 8 d1 = r8 rf rb d1 := by kernel_rfl
noncomputable def r11 (rf : T.RF) (rb : T.RB) : Option (List (List UInt8)) :=
 some [([97, 110, 100] : List UInt8), ([97, 115, 115, 117, 109, 101] : List UInt8), ([98, 111, 111, 108] : List UInt8), ([99, 111, 110, 116, 114, 97, 99, 116] : List UInt8), ([100, 105, 118] : List UInt8), ([101, 108, 115, 101] : List UInt8), ([101, 110, 100] : List UInt8), ([101, 110, 115, 117, 114, 101] : List UInt8), ([102, 97, 108, 108, 98, 97, 99, 107] : List UInt8), ([102, 97, 108, 115, 101] : List UInt8), ([103, 104, 111, 115, 116] : List UInt8), ([103, 117, 97, 114, 97, 110, 116, 101, 101] : List UInt8), ([104, 105, 115, 116] : List UInt8), ([105, 102] : List UInt8), ([105, 109, 112, 111, 114, 116] : List UInt8), ([105, 110, 116] : List UInt8), ([108, 101, 116] : List UInt8), ([109, 97, 105, 110] : List UInt8), ([109, 111, 100] : List UInt8), ([109, 111, 100, 101] : List UInt8), ([110, 111, 100, 101] : List UInt8), ([110, 111, 116] : List UInt8), ([111, 110, 99, 101] : List UInt8), ([111, 114] : List UInt8), ([112, 114, 101] : List UInt8), ([112, 114, 101, 118] : List UInt8), ([114, 101, 113, 117, 105, 114, 101] : List UInt8), ([114, 101, 116, 117, 114, 110, 115] : List UInt8), ([115, 105, 110, 99, 101] : List UInt8), ([116, 101, 108] : List UInt8), ([116, 104, 101, 110] : List UInt8), ([116, 114, 117, 101] : List UInt8), ([118, 97, 114] : List UInt8), ([119, 105, 116, 104, 105, 110] : List UInt8), ([120, 111, 114] : List UInt8)]
theorem er11 (rf : T.RF) (rb : T.RB) : T.stepF rf rb 11 () = r11 rf rb := by kernel_rfl
noncomputable def b7 (rf : T.RF) (rb : T.RB) (d1 : List (List UInt8)) (d2 : List UInt8) (d3 : Int) : Option ((List (List UInt8) × Bool) ⊕ (List (List UInt8))) :=
 bif decide (d3 < (((d1.length : Nat) : Int))) then
  bif inb d3 d1.length then
   (nth d1 d3.toNat).bind fun (x1 : List UInt8) =>
   bif x1 == d2 then
   some (.inl (d1, true))
   else
   k7 rb d1 d2 (IntKind.i64.wrap (d3 + 1))
  else
   none
 else
  some (.inr d1)
theorem eb7 (rf : T.RF) (rb : T.RB) (d1 : List (List UInt8)) (d2 : List UInt8) (d3 : Int) : T.stepB rf rb 7 (d1, d2, d3) = b7 rf rb d1 d2 d3 := by kernel_rfl
noncomputable def r10 (rf : T.RF) (rb : T.RB) (d1 : List UInt8) : Option Bool :=
 (c11 rf).bind fun (y1 : List (List UInt8)) =>
 (k7 rb y1 d1 0).bind fun (z2 : (List (List UInt8) × Bool) ⊕ (List (List UInt8))) =>
 match z2 with
 | .inl u3 =>
   some u3.2
 | .inr w4 =>
   some false
theorem er10 (rf : T.RF) (rb : T.RB) (d1 : List UInt8) : T.stepF rf rb 10 d1 = r10 rf rb d1 := by kernel_rfl
noncomputable def b8 (rf : T.RF) (rb : T.RB) (d1 : List UInt8) (d2 : Int) : Option (Bool ⊕ Unit) :=
 bif decide (d2 < (((d1.length : Nat) : Int))) then
  bif inb d2 d1.length then
   (nth d1 d2.toNat).bind fun (b1 : UInt8) =>
   (c8 rf (((b1.toNat : Nat) : Int))).bind fun (y2 : Bool) =>
   bif !y2 then
   bif inb d2 d1.length then
   (nth d1 d2.toNat).bind fun (b3 : UInt8) =>
   (c6 rf (((b3.toNat : Nat) : Int))).bind fun (y4 : Bool) =>
   bif !y4 then
   some (.inl false)
   else
   k8 rb d1 (IntKind.i64.wrap (d2 + 1))
   else
   none
   else
   k8 rb d1 (IntKind.i64.wrap (d2 + 1))
  else
   none
 else
  some (.inr ())
theorem eb8 (rf : T.RF) (rb : T.RB) (d1 : List UInt8) (d2 : Int) : T.stepB rf rb 8 (d1, d2) = b8 rf rb d1 d2 := by kernel_rfl
noncomputable def r12 (rf : T.RF) (rb : T.RB) (d1 : List UInt8) : Option Bool :=
 bif d1 == ([] : List UInt8) then
  some false
 else
 bif decide ((((d1.length : Nat) : Int)) > 40) then
  some false
 else
 bif inb 0 d1.length then
  (nth d1 0).bind fun (b1 : UInt8) =>
  (c8 rf (((b1.toNat : Nat) : Int))).bind fun (y2 : Bool) =>
  bif !y2 then
   some false
  else
   (c10 rf d1).bind fun (y3 : Bool) =>
   bif y3 then
    some false
   else
    (k8 rb d1 0).bind fun (z4 : Bool ⊕ Unit) =>
    match z4 with
    | .inl u5 =>
      some u5
    | .inr w6 =>
      some true
 else
  none
theorem er12 (rf : T.RF) (rb : T.RB) (d1 : List UInt8) : T.stepF rf rb 12 d1 = r12 rf rb d1 := by kernel_rfl
noncomputable def r9 (rf : T.RF) (rb : T.RB) (d1 : List UInt8) (d2 : Int) : Option ((Int × List UInt8 × Int) × Int) :=
 (c10 rf d1).bind fun (y1 : Bool) =>
 bif y1 then
  some ((3, d1, d2), 0)
 else
  (c12 rf d1).bind fun (y2 : Bool) =>
  bif !y2 then
   some ((0, ([] : List UInt8), 0), 5)
  else
   some ((1, d1, d2), 0)
theorem er9 (rf : T.RF) (rb : T.RB) (d1 : List UInt8) (d2 : Int) : T.stepF rf rb 9 (d1, d2) = r9 rf rb d1 d2 := by kernel_rfl
noncomputable def r14 (rf : T.RF) (rb : T.RB) : Option (List (List UInt8)) :=
 some [([45, 62] : List UInt8), ([61, 62] : List UInt8), ([60, 61] : List UInt8), ([62, 61] : List UInt8), ([60, 62] : List UInt8), ([61] : List UInt8), ([60] : List UInt8), ([62] : List UInt8), ([43] : List UInt8), ([45] : List UInt8), ([42] : List UInt8), ([40] : List UInt8), ([41] : List UInt8), ([44] : List UInt8), ([59] : List UInt8), ([58] : List UInt8)]
theorem er14 (rf : T.RF) (rb : T.RB) : T.stepF rf rb 14 () = r14 rf rb := by kernel_rfl
noncomputable def b9 (rf : T.RF) (rb : T.RB) (d1 : List (List UInt8)) (d2 : List UInt8) (d3 : Int) : Option ((List (List UInt8) × List UInt8) ⊕ (List (List UInt8))) :=
 bif decide (d3 < (((d1.length : Nat) : Int))) then
  bif inb d3 d1.length then
   (nth d1 d3.toNat).bind fun (x1 : List UInt8) =>
   bif decide ((((d2.length : Nat) : Int)) ≥ (((x1.length : Nat) : Int))) then
   bif inb d3 d1.length then
   (nth d1 d3.toNat).bind fun (x2 : List UInt8) =>
   bif inb' (((x2.length : Nat) : Int)) d2.length then
   bif inb d3 d1.length then
   (nth d1 d3.toNat).bind fun (x3 : List UInt8) =>
   bif (sub d2 (some (0, (x2.length - 0)))) == x3 then
   bif inb d3 d1.length then
   (nth d1 d3.toNat).bind fun (x4 : List UInt8) =>
   some (.inl (d1, x4))
   else
   none
   else
   k9 rb d1 d2 (IntKind.i64.wrap (d3 + 1))
   else
   none
   else
   none
   else
   none
   else
   k9 rb d1 d2 (IntKind.i64.wrap (d3 + 1))
  else
   none
 else
  some (.inr d1)
theorem eb9 (rf : T.RF) (rb : T.RB) (d1 : List (List UInt8)) (d2 : List UInt8) (d3 : Int) : T.stepB rf rb 9 (d1, d2, d3) = b9 rf rb d1 d2 d3 := by kernel_rfl
noncomputable def r13 (rf : T.RF) (rb : T.RB) (d1 : List UInt8) : Option (List UInt8) :=
 (c14 rf).bind fun (y1 : List (List UInt8)) =>
 (k9 rb y1 d1 0).bind fun (z2 : (List (List UInt8) × List UInt8) ⊕ (List (List UInt8))) =>
 match z2 with
 | .inl u3 =>
   some u3.2
 | .inr w4 =>
   some ([] : List UInt8)
theorem er13 (rf : T.RF) (rb : T.RB) (d1 : List UInt8) : T.stepF rf rb 13 d1 = r13 rf rb d1 := by kernel_rfl
noncomputable def b4 (rf : T.RF) (rb : T.RB) (d1 : List UInt8) (d2 : Int) : Option Int :=
 bif decide (d2 < (((d1.length : Nat) : Int))) then
  bif inb d2 d1.length then
   (nth d1 d2.toNat).bind fun (b1 : UInt8) =>
   (c6 rf (((b1.toNat : Nat) : Int))).bind fun (y2 : Bool) =>
   bif y2 then
   k4 rb d1 (IntKind.i64.wrap (d2 + 1))
   else
   some d2
  else
   none
 else
  some d2
theorem eb4 (rf : T.RF) (rb : T.RB) (d1 : List UInt8) (d2 : Int) : T.stepB rf rb 4 (d1, d2) = b4 rf rb d1 d2 := by kernel_rfl
noncomputable def b6 (rf : T.RF) (rb : T.RB) (d1 : List UInt8) (d2 : Int) : Option Int :=
 bif decide (d2 < (((d1.length : Nat) : Int))) then
  bif inb d2 d1.length then
   (nth d1 d2.toNat).bind fun (b1 : UInt8) =>
   (c8 rf (((b1.toNat : Nat) : Int))).bind fun (y2 : Bool) =>
   bif y2 then
   k6 rb d1 (IntKind.i64.wrap (d2 + 1))
   else
   bif inb d2 d1.length then
   (nth d1 d2.toNat).bind fun (b3 : UInt8) =>
   (c6 rf (((b3.toNat : Nat) : Int))).bind fun (y4 : Bool) =>
   bif y4 then
   k6 rb d1 (IntKind.i64.wrap (d2 + 1))
   else
   some d2
   else
   none
  else
   none
 else
  some d2
theorem eb6 (rf : T.RF) (rb : T.RB) (d1 : List UInt8) (d2 : Int) : T.stepB rf rb 6 (d1, d2) = b6 rf rb d1 d2 := by kernel_rfl
noncomputable def r5 (rf : T.RF) (rb : T.RB) (d1 : List UInt8) (d2 : Int) : Option ((Int × List UInt8 × Int) × Int) :=
 bif inb 0 d1.length then
  (nth d1 0).bind fun (b1 : UInt8) =>
  (c6 rf (((b1.toNat : Nat) : Int))).bind fun (y2 : Bool) =>
  bif y2 then
   (k4 rb d1 0).bind fun (z3 : Int) =>
   bif decide (z3 > 1) then
   bif inb 0 d1.length then
   (nth d1 0).bind fun (b4 : UInt8) =>
   bif (((b4.toNat : Nat) : Int)) == 48 then
   some ((0, ([] : List UInt8), 0), 2)
   else
   bif inb' z3 d1.length then
   (c7 rf (sub d1 (some (0, (z3.toNat - 0))))).bind fun (y5 : Int) =>
   bif decide (y5 > 2147483647) then
   some ((0, ([] : List UInt8), 0), 2)
   else
   bif inb' z3 d1.length then
   some ((2, sub d1 (some (0, (z3.toNat - 0))), d2), 0)
   else
   none
   else
   none
   else
   none
   else
   bif inb' z3 d1.length then
   (c7 rf (sub d1 (some (0, (z3.toNat - 0))))).bind fun (y6 : Int) =>
   bif decide (y6 > 2147483647) then
   some ((0, ([] : List UInt8), 0), 2)
   else
   bif inb' z3 d1.length then
   some ((2, sub d1 (some (0, (z3.toNat - 0))), d2), 0)
   else
   none
   else
   none
  else
  bif inb 0 d1.length then
   (nth d1 0).bind fun (b7 : UInt8) =>
   (c8 rf (((b7.toNat : Nat) : Int))).bind fun (y8 : Bool) =>
   bif y8 then
   (k6 rb d1 0).bind fun (z9 : Int) =>
   bif inb' z9 d1.length then
   (c9 rf (sub d1 (some (0, (z9.toNat - 0)))) d2).bind fun (y10 : (Int × List UInt8 × Int) × Int) =>
   some y10
   else
   none
   else
   (c13 rf d1).bind fun (y11 : List UInt8) =>
   bif y11 == ([] : List UInt8) then
   some ((0, ([] : List UInt8), 0), 5)
   else
   some ((4, y11, d2), 0)
  else
   none
 else
  none
theorem er5 (rf : T.RF) (rb : T.RB) (d1 : List UInt8) (d2 : Int) : T.stepF rf rb 5 (d1, d2) = r5 rf rb d1 d2 := by kernel_rfl
noncomputable def b10 (rf : T.RF) (rb : T.RB) (d1 : Int × Int) (d2 : List (Int × List UInt8 × Int)) (d3 : List UInt8) (d4 : Int) : Option (((Int × Int) × List (Int × List UInt8 × Int)) ⊕ ((Int × Int) × List (Int × List UInt8 × Int))) :=
 bif decide (d4 < (((d3.length : Nat) : Int))) then
  bif inb d4 d3.length then
   (nth d3 d4.toNat).bind fun (b1 : UInt8) =>
   bif (((b1.toNat : Nat) : Int)) == 32 then
   k10 rb d1 d2 d3 (IntKind.i64.wrap (d4 + 1))
   else
   bif inb d4 d3.length then
   (nth d3 d4.toNat).bind fun (b2 : UInt8) =>
   bif (((b2.toNat : Nat) : Int)) == 9 then
   k10 rb d1 d2 d3 (IntKind.i64.wrap (d4 + 1))
   else
   bif inb d4 d3.length then
   (nth d3 d4.toNat).bind fun (b3 : UInt8) =>
   bif (((b3.toNat : Nat) : Int)) == 10 then
   k10 rb d1 d2 d3 (IntKind.i64.wrap (d4 + 1))
   else
   bif inb d4 d3.length then
   (nth d3 d4.toNat).bind fun (b4 : UInt8) =>
   bif (((b4.toNat : Nat) : Int)) == 13 then
   k10 rb d1 d2 d3 (IntKind.i64.wrap (d4 + 1))
   else
   bif decide ((IntKind.i64.wrap (d4 + 1)) < (((d3.length : Nat) : Int))) then
   bif inb d4 d3.length then
   (nth d3 d4.toNat).bind fun (b5 : UInt8) =>
   bif (((b5.toNat : Nat) : Int)) == 45 then
   bif inb (IntKind.i64.wrap (d4 + 1)) d3.length then
   (nth d3 (IntKind.i64.wrap (d4 + 1)).toNat).bind fun (b6 : UInt8) =>
   bif (((b6.toNat : Nat) : Int)) == 45 then
   (k11 rb d3 d4).bind fun (z7 : Int) =>
   k10 rb d1 d2 d3 z7
   else
   bif inb' d4 d3.length then
   (c5 rf (sub d3 (some (d4.toNat, (d3.length - d4.toNat)))) d4).bind fun (y8 : (Int × List UInt8 × Int) × Int) =>
   bif y8.2 != 0 then
   some (.inl ((y8.2, d4), []))
   else
   bif (Nat.ble (d2.length + 1) most) && true then
   k10 rb d1 (d2 ++ [y8.1]) d3 (IntKind.i64.wrap (d4 + (((y8.1.2.1.length : Nat) : Int))))
   else
   none
   else
   none
   else
   none
   else
   bif inb' d4 d3.length then
   (c5 rf (sub d3 (some (d4.toNat, (d3.length - d4.toNat)))) d4).bind fun (y9 : (Int × List UInt8 × Int) × Int) =>
   bif y9.2 != 0 then
   some (.inl ((y9.2, d4), []))
   else
   bif (Nat.ble (d2.length + 1) most) && true then
   k10 rb d1 (d2 ++ [y9.1]) d3 (IntKind.i64.wrap (d4 + (((y9.1.2.1.length : Nat) : Int))))
   else
   none
   else
   none
   else
   none
   else
   bif inb' d4 d3.length then
   (c5 rf (sub d3 (some (d4.toNat, (d3.length - d4.toNat)))) d4).bind fun (y10 : (Int × List UInt8 × Int) × Int) =>
   bif y10.2 != 0 then
   some (.inl ((y10.2, d4), []))
   else
   bif (Nat.ble (d2.length + 1) most) && true then
   k10 rb d1 (d2 ++ [y10.1]) d3 (IntKind.i64.wrap (d4 + (((y10.1.2.1.length : Nat) : Int))))
   else
   none
   else
   none
   else
   none
   else
   none
   else
   none
  else
   none
 else
  some (.inr (d1, d2))
theorem eb10 (rf : T.RF) (rb : T.RB) (d1 : Int × Int) (d2 : List (Int × List UInt8 × Int)) (d3 : List UInt8) (d4 : Int) : T.stepB rf rb 10 (d1, d2, d3, d4) = b10 rf rb d1 d2 d3 d4 := by kernel_rfl
noncomputable def b11 (rf : T.RF) (rb : T.RB) (d1 : List UInt8) (d2 : Int) : Option Int :=
 bif decide (d2 < (((d1.length : Nat) : Int))) then
  bif inb d2 d1.length then
   (nth d1 d2.toNat).bind fun (b1 : UInt8) =>
   bif (((b1.toNat : Nat) : Int)) != 10 then
   k11 rb d1 (IntKind.i64.wrap (d2 + 1))
   else
   some d2
  else
   none
 else
  some d2
theorem eb11 (rf : T.RF) (rb : T.RB) (d1 : List UInt8) (d2 : Int) : T.stepB rf rb 11 (d1, d2) = b11 rf rb d1 d2 := by kernel_rfl
noncomputable def r4 (rf : T.RF) (rb : T.RB) (d1 : List UInt8) : Option (List (Int × List UInt8 × Int) × Int × Int) :=
 bif decide ((((d1.length : Nat) : Int)) > 100000) then
  some ([], 7, (-1))
 else
  (k10 rb (0, 0) [] d1 0).bind fun (z1 : ((Int × Int) × List (Int × List UInt8 × Int)) ⊕ ((Int × Int) × List (Int × List UInt8 × Int))) =>
  match z1 with
  | .inl u2 =>
    some (u2.2, u2.1)
  | .inr w3 =>
    some (w3.2, 0, 0)
theorem er4 (rf : T.RF) (rb : T.RB) (d1 : List UInt8) : T.stepF rf rb 4 d1 = r4 rf rb d1 := by kernel_rfl
noncomputable def r26 (rf : T.RF) (rb : T.RB) (d1 : List (Int × List UInt8 × Int)) (d2 : Int) : Option Int :=
 bif decide (d2 < 0) then
  some (-1)
 else
 bif decide (d2 ≥ (((d1.length : Nat) : Int))) then
  some (-1)
 else
 bif inb d2 d1.length then
  (nth d1 d2.toNat).bind fun (x1 : Int × List UInt8 × Int) =>
  some x1.2.2
 else
  none
theorem er26 (rf : T.RF) (rb : T.RB) (d1 : List (Int × List UInt8 × Int)) (d2 : Int) : T.stepF rf rb 26 (d1, d2) = r26 rf rb d1 d2 := by kernel_rfl
noncomputable def r25q (rf : T.RF) (rb : T.RB) (d1 : List (Int × List UInt8 × Int) × Int × Int × Int × Int) (d2 : Int) : Option ((List (Int × List UInt8 × Int) × Int × Int × Int × Int) × XL) :=
 bif d1.2.2.2.1 == 0 then
  agN 1 (
   (c26 rf d1.1 d1.2.1).bind fun (y1 : Int) =>
   some ((d1.1, d1.2.1, d1.2.2.1, d2, y1), [])
  )
 else
  some (d1, [])
noncomputable def r25 (rf : T.RF) (rb : T.RB) (d1 : List (Int × List UInt8 × Int) × Int × Int × Int × Int) (d2 : Int) : Option ((List (Int × List UInt8 × Int) × Int × Int × Int × Int) × XL) :=
 bif d1.2.2.2.1 == 0 then
  (c26 rf d1.1 d1.2.1).bind fun (y1 : Int) =>
  some ((d1.1, d1.2.1, d1.2.2.1, d2, y1), [])
 else
  some (d1, [])
theorem er25 (rf : T.RF) (rb : T.RB) (d1 : List (Int × List UInt8 × Int) × Int × Int × Int × Int) (d2 : Int) : T.stepF rf rb 25 (d1, d2) = r25q rf rb d1 d2 := by kernel_rfl
theorem sr25 (rf : T.RF) (rb : T.RB) (d1 : List (Int × List UInt8 × Int) × Int × Int × Int × Int) (d2 : Int) : r25q rf rb d1 d2 = r25 rf rb d1 d2 := by
 unfold r25q r25; simp only [agN_eq, agree_self, agree_swap]
noncomputable def r29 (rf : T.RF) (rb : T.RB) (d1 : Int) (d2 : Int) (d3 : List UInt8) : Option XN :=
 some (d1, (-1), (-1), (-1), d2, d3)
theorem er29 (rf : T.RF) (rb : T.RB) (d1 : Int) (d2 : Int) (d3 : List UInt8) : T.stepF rf rb 29 (d1, d2, d3) = r29 rf rb d1 d2 d3 := by kernel_rfl
noncomputable def r30 (rf : T.RF) (rb : T.RB) (d1 : XN) : Option (List Int) :=
 bif d1.1 == 4 then
  bif d1.1 == 4 then
   some [d1.2.1]
  else
  bif d1.1 == 26 then
   some [d1.2.1, d1.2.2.1, d1.2.2.2.1]
  else
  bif d1.1 == 27 then
   bif d1.2.1 != (-1) then
   some [d1.2.1]
   else
   some []
  else
  bif d1.1 == 28 then
   bif d1.2.2.1 != (-1) then
   some [d1.2.2.1, d1.2.1]
   else
   some [d1.2.1]
  else
  bif decide (d1.1 ≥ 6) then
   bif decide (d1.1 ≤ 20) then
   some [d1.2.1, d1.2.2.1]
   else
   some []
  else
   some []
 else
 bif d1.1 == 5 then
  bif d1.1 == 5 then
   some [d1.2.1]
  else
  bif d1.1 == 26 then
   some [d1.2.1, d1.2.2.1, d1.2.2.2.1]
  else
  bif d1.1 == 27 then
   bif d1.2.1 != (-1) then
   some [d1.2.1]
   else
   some []
  else
  bif d1.1 == 28 then
   bif d1.2.2.1 != (-1) then
   some [d1.2.2.1, d1.2.1]
   else
   some [d1.2.1]
  else
  bif decide (d1.1 ≥ 6) then
   bif decide (d1.1 ≤ 20) then
   some [d1.2.1, d1.2.2.1]
   else
   some []
  else
   some []
 else
 bif d1.1 == 21 then
  bif d1.1 == 21 then
   some [d1.2.1]
  else
  bif d1.1 == 26 then
   some [d1.2.1, d1.2.2.1, d1.2.2.2.1]
  else
  bif d1.1 == 27 then
   bif d1.2.1 != (-1) then
   some [d1.2.1]
   else
   some []
  else
  bif d1.1 == 28 then
   bif d1.2.2.1 != (-1) then
   some [d1.2.2.1, d1.2.1]
   else
   some [d1.2.1]
  else
  bif decide (d1.1 ≥ 6) then
   bif decide (d1.1 ≤ 20) then
   some [d1.2.1, d1.2.2.1]
   else
   some []
  else
   some []
 else
 bif d1.1 == 22 then
  bif d1.1 == 22 then
   some [d1.2.1]
  else
  bif d1.1 == 26 then
   some [d1.2.1, d1.2.2.1, d1.2.2.2.1]
  else
  bif d1.1 == 27 then
   bif d1.2.1 != (-1) then
   some [d1.2.1]
   else
   some []
  else
  bif d1.1 == 28 then
   bif d1.2.2.1 != (-1) then
   some [d1.2.2.1, d1.2.1]
   else
   some [d1.2.1]
  else
  bif decide (d1.1 ≥ 6) then
   bif decide (d1.1 ≤ 20) then
   some [d1.2.1, d1.2.2.1]
   else
   some []
  else
   some []
 else
 bif d1.1 == 23 then
  bif d1.1 == 23 then
   some [d1.2.1]
  else
  bif d1.1 == 26 then
   some [d1.2.1, d1.2.2.1, d1.2.2.2.1]
  else
  bif d1.1 == 27 then
   bif d1.2.1 != (-1) then
   some [d1.2.1]
   else
   some []
  else
  bif d1.1 == 28 then
   bif d1.2.2.1 != (-1) then
   some [d1.2.2.1, d1.2.1]
   else
   some [d1.2.1]
  else
  bif decide (d1.1 ≥ 6) then
   bif decide (d1.1 ≤ 20) then
   some [d1.2.1, d1.2.2.1]
   else
   some []
  else
   some []
 else
 bif d1.1 == 24 then
  bif d1.1 == 24 then
   some [d1.2.1]
  else
  bif d1.1 == 26 then
   some [d1.2.1, d1.2.2.1, d1.2.2.2.1]
  else
  bif d1.1 == 27 then
   bif d1.2.1 != (-1) then
   some [d1.2.1]
   else
   some []
  else
  bif d1.1 == 28 then
   bif d1.2.2.1 != (-1) then
   some [d1.2.2.1, d1.2.1]
   else
   some [d1.2.1]
  else
  bif decide (d1.1 ≥ 6) then
   bif decide (d1.1 ≤ 20) then
   some [d1.2.1, d1.2.2.1]
   else
   some []
  else
   some []
 else
 bif d1.1 == 25 then
  some [d1.2.1]
 else
 bif d1.1 == 26 then
  some [d1.2.1, d1.2.2.1, d1.2.2.2.1]
 else
 bif d1.1 == 27 then
  bif d1.2.1 != (-1) then
   some [d1.2.1]
  else
   some []
 else
 bif d1.1 == 28 then
  bif d1.2.2.1 != (-1) then
   some [d1.2.2.1, d1.2.1]
  else
   some [d1.2.1]
 else
 bif decide (d1.1 ≥ 6) then
  bif decide (d1.1 ≤ 20) then
   some [d1.2.1, d1.2.2.1]
  else
   some []
 else
  some []
theorem er30 (rf : T.RF) (rb : T.RB) (d1 : XN) : T.stepF rf rb 30 d1 = r30 rf rb d1 := by kernel_rfl
noncomputable def r32 (rf : T.RF) (rb : T.RB) (d1 : XN) (d2 : Int) : Option XN :=
 bif decide (d1.2.1 ≥ 0) then
  bif decide (d1.2.2.1 ≥ 0) then
   bif decide (d1.2.2.2.1 ≥ 0) then
   some (d1.1, IntKind.i64.wrap (d1.2.1 + d2), IntKind.i64.wrap (d1.2.2.1 + d2), IntKind.i64.wrap (d1.2.2.2.1 + d2), d1.2.2.2.2)
   else
   some (d1.1, IntKind.i64.wrap (d1.2.1 + d2), IntKind.i64.wrap (d1.2.2.1 + d2), d1.2.2.2)
  else
  bif decide (d1.2.2.2.1 ≥ 0) then
   some (d1.1, IntKind.i64.wrap (d1.2.1 + d2), d1.2.2.1, IntKind.i64.wrap (d1.2.2.2.1 + d2), d1.2.2.2.2)
  else
   some (d1.1, IntKind.i64.wrap (d1.2.1 + d2), d1.2.2)
 else
 bif decide (d1.2.2.1 ≥ 0) then
  bif decide (d1.2.2.2.1 ≥ 0) then
   some (d1.1, d1.2.1, IntKind.i64.wrap (d1.2.2.1 + d2), IntKind.i64.wrap (d1.2.2.2.1 + d2), d1.2.2.2.2)
  else
   some (d1.1, d1.2.1, IntKind.i64.wrap (d1.2.2.1 + d2), d1.2.2.2)
 else
 bif decide (d1.2.2.2.1 ≥ 0) then
  some (d1.1, d1.2.1, d1.2.2.1, IntKind.i64.wrap (d1.2.2.2.1 + d2), d1.2.2.2.2)
 else
  some d1
theorem er32 (rf : T.RF) (rb : T.RB) (d1 : XN) (d2 : Int) : T.stepF rf rb 32 (d1, d2) = r32 rf rb d1 d2 := by kernel_rfl
noncomputable def b15 (rf : T.RF) (rb : T.RB) (d1 : XL) (d2 : XL) (d3 : Int) (d4 : Int) : Option XL :=
 bif decide (d4 < (((d2.length : Nat) : Int))) then
  bif inb d4 d2.length then
   (nth d2 d4.toNat).bind fun (x1 : XN) =>
   (c32 rf x1 d3).bind fun (y2 : XN) =>
   bif (Nat.ble (d1.length + 1) most) && true then
   k15 rb (d1 ++ [y2]) d2 d3 (IntKind.i64.wrap (d4 + 1))
   else
   none
  else
   none
 else
  some d1
theorem eb15 (rf : T.RF) (rb : T.RB) (d1 : XL) (d2 : XL) (d3 : Int) (d4 : Int) : T.stepB rf rb 15 (d1, d2, d3, d4) = b15 rf rb d1 d2 d3 d4 := by kernel_rfl
noncomputable def r31 (rf : T.RF) (rb : T.RB) (d1 : XL) (d2 : XL) : Option XL :=
 (k15 rb d1 d2 (((d1.length : Nat) : Int)) 0).bind fun (z1 : XL) =>
 some z1
theorem er31 (rf : T.RF) (rb : T.RB) (d1 : XL) (d2 : XL) : T.stepF rf rb 31 (d1, d2) = r31 rf rb d1 d2 := by kernel_rfl
noncomputable def r33 (rf : T.RF) (rb : T.RB) (d1 : XN) (d2 : List Int) : Option XN :=
 bif d1.1 == 28 then
  bif (((d2.length : Nat) : Int)) == 2 then
   bif inb 0 d2.length then
   (nth d2 0).bind fun (x1 : Int) =>
   bif inb 1 d2.length then
   (nth d2 1).bind fun (x2 : Int) =>
   some (d1.1, x2, x1, d1.2.2.2)
   else
   none
   else
   none
  else
  bif decide ((((d2.length : Nat) : Int)) > 0) then
   bif inb 0 d2.length then
   (nth d2 0).bind fun (x3 : Int) =>
   bif decide ((((d2.length : Nat) : Int)) > 1) then
   bif inb 1 d2.length then
   (nth d2 1).bind fun (x4 : Int) =>
   bif decide ((((d2.length : Nat) : Int)) > 2) then
   bif inb 2 d2.length then
   (nth d2 2).bind fun (x5 : Int) =>
   some (d1.1, x3, x4, x5, d1.2.2.2.2)
   else
   none
   else
   some (d1.1, x3, x4, d1.2.2.2)
   else
   none
   else
   bif decide ((((d2.length : Nat) : Int)) > 2) then
   bif inb 2 d2.length then
   (nth d2 2).bind fun (x6 : Int) =>
   some (d1.1, x3, d1.2.2.1, x6, d1.2.2.2.2)
   else
   none
   else
   some (d1.1, x3, d1.2.2)
   else
   none
  else
  bif decide ((((d2.length : Nat) : Int)) > 1) then
   bif inb 1 d2.length then
   (nth d2 1).bind fun (x7 : Int) =>
   bif decide ((((d2.length : Nat) : Int)) > 2) then
   bif inb 2 d2.length then
   (nth d2 2).bind fun (x8 : Int) =>
   some (d1.1, d1.2.1, x7, x8, d1.2.2.2.2)
   else
   none
   else
   some (d1.1, d1.2.1, x7, d1.2.2.2)
   else
   none
  else
  bif decide ((((d2.length : Nat) : Int)) > 2) then
   bif inb 2 d2.length then
   (nth d2 2).bind fun (x9 : Int) =>
   some (d1.1, d1.2.1, d1.2.2.1, x9, d1.2.2.2.2)
   else
   none
  else
   some d1
 else
 bif decide ((((d2.length : Nat) : Int)) > 0) then
  bif inb 0 d2.length then
   (nth d2 0).bind fun (x10 : Int) =>
   bif decide ((((d2.length : Nat) : Int)) > 1) then
   bif inb 1 d2.length then
   (nth d2 1).bind fun (x11 : Int) =>
   bif decide ((((d2.length : Nat) : Int)) > 2) then
   bif inb 2 d2.length then
   (nth d2 2).bind fun (x12 : Int) =>
   some (d1.1, x10, x11, x12, d1.2.2.2.2)
   else
   none
   else
   some (d1.1, x10, x11, d1.2.2.2)
   else
   none
   else
   bif decide ((((d2.length : Nat) : Int)) > 2) then
   bif inb 2 d2.length then
   (nth d2 2).bind fun (x13 : Int) =>
   some (d1.1, x10, d1.2.2.1, x13, d1.2.2.2.2)
   else
   none
   else
   some (d1.1, x10, d1.2.2)
  else
   none
 else
 bif decide ((((d2.length : Nat) : Int)) > 1) then
  bif inb 1 d2.length then
   (nth d2 1).bind fun (x14 : Int) =>
   bif decide ((((d2.length : Nat) : Int)) > 2) then
   bif inb 2 d2.length then
   (nth d2 2).bind fun (x15 : Int) =>
   some (d1.1, d1.2.1, x14, x15, d1.2.2.2.2)
   else
   none
   else
   some (d1.1, d1.2.1, x14, d1.2.2.2)
  else
   none
 else
 bif decide ((((d2.length : Nat) : Int)) > 2) then
  bif inb 2 d2.length then
   (nth d2 2).bind fun (x16 : Int) =>
   some (d1.1, d1.2.1, d1.2.2.1, x16, d1.2.2.2.2)
  else
   none
 else
  some d1
theorem er33 (rf : T.RF) (rb : T.RB) (d1 : XN) (d2 : List Int) : T.stepF rf rb 33 (d1, d2) = r33 rf rb d1 d2 := by kernel_rfl
noncomputable def b16 (rf : T.RF) (rb : T.RB) (d1 : XL) (d2 : List Int) (d3 : Int) (d4 : List XL) (d5 : Int) (d6 : Int) : Option (XL ⊕ (XL × List Int × Int)) :=
 bif decide (d6 < (((d4.length : Nat) : Int))) then
  bif inb d6 d4.length then
   (nth d4 d6.toNat).bind fun (x1 : XL) =>
   bif (((x1.length : Nat) : Int)) == 0 then
   some (.inl [])
   else
   bif inb d6 d4.length then
   (nth d4 d6.toNat).bind fun (x2 : XL) =>
   (c31 rf d1 x2).bind fun (y3 : XL) =>
   bif (Nat.ble (d2.length + 1) most) && true then
   bif d3 == 27 then
   (c29 rf 28 0 ([] : List UInt8)).bind fun (y4 : XN) =>
   bif (Nat.ble (y3.length + 1) most) && true then
   k16 rb (y3 ++ [(y4.1, IntKind.i64.wrap ((((y3.length : Nat) : Int)) - 1), d5, y4.2.2.2)]) (d2 ++ [IntKind.i64.wrap ((((y3.length : Nat) : Int)) - 1)]) d3 d4 (((y3.length : Nat) : Int)) (IntKind.i64.wrap (d6 + 1))
   else
   none
   else
   k16 rb y3 (d2 ++ [IntKind.i64.wrap ((((y3.length : Nat) : Int)) - 1)]) d3 d4 d5 (IntKind.i64.wrap (d6 + 1))
   else
   none
   else
   none
  else
   none
 else
  some (.inr (d1, d2, d5))
theorem eb16 (rf : T.RF) (rb : T.RB) (d1 : XL) (d2 : List Int) (d3 : Int) (d4 : List XL) (d5 : Int) (d6 : Int) : T.stepB rf rb 16 (d1, d2, d3, d4, d5, d6) = b16 rf rb d1 d2 d3 d4 d5 d6 := by kernel_rfl
noncomputable def r28 (rf : T.RF) (rb : T.RB) (d1 : Int) (d2 : Int) (d3 : List UInt8) (d4 : List XL) : Option XL :=
 (c29 rf d1 d2 d3).bind fun (y1 : XN) =>
 (c30 rf y1).bind fun (y2 : List Int) =>
 bif d1 == 28 then
  some []
 else
 bif d1 != 27 then
  bif (((y2.length : Nat) : Int)) != (((d4.length : Nat) : Int)) then
   some []
  else
   (k16 rb [] [] d1 d4 (-1) 0).bind fun (z3 : XL ⊕ (XL × List Int × Int)) =>
   match z3 with
   | .inl u4 =>
     some u4
   | .inr w5 =>
     bif d1 == 27 then
      bif (Nat.ble (w5.1.length + 1) most) && true then
       some (w5.1 ++ [(y1.1, w5.2.2, y1.2.2)])
      else
       none
     else
      (c33 rf y1 w5.2.1).bind fun (y6 : XN) =>
      bif (Nat.ble (w5.1.length + 1) most) && true then
       some (w5.1 ++ [y6])
      else
       none
 else
  (k16 rb [] [] d1 d4 (-1) 0).bind fun (z7 : XL ⊕ (XL × List Int × Int)) =>
  match z7 with
  | .inl u8 =>
    some u8
  | .inr w9 =>
    bif d1 == 27 then
     bif (Nat.ble (w9.1.length + 1) most) && true then
      some (w9.1 ++ [(y1.1, w9.2.2, y1.2.2)])
     else
      none
    else
     (c33 rf y1 w9.2.1).bind fun (y10 : XN) =>
     bif (Nat.ble (w9.1.length + 1) most) && true then
      some (w9.1 ++ [y10])
     else
      none
theorem er28 (rf : T.RF) (rb : T.RB) (d1 : Int) (d2 : Int) (d3 : List UInt8) (d4 : List XL) : T.stepF rf rb 28 (d1, d2, d3, d4) = r28 rf rb d1 d2 d3 d4 := by kernel_rfl
noncomputable def r36 (rf : T.RF) (rb : T.RB) (d1 : List (Int × List UInt8 × Int) × Int × Int × Int × Int) (d2 : List UInt8) : Option ((List (Int × List UInt8 × Int) × Int × Int × Int × Int) × Bool) :=
 bif d1.2.2.2.1 != 0 then
  some (d1, false)
 else
 bif decide (d1.2.1 ≥ (((d1.1.length : Nat) : Int))) then
  some (d1, false)
 else
 bif inb d1.2.1 d1.1.length then
  (nth d1.1 d1.2.1.toNat).bind fun (x1 : Int × List UInt8 × Int) =>
  bif x1.1 == 4 then
   some (d1, x1.2.1 == d2)
  else
  bif x1.1 == 3 then
   some (d1, x1.2.1 == d2)
  else
   some (d1, false)
 else
  none
theorem er36 (rf : T.RF) (rb : T.RB) (d1 : List (Int × List UInt8 × Int) × Int × Int × Int × Int) (d2 : List UInt8) : T.stepF rf rb 36 (d1, d2) = r36 rf rb d1 d2 := by kernel_rfl
noncomputable def r35 (rf : T.RF) (rb : T.RB) (d1 : List (Int × List UInt8 × Int) × Int × Int × Int × Int) (d2 : List UInt8) : Option ((List (Int × List UInt8 × Int) × Int × Int × Int × Int) × Bool) :=
 (c36 rf d1 d2).bind fun (y1 : (List (Int × List UInt8 × Int) × Int × Int × Int × Int) × Bool) =>
 bif !y1.2 then
  some (y1.1, false)
 else
  some ((y1.1.1, IntKind.i64.wrap (y1.1.2.1 + 1), y1.1.2.2), true)
theorem er35 (rf : T.RF) (rb : T.RB) (d1 : List (Int × List UInt8 × Int) × Int × Int × Int × Int) (d2 : List UInt8) : T.stepF rf rb 35 (d1, d2) = r35 rf rb d1 d2 := by kernel_rfl
noncomputable def r38 (rf : T.RF) (rb : T.RB) (d1 : List (Int × List UInt8 × Int) × Int × Int × Int × Int) (d2 : List UInt8) : Option (List (Int × List UInt8 × Int) × Int × Int × Int × Int) :=
 (c35 rf d1 d2).bind fun (y1 : (List (Int × List UInt8 × Int) × Int × Int × Int × Int) × Bool) =>
 bif !y1.2 then
  (c25 rf y1.1 5).bind fun (y2 : (List (Int × List UInt8 × Int) × Int × Int × Int × Int) × XL) =>
  some y2.1
 else
  some y1.1
theorem er38 (rf : T.RF) (rb : T.RB) (d1 : List (Int × List UInt8 × Int) × Int × Int × Int × Int) (d2 : List UInt8) : T.stepF rf rb 38 (d1, d2) = r38 rf rb d1 d2 := by kernel_rfl
noncomputable def b18 (rf : T.RF) (rb : T.RB) (d1 : List (Int × List UInt8 × Int) × Int × Int × Int × Int) (d2 : List XL) : Option (((List (Int × List UInt8 × Int) × Int × Int × Int × Int) × List XL) ⊕ (List (Int × List UInt8 × Int) × Int × Int × Int × Int)) :=
 bif d1.2.2.2.1 == 0 then
  (c16 rf d1).bind fun (y1 : (List (Int × List UInt8 × Int) × Int × Int × Int × Int) × XL) =>
  bif (Nat.ble (d2.length + 1) most) && true then
   (c35 rf y1.1 ([41] : List UInt8)).bind fun (y2 : (List (Int × List UInt8 × Int) × Int × Int × Int × Int) × Bool) =>
   bif y2.2 then
   some (.inl (y2.1, d2 ++ [y1.2]))
   else
   (c38 rf y2.1 ([44] : List UInt8)).bind fun (y3 : List (Int × List UInt8 × Int) × Int × Int × Int × Int) =>
   k18 rb y3 (d2 ++ [y1.2])
  else
   none
 else
  some (.inr d1)
theorem eb18 (rf : T.RF) (rb : T.RB) (d1 : List (Int × List UInt8 × Int) × Int × Int × Int × Int) (d2 : List XL) : T.stepB rf rb 18 (d1, d2) = b18 rf rb d1 d2 := by kernel_rfl
noncomputable def r37 (rf : T.RF) (rb : T.RB) (d1 : List (Int × List UInt8 × Int) × Int × Int × Int × Int) : Option ((List (Int × List UInt8 × Int) × Int × Int × Int × Int) × List XL) :=
 (c35 rf d1 ([41] : List UInt8)).bind fun (y1 : (List (Int × List UInt8 × Int) × Int × Int × Int × Int) × Bool) =>
 bif y1.2 then
  some (y1.1, [])
 else
  (k18 rb y1.1 []).bind fun (z2 : ((List (Int × List UInt8 × Int) × Int × Int × Int × Int) × List XL) ⊕ (List (Int × List UInt8 × Int) × Int × Int × Int × Int)) =>
  match z2 with
  | .inl u3 =>
    some u3
  | .inr w4 =>
    some (w4, [])
theorem er37 (rf : T.RF) (rb : T.RB) (d1 : List (Int × List UInt8 × Int) × Int × Int × Int × Int) : T.stepF rf rb 37 d1 = r37 rf rb d1 := by kernel_rfl
noncomputable def r34 (rf : T.RF) (rb : T.RB) (d1 : List (Int × List UInt8 × Int) × Int × Int × Int × Int) (d2 : List UInt8) : Option ((List (Int × List UInt8 × Int) × Int × Int × Int × Int) × XL) :=
 (c35 rf (d1.1, IntKind.i64.wrap (d1.2.1 + 1), d1.2.2) ([40] : List UInt8)).bind fun (y1 : (List (Int × List UInt8 × Int) × Int × Int × Int × Int) × Bool) =>
 bif !y1.2 then
  (c28 rf 3 0 d2 []).bind fun (y2 : XL) =>
  some (y1.1, y2)
 else
  (c37 rf y1.1).bind fun (y3 : (List (Int × List UInt8 × Int) × Int × Int × Int × Int) × List XL) =>
  bif y3.1.2.2.2.1 != 0 then
   some (y3.1, [])
  else
   (c28 rf 27 0 d2 y3.2).bind fun (y4 : XL) =>
   some (y3.1, y4)
theorem er34 (rf : T.RF) (rb : T.RB) (d1 : List (Int × List UInt8 × Int) × Int × Int × Int × Int) (d2 : List UInt8) : T.stepF rf rb 34 (d1, d2) = r34 rf rb d1 d2 := by kernel_rfl
noncomputable def r39 (rf : T.RF) (rb : T.RB) (d1 : List UInt8) : Option Int :=
 bif d1 == ([110, 111, 116] : List UInt8) then
  some 4
 else
 bif d1 == ([45] : List UInt8) then
  some 5
 else
 bif d1 == ([112, 114, 101] : List UInt8) then
  some 21
 else
 bif d1 == ([111, 110, 99, 101] : List UInt8) then
  some 22
 else
 bif d1 == ([104, 105, 115, 116] : List UInt8) then
  some 23
 else
 bif d1 == ([112, 114, 101, 118] : List UInt8) then
  some 24
 else
 bif d1 == ([119, 105, 116, 104, 105, 110] : List UInt8) then
  some 25
 else
  some 0
theorem er39 (rf : T.RF) (rb : T.RB) (d1 : List UInt8) : T.stepF rf rb 39 d1 = r39 rf rb d1 := by kernel_rfl
noncomputable def r40 (rf : T.RF) (rb : T.RB) (d1 : List (Int × List UInt8 × Int) × Int × Int × Int × Int) : Option ((List (Int × List UInt8 × Int) × Int × Int × Int × Int) × XL) :=
 bif decide ((IntKind.i64.wrap (d1.2.1 + 1)) ≥ (((d1.1.length : Nat) : Int))) then
  (c25 rf (d1.1, IntKind.i64.wrap (d1.2.1 + 1), d1.2.2) 5).bind fun (y1 : (List (Int × List UInt8 × Int) × Int × Int × Int × Int) × XL) =>
  some y1
 else
 bif inb (IntKind.i64.wrap (d1.2.1 + 1)) d1.1.length then
  (nth d1.1 (IntKind.i64.wrap (d1.2.1 + 1)).toNat).bind fun (x2 : Int × List UInt8 × Int) =>
  bif x2.1 != 2 then
   (c25 rf (d1.1, IntKind.i64.wrap (d1.2.1 + 1), d1.2.2) 5).bind fun (y3 : (List (Int × List UInt8 × Int) × Int × Int × Int × Int) × XL) =>
   some y3
  else
  bif inb (IntKind.i64.wrap (d1.2.1 + 1)) d1.1.length then
   (nth d1.1 (IntKind.i64.wrap (d1.2.1 + 1)).toNat).bind fun (x4 : Int × List UInt8 × Int) =>
   (c7 rf x4.2.1).bind fun (y5 : Int) =>
   bif decide (y5 > 1000) then
   (c25 rf (d1.1, IntKind.i64.wrap (d1.2.1 + 1), d1.2.2) 5).bind fun (y6 : (List (Int × List UInt8 × Int) × Int × Int × Int × Int) × XL) =>
   some y6
   else
   bif inb (IntKind.i64.wrap (d1.2.1 + 1)) d1.1.length then
   (nth d1.1 (IntKind.i64.wrap (d1.2.1 + 1)).toNat).bind fun (x7 : Int × List UInt8 × Int) =>
   (c7 rf x7.2.1).bind fun (y8 : Int) =>
   (c24 rf (d1.1, IntKind.i64.wrap ((IntKind.i64.wrap (d1.2.1 + 1)) + 1), d1.2.2)).bind fun (y9 : (List (Int × List UInt8 × Int) × Int × Int × Int × Int) × XL) =>
   bif y9.1.2.2.2.1 != 0 then
   some (y9.1, [])
   else
   (c28 rf 25 y8 ([] : List UInt8) [y9.2]).bind fun (y10 : XL) =>
   some (y9.1, y10)
   else
   none
  else
   none
 else
  none
theorem er40 (rf : T.RF) (rb : T.RB) (d1 : List (Int × List UInt8 × Int) × Int × Int × Int × Int) : T.stepF rf rb 40 d1 = r40 rf rb d1 := by kernel_rfl
noncomputable def r41 (rf : T.RF) (rb : T.RB) (d1 : List (Int × List UInt8 × Int) × Int × Int × Int × Int) : Option ((List (Int × List UInt8 × Int) × Int × Int × Int × Int) × XL) :=
 (c16 rf d1).bind fun (y1 : (List (Int × List UInt8 × Int) × Int × Int × Int × Int) × XL) =>
 (c38 rf y1.1 ([116, 104, 101, 110] : List UInt8)).bind fun (y2 : List (Int × List UInt8 × Int) × Int × Int × Int × Int) =>
 (c16 rf y2).bind fun (y3 : (List (Int × List UInt8 × Int) × Int × Int × Int × Int) × XL) =>
 (c38 rf y3.1 ([101, 108, 115, 101] : List UInt8)).bind fun (y4 : List (Int × List UInt8 × Int) × Int × Int × Int × Int) =>
 (c16 rf y4).bind fun (y5 : (List (Int × List UInt8 × Int) × Int × Int × Int × Int) × XL) =>
 bif y5.1.2.2.2.1 != 0 then
  some (y5.1, [])
 else
  (c28 rf 26 0 ([] : List UInt8) [y1.2, y3.2, y5.2]).bind fun (y6 : XL) =>
  some (y5.1, y6)
theorem er41 (rf : T.RF) (rb : T.RB) (d1 : List (Int × List UInt8 × Int) × Int × Int × Int × Int) : T.stepF rf rb 41 d1 = r41 rf rb d1 := by kernel_rfl
noncomputable def r27 (rf : T.RF) (rb : T.RB) (d1 : List (Int × List UInt8 × Int) × Int × Int × Int × Int) (d2 : Int × List UInt8 × Int) : Option ((List (Int × List UInt8 × Int) × Int × Int × Int × Int) × XL) :=
 bif d2.1 == 2 then
  (c7 rf d2.2.1).bind fun (y1 : Int) =>
  (c28 rf 1 y1 ([] : List UInt8) []).bind fun (y2 : XL) =>
  some ((d1.1, IntKind.i64.wrap (d1.2.1 + 1), d1.2.2), y2)
 else
 bif d2.1 == 1 then
  (c34 rf d1 d2.2.1).bind fun (y3 : (List (Int × List UInt8 × Int) × Int × Int × Int × Int) × XL) =>
  some y3
 else
 bif d2.1 != 4 then
  bif d2.1 != 3 then
   (c25 rf d1 5).bind fun (y4 : (List (Int × List UInt8 × Int) × Int × Int × Int × Int) × XL) =>
   some y4
  else
   (c39 rf d2.2.1).bind fun (y5 : Int) =>
   bif y5 == 25 then
   (c40 rf d1).bind fun (y6 : (List (Int × List UInt8 × Int) × Int × Int × Int × Int) × XL) =>
   some y6
   else
   bif decide (y5 > 0) then
   (c24 rf (d1.1, IntKind.i64.wrap (d1.2.1 + 1), d1.2.2)).bind fun (y7 : (List (Int × List UInt8 × Int) × Int × Int × Int × Int) × XL) =>
   bif y7.1.2.2.2.1 != 0 then
   some (y7.1, [])
   else
   (c28 rf y5 0 ([] : List UInt8) [y7.2]).bind fun (y8 : XL) =>
   some (y7.1, y8)
   else
   (c35 rf d1 ([116, 114, 117, 101] : List UInt8)).bind fun (y9 : (List (Int × List UInt8 × Int) × Int × Int × Int × Int) × Bool) =>
   bif y9.2 then
   (c28 rf 2 1 ([] : List UInt8) []).bind fun (y10 : XL) =>
   some (y9.1, y10)
   else
   (c35 rf y9.1 ([102, 97, 108, 115, 101] : List UInt8)).bind fun (y11 : (List (Int × List UInt8 × Int) × Int × Int × Int × Int) × Bool) =>
   bif y11.2 then
   (c28 rf 2 0 ([] : List UInt8) []).bind fun (y12 : XL) =>
   some (y11.1, y12)
   else
   (c35 rf y11.1 ([40] : List UInt8)).bind fun (y13 : (List (Int × List UInt8 × Int) × Int × Int × Int × Int) × Bool) =>
   bif y13.2 then
   (c16 rf y13.1).bind fun (y14 : (List (Int × List UInt8 × Int) × Int × Int × Int × Int) × XL) =>
   (c38 rf y14.1 ([41] : List UInt8)).bind fun (y15 : List (Int × List UInt8 × Int) × Int × Int × Int × Int) =>
   some (y15, y14.2)
   else
   (c35 rf y13.1 ([105, 102] : List UInt8)).bind fun (y16 : (List (Int × List UInt8 × Int) × Int × Int × Int × Int) × Bool) =>
   bif y16.2 then
   (c41 rf y16.1).bind fun (y17 : (List (Int × List UInt8 × Int) × Int × Int × Int × Int) × XL) =>
   some y17
   else
   (c25 rf y16.1 5).bind fun (y18 : (List (Int × List UInt8 × Int) × Int × Int × Int × Int) × XL) =>
   some y18
 else
  (c39 rf d2.2.1).bind fun (y19 : Int) =>
  bif y19 == 25 then
   (c40 rf d1).bind fun (y20 : (List (Int × List UInt8 × Int) × Int × Int × Int × Int) × XL) =>
   some y20
  else
  bif decide (y19 > 0) then
   (c24 rf (d1.1, IntKind.i64.wrap (d1.2.1 + 1), d1.2.2)).bind fun (y21 : (List (Int × List UInt8 × Int) × Int × Int × Int × Int) × XL) =>
   bif y21.1.2.2.2.1 != 0 then
   some (y21.1, [])
   else
   (c28 rf y19 0 ([] : List UInt8) [y21.2]).bind fun (y22 : XL) =>
   some (y21.1, y22)
  else
   (c35 rf d1 ([116, 114, 117, 101] : List UInt8)).bind fun (y23 : (List (Int × List UInt8 × Int) × Int × Int × Int × Int) × Bool) =>
   bif y23.2 then
   (c28 rf 2 1 ([] : List UInt8) []).bind fun (y24 : XL) =>
   some (y23.1, y24)
   else
   (c35 rf y23.1 ([102, 97, 108, 115, 101] : List UInt8)).bind fun (y25 : (List (Int × List UInt8 × Int) × Int × Int × Int × Int) × Bool) =>
   bif y25.2 then
   (c28 rf 2 0 ([] : List UInt8) []).bind fun (y26 : XL) =>
   some (y25.1, y26)
   else
   (c35 rf y25.1 ([40] : List UInt8)).bind fun (y27 : (List (Int × List UInt8 × Int) × Int × Int × Int × Int) × Bool) =>
   bif y27.2 then
   (c16 rf y27.1).bind fun (y28 : (List (Int × List UInt8 × Int) × Int × Int × Int × Int) × XL) =>
   (c38 rf y28.1 ([41] : List UInt8)).bind fun (y29 : List (Int × List UInt8 × Int) × Int × Int × Int × Int) =>
   some (y29, y28.2)
   else
   (c35 rf y27.1 ([105, 102] : List UInt8)).bind fun (y30 : (List (Int × List UInt8 × Int) × Int × Int × Int × Int) × Bool) =>
   bif y30.2 then
   (c41 rf y30.1).bind fun (y31 : (List (Int × List UInt8 × Int) × Int × Int × Int × Int) × XL) =>
   some y31
   else
   (c25 rf y30.1 5).bind fun (y32 : (List (Int × List UInt8 × Int) × Int × Int × Int × Int) × XL) =>
   some y32
theorem er27 (rf : T.RF) (rb : T.RB) (d1 : List (Int × List UInt8 × Int) × Int × Int × Int × Int) (d2 : Int × List UInt8 × Int) : T.stepF rf rb 27 (d1, d2) = r27 rf rb d1 d2 := by kernel_rfl
noncomputable def r24 (rf : T.RF) (rb : T.RB) (d1 : List (Int × List UInt8 × Int) × Int × Int × Int × Int) : Option ((List (Int × List UInt8 × Int) × Int × Int × Int × Int) × XL) :=
 bif d1.2.2.2.1 != 0 then
  some (d1, [])
 else
 bif decide (d1.2.2.1 ≥ 200) then
  (c25 rf d1 6).bind fun (y1 : (List (Int × List UInt8 × Int) × Int × Int × Int × Int) × XL) =>
  some y1
 else
 bif decide (d1.2.1 ≥ (((d1.1.length : Nat) : Int))) then
  (c25 rf d1 5).bind fun (y2 : (List (Int × List UInt8 × Int) × Int × Int × Int × Int) × XL) =>
  some y2
 else
 bif inb d1.2.1 d1.1.length then
  (nth d1.1 d1.2.1.toNat).bind fun (x3 : Int × List UInt8 × Int) =>
  (c27 rf (d1.1, d1.2.1, IntKind.i64.wrap (d1.2.2.1 + 1), d1.2.2.2) x3).bind fun (y4 : (List (Int × List UInt8 × Int) × Int × Int × Int × Int) × XL) =>
  some ((y4.1.1, y4.1.2.1, IntKind.i64.wrap (y4.1.2.2.1 - 1), y4.1.2.2.2), y4.2)
 else
  none
theorem er24 (rf : T.RF) (rb : T.RB) (d1 : List (Int × List UInt8 × Int) × Int × Int × Int × Int) : T.stepF rf rb 24 d1 = r24 rf rb d1 := by kernel_rfl
noncomputable def r42 (rf : T.RF) (rb : T.RB) (d1 : List (Int × List UInt8 × Int) × Int × Int × Int × Int) (d2 : Int) (d3 : XL) (d4 : XL) : Option ((List (Int × List UInt8 × Int) × Int × Int × Int × Int) × XL) :=
 bif d1.2.2.2.1 != 0 then
  some (d1, [])
 else
  (c28 rf d2 0 ([] : List UInt8) [d3, d4]).bind fun (y1 : XL) =>
  some (d1, y1)
theorem er42 (rf : T.RF) (rb : T.RB) (d1 : List (Int × List UInt8 × Int) × Int × Int × Int × Int) (d2 : Int) (d3 : XL) (d4 : XL) : T.stepF rf rb 42 (d1, d2, d3, d4) = r42 rf rb d1 d2 d3 d4 := by kernel_rfl
noncomputable def b20 (rf : T.RF) (rb : T.RB) (d1 : List (Int × List UInt8 × Int) × Int × Int × Int × Int) (d2 : XL) : Option ((List (Int × List UInt8 × Int) × Int × Int × Int × Int) × XL) :=
 (c36 rf d1 ([42] : List UInt8)).bind fun (y1 : (List (Int × List UInt8 × Int) × Int × Int × Int × Int) × Bool) =>
 bif y1.2 then
  (c36 rf y1.1 ([100, 105, 118] : List UInt8)).bind fun (y2 : (List (Int × List UInt8 × Int) × Int × Int × Int × Int) × Bool) =>
  bif y2.2 then
   (c36 rf y2.1 ([109, 111, 100] : List UInt8)).bind fun (y3 : (List (Int × List UInt8 × Int) × Int × Int × Int × Int) × Bool) =>
   bif y3.2 then
   (c24 rf (y3.1.1, IntKind.i64.wrap (y3.1.2.1 + 1), y3.1.2.2)).bind fun (y4 : (List (Int × List UInt8 × Int) × Int × Int × Int × Int) × XL) =>
   (c42 rf y4.1 18 d2 y4.2).bind fun (y5 : (List (Int × List UInt8 × Int) × Int × Int × Int × Int) × XL) =>
   k20 rb y5.1 y5.2
   else
   (c24 rf (y3.1.1, IntKind.i64.wrap (y3.1.2.1 + 1), y3.1.2.2)).bind fun (y6 : (List (Int × List UInt8 × Int) × Int × Int × Int × Int) × XL) =>
   (c42 rf y6.1 17 d2 y6.2).bind fun (y7 : (List (Int × List UInt8 × Int) × Int × Int × Int × Int) × XL) =>
   k20 rb y7.1 y7.2
  else
   (c36 rf y2.1 ([109, 111, 100] : List UInt8)).bind fun (y8 : (List (Int × List UInt8 × Int) × Int × Int × Int × Int) × Bool) =>
   bif y8.2 then
   (c24 rf (y8.1.1, IntKind.i64.wrap (y8.1.2.1 + 1), y8.1.2.2)).bind fun (y9 : (List (Int × List UInt8 × Int) × Int × Int × Int × Int) × XL) =>
   (c42 rf y9.1 18 d2 y9.2).bind fun (y10 : (List (Int × List UInt8 × Int) × Int × Int × Int × Int) × XL) =>
   k20 rb y10.1 y10.2
   else
   (c24 rf (y8.1.1, IntKind.i64.wrap (y8.1.2.1 + 1), y8.1.2.2)).bind fun (y11 : (List (Int × List UInt8 × Int) × Int × Int × Int × Int) × XL) =>
   (c42 rf y11.1 16 d2 y11.2).bind fun (y12 : (List (Int × List UInt8 × Int) × Int × Int × Int × Int) × XL) =>
   k20 rb y12.1 y12.2
 else
  (c36 rf y1.1 ([100, 105, 118] : List UInt8)).bind fun (y13 : (List (Int × List UInt8 × Int) × Int × Int × Int × Int) × Bool) =>
  bif y13.2 then
   (c36 rf y13.1 ([100, 105, 118] : List UInt8)).bind fun (y14 : (List (Int × List UInt8 × Int) × Int × Int × Int × Int) × Bool) =>
   bif y14.2 then
   (c36 rf y14.1 ([109, 111, 100] : List UInt8)).bind fun (y15 : (List (Int × List UInt8 × Int) × Int × Int × Int × Int) × Bool) =>
   bif y15.2 then
   (c24 rf (y15.1.1, IntKind.i64.wrap (y15.1.2.1 + 1), y15.1.2.2)).bind fun (y16 : (List (Int × List UInt8 × Int) × Int × Int × Int × Int) × XL) =>
   (c42 rf y16.1 18 d2 y16.2).bind fun (y17 : (List (Int × List UInt8 × Int) × Int × Int × Int × Int) × XL) =>
   k20 rb y17.1 y17.2
   else
   (c24 rf (y15.1.1, IntKind.i64.wrap (y15.1.2.1 + 1), y15.1.2.2)).bind fun (y18 : (List (Int × List UInt8 × Int) × Int × Int × Int × Int) × XL) =>
   (c42 rf y18.1 17 d2 y18.2).bind fun (y19 : (List (Int × List UInt8 × Int) × Int × Int × Int × Int) × XL) =>
   k20 rb y19.1 y19.2
   else
   (c36 rf y14.1 ([109, 111, 100] : List UInt8)).bind fun (y20 : (List (Int × List UInt8 × Int) × Int × Int × Int × Int) × Bool) =>
   bif y20.2 then
   (c24 rf (y20.1.1, IntKind.i64.wrap (y20.1.2.1 + 1), y20.1.2.2)).bind fun (y21 : (List (Int × List UInt8 × Int) × Int × Int × Int × Int) × XL) =>
   (c42 rf y21.1 18 d2 y21.2).bind fun (y22 : (List (Int × List UInt8 × Int) × Int × Int × Int × Int) × XL) =>
   k20 rb y22.1 y22.2
   else
   (c24 rf (y20.1.1, IntKind.i64.wrap (y20.1.2.1 + 1), y20.1.2.2)).bind fun (y23 : (List (Int × List UInt8 × Int) × Int × Int × Int × Int) × XL) =>
   (c42 rf y23.1 16 d2 y23.2).bind fun (y24 : (List (Int × List UInt8 × Int) × Int × Int × Int × Int) × XL) =>
   k20 rb y24.1 y24.2
  else
   (c36 rf y13.1 ([109, 111, 100] : List UInt8)).bind fun (y25 : (List (Int × List UInt8 × Int) × Int × Int × Int × Int) × Bool) =>
   bif y25.2 then
   (c36 rf y25.1 ([100, 105, 118] : List UInt8)).bind fun (y26 : (List (Int × List UInt8 × Int) × Int × Int × Int × Int) × Bool) =>
   bif y26.2 then
   (c36 rf y26.1 ([109, 111, 100] : List UInt8)).bind fun (y27 : (List (Int × List UInt8 × Int) × Int × Int × Int × Int) × Bool) =>
   bif y27.2 then
   (c24 rf (y27.1.1, IntKind.i64.wrap (y27.1.2.1 + 1), y27.1.2.2)).bind fun (y28 : (List (Int × List UInt8 × Int) × Int × Int × Int × Int) × XL) =>
   (c42 rf y28.1 18 d2 y28.2).bind fun (y29 : (List (Int × List UInt8 × Int) × Int × Int × Int × Int) × XL) =>
   k20 rb y29.1 y29.2
   else
   (c24 rf (y27.1.1, IntKind.i64.wrap (y27.1.2.1 + 1), y27.1.2.2)).bind fun (y30 : (List (Int × List UInt8 × Int) × Int × Int × Int × Int) × XL) =>
   (c42 rf y30.1 17 d2 y30.2).bind fun (y31 : (List (Int × List UInt8 × Int) × Int × Int × Int × Int) × XL) =>
   k20 rb y31.1 y31.2
   else
   (c36 rf y26.1 ([109, 111, 100] : List UInt8)).bind fun (y32 : (List (Int × List UInt8 × Int) × Int × Int × Int × Int) × Bool) =>
   bif y32.2 then
   (c24 rf (y32.1.1, IntKind.i64.wrap (y32.1.2.1 + 1), y32.1.2.2)).bind fun (y33 : (List (Int × List UInt8 × Int) × Int × Int × Int × Int) × XL) =>
   (c42 rf y33.1 18 d2 y33.2).bind fun (y34 : (List (Int × List UInt8 × Int) × Int × Int × Int × Int) × XL) =>
   k20 rb y34.1 y34.2
   else
   (c24 rf (y32.1.1, IntKind.i64.wrap (y32.1.2.1 + 1), y32.1.2.2)).bind fun (y35 : (List (Int × List UInt8 × Int) × Int × Int × Int × Int) × XL) =>
   (c42 rf y35.1 16 d2 y35.2).bind fun (y36 : (List (Int × List UInt8 × Int) × Int × Int × Int × Int) × XL) =>
   k20 rb y36.1 y36.2
   else
   some (y25.1, d2)
theorem eb20 (rf : T.RF) (rb : T.RB) (d1 : List (Int × List UInt8 × Int) × Int × Int × Int × Int) (d2 : XL) : T.stepB rf rb 20 (d1, d2) = b20 rf rb d1 d2 := by kernel_rfl
noncomputable def r23 (rf : T.RF) (rb : T.RB) (d1 : List (Int × List UInt8 × Int) × Int × Int × Int × Int) : Option ((List (Int × List UInt8 × Int) × Int × Int × Int × Int) × XL) :=
 (c24 rf d1).bind fun (y1 : (List (Int × List UInt8 × Int) × Int × Int × Int × Int) × XL) =>
 (k20 rb y1.1 y1.2).bind fun (z2 : (List (Int × List UInt8 × Int) × Int × Int × Int × Int) × XL) =>
 some z2
theorem er23 (rf : T.RF) (rb : T.RB) (d1 : List (Int × List UInt8 × Int) × Int × Int × Int × Int) : T.stepF rf rb 23 d1 = r23 rf rb d1 := by kernel_rfl
noncomputable def b22 (rf : T.RF) (rb : T.RB) (d1 : List (Int × List UInt8 × Int) × Int × Int × Int × Int) (d2 : XL) : Option ((List (Int × List UInt8 × Int) × Int × Int × Int × Int) × XL) :=
 (c36 rf d1 ([43] : List UInt8)).bind fun (y1 : (List (Int × List UInt8 × Int) × Int × Int × Int × Int) × Bool) =>
 bif y1.2 then
  (c36 rf y1.1 ([45] : List UInt8)).bind fun (y2 : (List (Int × List UInt8 × Int) × Int × Int × Int × Int) × Bool) =>
  bif y2.2 then
   (c23 rf (y2.1.1, IntKind.i64.wrap (y2.1.2.1 + 1), y2.1.2.2)).bind fun (y3 : (List (Int × List UInt8 × Int) × Int × Int × Int × Int) × XL) =>
   (c42 rf y3.1 15 d2 y3.2).bind fun (y4 : (List (Int × List UInt8 × Int) × Int × Int × Int × Int) × XL) =>
   k22 rb y4.1 y4.2
  else
   (c23 rf (y2.1.1, IntKind.i64.wrap (y2.1.2.1 + 1), y2.1.2.2)).bind fun (y5 : (List (Int × List UInt8 × Int) × Int × Int × Int × Int) × XL) =>
   (c42 rf y5.1 14 d2 y5.2).bind fun (y6 : (List (Int × List UInt8 × Int) × Int × Int × Int × Int) × XL) =>
   k22 rb y6.1 y6.2
 else
  (c36 rf y1.1 ([45] : List UInt8)).bind fun (y7 : (List (Int × List UInt8 × Int) × Int × Int × Int × Int) × Bool) =>
  bif y7.2 then
   (c36 rf y7.1 ([45] : List UInt8)).bind fun (y8 : (List (Int × List UInt8 × Int) × Int × Int × Int × Int) × Bool) =>
   bif y8.2 then
   (c23 rf (y8.1.1, IntKind.i64.wrap (y8.1.2.1 + 1), y8.1.2.2)).bind fun (y9 : (List (Int × List UInt8 × Int) × Int × Int × Int × Int) × XL) =>
   (c42 rf y9.1 15 d2 y9.2).bind fun (y10 : (List (Int × List UInt8 × Int) × Int × Int × Int × Int) × XL) =>
   k22 rb y10.1 y10.2
   else
   (c23 rf (y8.1.1, IntKind.i64.wrap (y8.1.2.1 + 1), y8.1.2.2)).bind fun (y11 : (List (Int × List UInt8 × Int) × Int × Int × Int × Int) × XL) =>
   (c42 rf y11.1 14 d2 y11.2).bind fun (y12 : (List (Int × List UInt8 × Int) × Int × Int × Int × Int) × XL) =>
   k22 rb y12.1 y12.2
  else
   some (y7.1, d2)
theorem eb22 (rf : T.RF) (rb : T.RB) (d1 : List (Int × List UInt8 × Int) × Int × Int × Int × Int) (d2 : XL) : T.stepB rf rb 22 (d1, d2) = b22 rf rb d1 d2 := by kernel_rfl
noncomputable def r22 (rf : T.RF) (rb : T.RB) (d1 : List (Int × List UInt8 × Int) × Int × Int × Int × Int) : Option ((List (Int × List UInt8 × Int) × Int × Int × Int × Int) × XL) :=
 (c23 rf d1).bind fun (y1 : (List (Int × List UInt8 × Int) × Int × Int × Int × Int) × XL) =>
 (k22 rb y1.1 y1.2).bind fun (z2 : (List (Int × List UInt8 × Int) × Int × Int × Int × Int) × XL) =>
 some z2
theorem er22 (rf : T.RF) (rb : T.RB) (d1 : List (Int × List UInt8 × Int) × Int × Int × Int × Int) : T.stepF rf rb 22 d1 = r22 rf rb d1 := by kernel_rfl
noncomputable def r21 (rf : T.RF) (rb : T.RB) (d1 : List (Int × List UInt8 × Int) × Int × Int × Int × Int) : Option ((List (Int × List UInt8 × Int) × Int × Int × Int × Int) × XL) :=
 (c22 rf d1).bind fun (y1 : (List (Int × List UInt8 × Int) × Int × Int × Int × Int) × XL) =>
 (c35 rf y1.1 ([61] : List UInt8)).bind fun (y2 : (List (Int × List UInt8 × Int) × Int × Int × Int × Int) × Bool) =>
 bif y2.2 then
  (c22 rf y2.1).bind fun (y3 : (List (Int × List UInt8 × Int) × Int × Int × Int × Int) × XL) =>
  (c42 rf y3.1 10 y1.2 y3.2).bind fun (y4 : (List (Int × List UInt8 × Int) × Int × Int × Int × Int) × XL) =>
  some y4
 else
  (c35 rf y2.1 ([60, 62] : List UInt8)).bind fun (y5 : (List (Int × List UInt8 × Int) × Int × Int × Int × Int) × Bool) =>
  bif y5.2 then
   (c22 rf y5.1).bind fun (y6 : (List (Int × List UInt8 × Int) × Int × Int × Int × Int) × XL) =>
   (c42 rf y6.1 11 y1.2 y6.2).bind fun (y7 : (List (Int × List UInt8 × Int) × Int × Int × Int × Int) × XL) =>
   some y7
  else
   (c35 rf y5.1 ([60] : List UInt8)).bind fun (y8 : (List (Int × List UInt8 × Int) × Int × Int × Int × Int) × Bool) =>
   bif y8.2 then
   (c22 rf y8.1).bind fun (y9 : (List (Int × List UInt8 × Int) × Int × Int × Int × Int) × XL) =>
   (c42 rf y9.1 12 y1.2 y9.2).bind fun (y10 : (List (Int × List UInt8 × Int) × Int × Int × Int × Int) × XL) =>
   some y10
   else
   (c35 rf y8.1 ([60, 61] : List UInt8)).bind fun (y11 : (List (Int × List UInt8 × Int) × Int × Int × Int × Int) × Bool) =>
   bif y11.2 then
   (c22 rf y11.1).bind fun (y12 : (List (Int × List UInt8 × Int) × Int × Int × Int × Int) × XL) =>
   (c42 rf y12.1 13 y1.2 y12.2).bind fun (y13 : (List (Int × List UInt8 × Int) × Int × Int × Int × Int) × XL) =>
   some y13
   else
   (c35 rf y11.1 ([62] : List UInt8)).bind fun (y14 : (List (Int × List UInt8 × Int) × Int × Int × Int × Int) × Bool) =>
   bif y14.2 then
   (c22 rf y14.1).bind fun (y15 : (List (Int × List UInt8 × Int) × Int × Int × Int × Int) × XL) =>
   (c42 rf y15.1 12 y15.2 y1.2).bind fun (y16 : (List (Int × List UInt8 × Int) × Int × Int × Int × Int) × XL) =>
   some y16
   else
   (c35 rf y14.1 ([62, 61] : List UInt8)).bind fun (y17 : (List (Int × List UInt8 × Int) × Int × Int × Int × Int) × Bool) =>
   bif y17.2 then
   (c22 rf y17.1).bind fun (y18 : (List (Int × List UInt8 × Int) × Int × Int × Int × Int) × XL) =>
   (c42 rf y18.1 13 y18.2 y1.2).bind fun (y19 : (List (Int × List UInt8 × Int) × Int × Int × Int × Int) × XL) =>
   some y19
   else
   some (y17.1, y1.2)
theorem er21 (rf : T.RF) (rb : T.RB) (d1 : List (Int × List UInt8 × Int) × Int × Int × Int × Int) : T.stepF rf rb 21 d1 = r21 rf rb d1 := by kernel_rfl
noncomputable def b24 (rf : T.RF) (rb : T.RB) (d1 : List (Int × List UInt8 × Int) × Int × Int × Int × Int) (d2 : XL) : Option ((List (Int × List UInt8 × Int) × Int × Int × Int × Int) × XL) :=
 (c35 rf d1 ([97, 110, 100] : List UInt8)).bind fun (y1 : (List (Int × List UInt8 × Int) × Int × Int × Int × Int) × Bool) =>
 bif y1.2 then
  (c21 rf y1.1).bind fun (y2 : (List (Int × List UInt8 × Int) × Int × Int × Int × Int) × XL) =>
  (c42 rf y2.1 6 d2 y2.2).bind fun (y3 : (List (Int × List UInt8 × Int) × Int × Int × Int × Int) × XL) =>
  k24 rb y3.1 y3.2
 else
  some (y1.1, d2)
theorem eb24 (rf : T.RF) (rb : T.RB) (d1 : List (Int × List UInt8 × Int) × Int × Int × Int × Int) (d2 : XL) : T.stepB rf rb 24 (d1, d2) = b24 rf rb d1 d2 := by kernel_rfl
noncomputable def r20 (rf : T.RF) (rb : T.RB) (d1 : List (Int × List UInt8 × Int) × Int × Int × Int × Int) : Option ((List (Int × List UInt8 × Int) × Int × Int × Int × Int) × XL) :=
 (c21 rf d1).bind fun (y1 : (List (Int × List UInt8 × Int) × Int × Int × Int × Int) × XL) =>
 (k24 rb y1.1 y1.2).bind fun (z2 : (List (Int × List UInt8 × Int) × Int × Int × Int × Int) × XL) =>
 some z2
theorem er20 (rf : T.RF) (rb : T.RB) (d1 : List (Int × List UInt8 × Int) × Int × Int × Int × Int) : T.stepF rf rb 20 d1 = r20 rf rb d1 := by kernel_rfl
noncomputable def b26 (rf : T.RF) (rb : T.RB) (d1 : List (Int × List UInt8 × Int) × Int × Int × Int × Int) (d2 : XL) : Option ((List (Int × List UInt8 × Int) × Int × Int × Int × Int) × XL) :=
 (c36 rf d1 ([111, 114] : List UInt8)).bind fun (y1 : (List (Int × List UInt8 × Int) × Int × Int × Int × Int) × Bool) =>
 bif y1.2 then
  (c36 rf y1.1 ([120, 111, 114] : List UInt8)).bind fun (y2 : (List (Int × List UInt8 × Int) × Int × Int × Int × Int) × Bool) =>
  bif y2.2 then
   (c20 rf (y2.1.1, IntKind.i64.wrap (y2.1.2.1 + 1), y2.1.2.2)).bind fun (y3 : (List (Int × List UInt8 × Int) × Int × Int × Int × Int) × XL) =>
   (c42 rf y3.1 8 d2 y3.2).bind fun (y4 : (List (Int × List UInt8 × Int) × Int × Int × Int × Int) × XL) =>
   k26 rb y4.1 y4.2
  else
   (c20 rf (y2.1.1, IntKind.i64.wrap (y2.1.2.1 + 1), y2.1.2.2)).bind fun (y5 : (List (Int × List UInt8 × Int) × Int × Int × Int × Int) × XL) =>
   (c42 rf y5.1 7 d2 y5.2).bind fun (y6 : (List (Int × List UInt8 × Int) × Int × Int × Int × Int) × XL) =>
   k26 rb y6.1 y6.2
 else
  (c36 rf y1.1 ([120, 111, 114] : List UInt8)).bind fun (y7 : (List (Int × List UInt8 × Int) × Int × Int × Int × Int) × Bool) =>
  bif y7.2 then
   (c36 rf y7.1 ([120, 111, 114] : List UInt8)).bind fun (y8 : (List (Int × List UInt8 × Int) × Int × Int × Int × Int) × Bool) =>
   bif y8.2 then
   (c20 rf (y8.1.1, IntKind.i64.wrap (y8.1.2.1 + 1), y8.1.2.2)).bind fun (y9 : (List (Int × List UInt8 × Int) × Int × Int × Int × Int) × XL) =>
   (c42 rf y9.1 8 d2 y9.2).bind fun (y10 : (List (Int × List UInt8 × Int) × Int × Int × Int × Int) × XL) =>
   k26 rb y10.1 y10.2
   else
   (c20 rf (y8.1.1, IntKind.i64.wrap (y8.1.2.1 + 1), y8.1.2.2)).bind fun (y11 : (List (Int × List UInt8 × Int) × Int × Int × Int × Int) × XL) =>
   (c42 rf y11.1 7 d2 y11.2).bind fun (y12 : (List (Int × List UInt8 × Int) × Int × Int × Int × Int) × XL) =>
   k26 rb y12.1 y12.2
  else
   some (y7.1, d2)
theorem eb26 (rf : T.RF) (rb : T.RB) (d1 : List (Int × List UInt8 × Int) × Int × Int × Int × Int) (d2 : XL) : T.stepB rf rb 26 (d1, d2) = b26 rf rb d1 d2 := by kernel_rfl
noncomputable def r19 (rf : T.RF) (rb : T.RB) (d1 : List (Int × List UInt8 × Int) × Int × Int × Int × Int) : Option ((List (Int × List UInt8 × Int) × Int × Int × Int × Int) × XL) :=
 (c20 rf d1).bind fun (y1 : (List (Int × List UInt8 × Int) × Int × Int × Int × Int) × XL) =>
 (k26 rb y1.1 y1.2).bind fun (z2 : (List (Int × List UInt8 × Int) × Int × Int × Int × Int) × XL) =>
 some z2
theorem er19 (rf : T.RF) (rb : T.RB) (d1 : List (Int × List UInt8 × Int) × Int × Int × Int × Int) : T.stepF rf rb 19 d1 = r19 rf rb d1 := by kernel_rfl
noncomputable def b28 (rf : T.RF) (rb : T.RB) (d1 : List (Int × List UInt8 × Int) × Int × Int × Int × Int) (d2 : XL) : Option ((List (Int × List UInt8 × Int) × Int × Int × Int × Int) × XL) :=
 (c35 rf d1 ([115, 105, 110, 99, 101] : List UInt8)).bind fun (y1 : (List (Int × List UInt8 × Int) × Int × Int × Int × Int) × Bool) =>
 bif y1.2 then
  (c19 rf y1.1).bind fun (y2 : (List (Int × List UInt8 × Int) × Int × Int × Int × Int) × XL) =>
  (c42 rf y2.1 20 d2 y2.2).bind fun (y3 : (List (Int × List UInt8 × Int) × Int × Int × Int × Int) × XL) =>
  k28 rb y3.1 y3.2
 else
  some (y1.1, d2)
theorem eb28 (rf : T.RF) (rb : T.RB) (d1 : List (Int × List UInt8 × Int) × Int × Int × Int × Int) (d2 : XL) : T.stepB rf rb 28 (d1, d2) = b28 rf rb d1 d2 := by kernel_rfl
noncomputable def r18 (rf : T.RF) (rb : T.RB) (d1 : List (Int × List UInt8 × Int) × Int × Int × Int × Int) : Option ((List (Int × List UInt8 × Int) × Int × Int × Int × Int) × XL) :=
 (c19 rf d1).bind fun (y1 : (List (Int × List UInt8 × Int) × Int × Int × Int × Int) × XL) =>
 (k28 rb y1.1 y1.2).bind fun (z2 : (List (Int × List UInt8 × Int) × Int × Int × Int × Int) × XL) =>
 some z2
theorem er18 (rf : T.RF) (rb : T.RB) (d1 : List (Int × List UInt8 × Int) × Int × Int × Int × Int) : T.stepF rf rb 18 d1 = r18 rf rb d1 := by kernel_rfl
noncomputable def r17 (rf : T.RF) (rb : T.RB) (d1 : List (Int × List UInt8 × Int) × Int × Int × Int × Int) : Option ((List (Int × List UInt8 × Int) × Int × Int × Int × Int) × XL) :=
 (c18 rf d1).bind fun (y1 : (List (Int × List UInt8 × Int) × Int × Int × Int × Int) × XL) =>
 (c35 rf y1.1 ([61, 62] : List UInt8)).bind fun (y2 : (List (Int × List UInt8 × Int) × Int × Int × Int × Int) × Bool) =>
 bif y2.2 then
  (c17 rf y2.1).bind fun (y3 : (List (Int × List UInt8 × Int) × Int × Int × Int × Int) × XL) =>
  (c42 rf y3.1 9 y1.2 y3.2).bind fun (y4 : (List (Int × List UInt8 × Int) × Int × Int × Int × Int) × XL) =>
  some y4
 else
  some (y2.1, y1.2)
theorem er17 (rf : T.RF) (rb : T.RB) (d1 : List (Int × List UInt8 × Int) × Int × Int × Int × Int) : T.stepF rf rb 17 d1 = r17 rf rb d1 := by kernel_rfl
noncomputable def r16 (rf : T.RF) (rb : T.RB) (d1 : List (Int × List UInt8 × Int) × Int × Int × Int × Int) : Option ((List (Int × List UInt8 × Int) × Int × Int × Int × Int) × XL) :=
 (c17 rf d1).bind fun (y1 : (List (Int × List UInt8 × Int) × Int × Int × Int × Int) × XL) =>
 (c35 rf y1.1 ([45, 62] : List UInt8)).bind fun (y2 : (List (Int × List UInt8 × Int) × Int × Int × Int × Int) × Bool) =>
 bif y2.2 then
  (c16 rf y2.1).bind fun (y3 : (List (Int × List UInt8 × Int) × Int × Int × Int × Int) × XL) =>
  (c42 rf y3.1 19 y1.2 y3.2).bind fun (y4 : (List (Int × List UInt8 × Int) × Int × Int × Int × Int) × XL) =>
  some y4
 else
  some (y2.1, y1.2)
theorem er16 (rf : T.RF) (rb : T.RB) (d1 : List (Int × List UInt8 × Int) × Int × Int × Int × Int) : T.stepF rf rb 16 d1 = r16 rf rb d1 := by kernel_rfl
noncomputable def b36 (rf : T.RF) (rb : T.RB) (d1 : List Int) (d2 : XL) (d3 : Int) : Option (List Int) :=
 bif decide (d3 < (((d2.length : Nat) : Int))) then
  bif inb d3 d1.length then
   bif Nat.blt d3.toNat d1.length then
   bif inb d3 d2.length then
   (nth d2 d3.toNat).bind fun (x1 : XN) =>
   (c30 rf x1).bind fun (y2 : List Int) =>
   (k37 rb (setNth d1 d3.toNat 1) y2 d3 0).bind fun (z3 : List Int × List Int) =>
   k36 rb z3.1 d2 (IntKind.i64.wrap (d3 + 1))
   else
   none
   else
   none
  else
   none
 else
  some d1
theorem eb36 (rf : T.RF) (rb : T.RB) (d1 : List Int) (d2 : XL) (d3 : Int) : T.stepB rf rb 36 (d1, d2, d3) = b36 rf rb d1 d2 d3 := by kernel_rfl
noncomputable def b37q (rf : T.RF) (rb : T.RB) (d1 : List Int) (d2 : List Int) (d3 : Int) (d4 : Int) : Option (List Int × List Int) :=
 bif decide (d4 < (((d2.length : Nat) : Int))) then
  bif inb d4 d2.length then
   (nth d2 d4.toNat).bind fun (x1 : Int) =>
   bif decide (x1 ≥ 0) then
   bif inb d4 d2.length then
   (nth d2 d4.toNat).bind fun (x2 : Int) =>
   bif decide (x2 < d3) then
   bif inb d3 d1.length then
   bif inb d4 d2.length then
   (nth d2 d4.toNat).bind fun (x3 : Int) =>
   bif inb x3 d1.length then
   agree (
   (nth d1 d3.toNat).bind fun (x4 : Int) =>
   (nth d1 x3.toNat).bind fun (x5 : Int) =>
   bif inb d3 d1.length then
   bif Nat.blt d3.toNat d1.length then
   k37 rb (setNth d1 d3.toNat (if (IntKind.i64.wrap (x5 + 1)) > x4 then (IntKind.i64.wrap (x5 + 1)) else x4)) d2 d3 (IntKind.i64.wrap (d4 + 1))
   else
   none
   else
   none
   ) (
   (nth d1 x3.toNat).bind fun (x4 : Int) =>
   (nth d1 d3.toNat).bind fun (x5 : Int) =>
   bif inb d3 d1.length then
   bif Nat.blt d3.toNat d1.length then
   k37 rb (setNth d1 d3.toNat (if (IntKind.i64.wrap (x4 + 1)) > x5 then (IntKind.i64.wrap (x4 + 1)) else x5)) d2 d3 (IntKind.i64.wrap (d4 + 1))
   else
   none
   else
   none
   )
   else
   none
   else
   none
   else
   none
   else
   k37 rb d1 d2 d3 (IntKind.i64.wrap (d4 + 1))
   else
   none
   else
   k37 rb d1 d2 d3 (IntKind.i64.wrap (d4 + 1))
  else
   none
 else
  some (d1, d2)
noncomputable def b37 (rf : T.RF) (rb : T.RB) (d1 : List Int) (d2 : List Int) (d3 : Int) (d4 : Int) : Option (List Int × List Int) :=
 bif decide (d4 < (((d2.length : Nat) : Int))) then
  bif inb d4 d2.length then
   (nth d2 d4.toNat).bind fun (x1 : Int) =>
   bif decide (x1 ≥ 0) then
   bif inb d4 d2.length then
   (nth d2 d4.toNat).bind fun (x2 : Int) =>
   bif decide (x2 < d3) then
   bif inb d3 d1.length then
   bif inb d4 d2.length then
   (nth d2 d4.toNat).bind fun (x3 : Int) =>
   bif inb x3 d1.length then
   (nth d1 d3.toNat).bind fun (x4 : Int) =>
   (nth d1 x3.toNat).bind fun (x5 : Int) =>
   bif inb d3 d1.length then
   bif Nat.blt d3.toNat d1.length then
   k37 rb (setNth d1 d3.toNat (if (IntKind.i64.wrap (x5 + 1)) > x4 then (IntKind.i64.wrap (x5 + 1)) else x4)) d2 d3 (IntKind.i64.wrap (d4 + 1))
   else
   none
   else
   none
   else
   none
   else
   none
   else
   none
   else
   k37 rb d1 d2 d3 (IntKind.i64.wrap (d4 + 1))
   else
   none
   else
   k37 rb d1 d2 d3 (IntKind.i64.wrap (d4 + 1))
  else
   none
 else
  some (d1, d2)
theorem eb37 (rf : T.RF) (rb : T.RB) (d1 : List Int) (d2 : List Int) (d3 : Int) (d4 : Int) : T.stepB rf rb 37 (d1, d2, d3, d4) = b37q rf rb d1 d2 d3 d4 := by kernel_rfl
theorem sb37 (rf : T.RF) (rb : T.RB) (d1 : List Int) (d2 : List Int) (d3 : Int) (d4 : Int) : b37q rf rb d1 d2 d3 d4 = b37 rf rb d1 d2 d3 d4 := by
 unfold b37q b37; simp only [agN_eq, agree_self, agree_swap]
noncomputable def r43 (rf : T.RF) (rb : T.RB) (d1 : XL) : Option Int :=
 bif inb' (((d1.length : Nat) : Int)) most then
  bif inb' (((d1.length : Nat) : Int)) d1.length then
   (k36 rb (List.replicate d1.length (0 : Int)) d1 0).bind fun (z1 : List Int) =>
   bif (((d1.length : Nat) : Int)) == 0 then
   some 0
   else
   bif inb (IntKind.i64.wrap ((((d1.length : Nat) : Int)) - 1)) z1.length then
   (nth z1 (IntKind.i64.wrap ((((d1.length : Nat) : Int)) - 1)).toNat).bind fun (x2 : Int) =>
   some x2
   else
   none
  else
   none
 else
  none
theorem er43 (rf : T.RF) (rb : T.RB) (d1 : XL) : T.stepF rf rb 43 d1 = r43 rf rb d1 := by kernel_rfl
noncomputable def b39 (rf : T.RF) (rb : T.RB) (d1 : Int × Int) (d2 : List (Int × List UInt8 × Int)) (d3 : Int) : Option (((Int × Int) × XL × Int) ⊕ ((Int × Int) × XL × Int)) :=
 (c16 rf (d2, d3, 0, 0, 0)).bind fun (y1 : (List (Int × List UInt8 × Int) × Int × Int × Int × Int) × XL) =>
 bif y1.1.2.2.2.1 != 0 then
  some (.inl (y1.1.2.2.2, [], 0))
 else
 bif decide ((((y1.2.length : Nat) : Int)) > 5000) then
  (c26 rf d2 d3).bind fun (y2 : Int) =>
  some (.inl ((7, y2), [], 0))
 else
  (c43 rf y1.2).bind fun (y3 : Int) =>
  bif decide (y3 > 40) then
   (c26 rf d2 d3).bind fun (y4 : Int) =>
   some (.inl ((6, y4), [], 0))
  else
   some (.inr ((0, 0), y1.2, y1.1.2.1))
theorem eb39 (rf : T.RF) (rb : T.RB) (d1 : Int × Int) (d2 : List (Int × List UInt8 × Int)) (d3 : Int) : T.stepB rf rb 39 (d1, d2, d3) = b39 rf rb d1 d2 d3 := by kernel_rfl
noncomputable def r15 (rf : T.RF) (rb : T.RB) (d1 : List (Int × List UInt8 × Int)) (d2 : Int) : Option (XL × Int × Int × Int) :=
 bif decide (d2 < 0) then
  (k39 rb (0, 0) d1 (((d1.length : Nat) : Int))).bind fun (z1 : ((Int × Int) × XL × Int) ⊕ ((Int × Int) × XL × Int)) =>
  match z1 with
  | .inl u2 =>
    some (u2.2.1, u2.2.2, u2.1)
  | .inr w3 =>
    some (w3.2.1, w3.2.2, w3.1)
 else
 bif decide (d2 > (((d1.length : Nat) : Int))) then
  (k39 rb (0, 0) d1 (((d1.length : Nat) : Int))).bind fun (z4 : ((Int × Int) × XL × Int) ⊕ ((Int × Int) × XL × Int)) =>
  match z4 with
  | .inl u5 =>
    some (u5.2.1, u5.2.2, u5.1)
  | .inr w6 =>
    some (w6.2.1, w6.2.2, w6.1)
 else
  (k39 rb (0, 0) d1 d2).bind fun (z7 : ((Int × Int) × XL × Int) ⊕ ((Int × Int) × XL × Int)) =>
  match z7 with
  | .inl u8 =>
    some (u8.2.1, u8.2.2, u8.1)
  | .inr w9 =>
    some (w9.2.1, w9.2.2, w9.1)
theorem er15 (rf : T.RF) (rb : T.RB) (d1 : List (Int × List UInt8 × Int)) (d2 : Int) : T.stepF rf rb 15 (d1, d2) = r15 rf rb d1 d2 := by kernel_rfl
noncomputable def r3 (rf : T.RF) (rb : T.RB) (d1 : List UInt8) : Option (XL × Int × Int) :=
 (c4 rf d1).bind fun (y1 : List (Int × List UInt8 × Int) × Int × Int) =>
 bif y1.2.1 != 0 then
  some ([], y1.2)
 else
  (c15 rf y1.1 0).bind fun (y2 : XL × Int × Int × Int) =>
  bif y2.2.2.1 != 0 then
   some ([], y2.2.2)
  else
  bif decide (y2.2.1 < (((y1.1.length : Nat) : Int))) then
   bif inb y2.2.1 y1.1.length then
   (nth y1.1 y2.2.1.toNat).bind fun (x3 : Int × List UInt8 × Int) =>
   some ([], 5, x3.2.2)
   else
   none
  else
   some (y2.1, 0, 0)
theorem er3 (rf : T.RF) (rb : T.RB) (d1 : List UInt8) : T.stepF rf rb 3 d1 = r3 rf rb d1 := by kernel_rfl
noncomputable def r49 (rf : T.RF) (rb : T.RB) (d1 : XN) : Option (List Int) :=
 bif d1.1 == 26 then
  some [d1.2.1, d1.2.2.1, d1.2.2.2.1]
 else
 bif d1.1 == 28 then
  bif d1.2.2.1 != (-1) then
   some [d1.2.2.1, d1.2.1]
  else
  bif d1.1 == 27 then
   bif d1.2.1 == (-1) then
   some []
   else
   bif decide (d1.1 ≥ 6) then
   bif decide (d1.1 ≤ 20) then
   some [d1.2.1, d1.2.2.1]
   else
   bif d1.1 == 4 then
   some [d1.2.1]
   else
   bif d1.1 == 5 then
   some [d1.2.1]
   else
   bif decide (d1.1 ≥ 21) then
   bif decide (d1.1 ≤ 28) then
   some [d1.2.1]
   else
   some []
   else
   some []
   else
   bif d1.1 == 4 then
   some [d1.2.1]
   else
   bif d1.1 == 5 then
   some [d1.2.1]
   else
   bif decide (d1.1 ≥ 21) then
   bif decide (d1.1 ≤ 28) then
   some [d1.2.1]
   else
   some []
   else
   some []
  else
  bif decide (d1.1 ≥ 6) then
   bif decide (d1.1 ≤ 20) then
   some [d1.2.1, d1.2.2.1]
   else
   bif d1.1 == 4 then
   some [d1.2.1]
   else
   bif d1.1 == 5 then
   some [d1.2.1]
   else
   bif decide (d1.1 ≥ 21) then
   bif decide (d1.1 ≤ 28) then
   some [d1.2.1]
   else
   some []
   else
   some []
  else
  bif d1.1 == 4 then
   some [d1.2.1]
  else
  bif d1.1 == 5 then
   some [d1.2.1]
  else
  bif decide (d1.1 ≥ 21) then
   bif decide (d1.1 ≤ 28) then
   some [d1.2.1]
   else
   some []
  else
   some []
 else
 bif d1.1 == 27 then
  bif d1.2.1 == (-1) then
   some []
  else
  bif decide (d1.1 ≥ 6) then
   bif decide (d1.1 ≤ 20) then
   some [d1.2.1, d1.2.2.1]
   else
   bif d1.1 == 4 then
   some [d1.2.1]
   else
   bif d1.1 == 5 then
   some [d1.2.1]
   else
   bif decide (d1.1 ≥ 21) then
   bif decide (d1.1 ≤ 28) then
   some [d1.2.1]
   else
   some []
   else
   some []
  else
  bif d1.1 == 4 then
   some [d1.2.1]
  else
  bif d1.1 == 5 then
   some [d1.2.1]
  else
  bif decide (d1.1 ≥ 21) then
   bif decide (d1.1 ≤ 28) then
   some [d1.2.1]
   else
   some []
  else
   some []
 else
 bif decide (d1.1 ≥ 6) then
  bif decide (d1.1 ≤ 20) then
   some [d1.2.1, d1.2.2.1]
  else
  bif d1.1 == 4 then
   some [d1.2.1]
  else
  bif d1.1 == 5 then
   some [d1.2.1]
  else
  bif decide (d1.1 ≥ 21) then
   bif decide (d1.1 ≤ 28) then
   some [d1.2.1]
   else
   some []
  else
   some []
 else
 bif d1.1 == 4 then
  some [d1.2.1]
 else
 bif d1.1 == 5 then
  some [d1.2.1]
 else
 bif decide (d1.1 ≥ 21) then
  bif decide (d1.1 ≤ 28) then
   some [d1.2.1]
  else
   some []
 else
  some []
theorem er49 (rf : T.RF) (rb : T.RB) (d1 : XN) : T.stepF rf rb 49 d1 = r49 rf rb d1 := by kernel_rfl
noncomputable def r50 (rf : T.RF) (rb : T.RB) (d1 : XN) (d2 : List Int) : Option XN :=
 bif d1.1 == 28 then
  bif (((d2.length : Nat) : Int)) == 2 then
   bif inb 0 d2.length then
   (nth d2 0).bind fun (x1 : Int) =>
   bif inb 1 d2.length then
   (nth d2 1).bind fun (x2 : Int) =>
   some (d1.1, x2, x1, d1.2.2.2)
   else
   none
   else
   none
  else
  bif decide (0 < (((d2.length : Nat) : Int))) then
   bif inb 0 d2.length then
   (nth d2 0).bind fun (x3 : Int) =>
   bif decide (1 < (((d2.length : Nat) : Int))) then
   bif inb 1 d2.length then
   (nth d2 1).bind fun (x4 : Int) =>
   bif decide (2 < (((d2.length : Nat) : Int))) then
   bif inb 2 d2.length then
   (nth d2 2).bind fun (x5 : Int) =>
   some (d1.1, x3, x4, x5, d1.2.2.2.2)
   else
   none
   else
   some (d1.1, x3, x4, d1.2.2.2)
   else
   none
   else
   bif decide (2 < (((d2.length : Nat) : Int))) then
   bif inb 2 d2.length then
   (nth d2 2).bind fun (x6 : Int) =>
   some (d1.1, x3, d1.2.2.1, x6, d1.2.2.2.2)
   else
   none
   else
   some (d1.1, x3, d1.2.2)
   else
   none
  else
  bif decide (1 < (((d2.length : Nat) : Int))) then
   bif inb 1 d2.length then
   (nth d2 1).bind fun (x7 : Int) =>
   bif decide (2 < (((d2.length : Nat) : Int))) then
   bif inb 2 d2.length then
   (nth d2 2).bind fun (x8 : Int) =>
   some (d1.1, d1.2.1, x7, x8, d1.2.2.2.2)
   else
   none
   else
   some (d1.1, d1.2.1, x7, d1.2.2.2)
   else
   none
  else
  bif decide (2 < (((d2.length : Nat) : Int))) then
   bif inb 2 d2.length then
   (nth d2 2).bind fun (x9 : Int) =>
   some (d1.1, d1.2.1, d1.2.2.1, x9, d1.2.2.2.2)
   else
   none
  else
   some d1
 else
 bif decide (0 < (((d2.length : Nat) : Int))) then
  bif inb 0 d2.length then
   (nth d2 0).bind fun (x10 : Int) =>
   bif decide (1 < (((d2.length : Nat) : Int))) then
   bif inb 1 d2.length then
   (nth d2 1).bind fun (x11 : Int) =>
   bif decide (2 < (((d2.length : Nat) : Int))) then
   bif inb 2 d2.length then
   (nth d2 2).bind fun (x12 : Int) =>
   some (d1.1, x10, x11, x12, d1.2.2.2.2)
   else
   none
   else
   some (d1.1, x10, x11, d1.2.2.2)
   else
   none
   else
   bif decide (2 < (((d2.length : Nat) : Int))) then
   bif inb 2 d2.length then
   (nth d2 2).bind fun (x13 : Int) =>
   some (d1.1, x10, d1.2.2.1, x13, d1.2.2.2.2)
   else
   none
   else
   some (d1.1, x10, d1.2.2)
  else
   none
 else
 bif decide (1 < (((d2.length : Nat) : Int))) then
  bif inb 1 d2.length then
   (nth d2 1).bind fun (x14 : Int) =>
   bif decide (2 < (((d2.length : Nat) : Int))) then
   bif inb 2 d2.length then
   (nth d2 2).bind fun (x15 : Int) =>
   some (d1.1, d1.2.1, x14, x15, d1.2.2.2.2)
   else
   none
   else
   some (d1.1, d1.2.1, x14, d1.2.2.2)
  else
   none
 else
 bif decide (2 < (((d2.length : Nat) : Int))) then
  bif inb 2 d2.length then
   (nth d2 2).bind fun (x16 : Int) =>
   some (d1.1, d1.2.1, d1.2.2.1, x16, d1.2.2.2.2)
  else
   none
 else
  some d1
theorem er50 (rf : T.RF) (rb : T.RB) (d1 : XN) (d2 : List Int) : T.stepF rf rb 50 (d1, d2) = r50 rf rb d1 d2 := by kernel_rfl
noncomputable def b58q (rf : T.RF) (rb : T.RB) (d1 : XN) (d2 : Int) : Option (XN × Bool) :=
 agree (
  (c49 rf d1).bind fun (y1 : List Int) =>
  agN 1 (
   (c50 rf (d1.1, (-1), (-1), (-1), d1.2.2.2.2) y1).bind fun (y2 : XN) =>
   (k59 rb d1 y2 d2).bind fun (z3 : XN × XN × Bool) =>
   some (z3.1, z3.2.2)
  )
 ) (
  (c49 rf d1).bind fun (y1 : List Int) =>
  (c50 rf (d1.1, (-1), (-1), (-1), d1.2.2.2.2) y1).bind fun (y2 : XN) =>
  (k59 rb d1 y2 d2).bind fun (z3 : XN × XN × Bool) =>
  some (z3.1, z3.2.2)
 )
noncomputable def b58 (rf : T.RF) (rb : T.RB) (d1 : XN) (d2 : Int) : Option (XN × Bool) :=
 (c49 rf d1).bind fun (y1 : List Int) =>
 (c50 rf (d1.1, (-1), (-1), (-1), d1.2.2.2.2) y1).bind fun (y2 : XN) =>
 (k59 rb d1 y2 d2).bind fun (z3 : XN × XN × Bool) =>
 some (z3.1, z3.2.2)
theorem eb58 (rf : T.RF) (rb : T.RB) (d1 : XN) (d2 : Int) : T.stepB rf rb 58 (d1, d2) = b58q rf rb d1 d2 := by kernel_rfl
theorem sb58 (rf : T.RF) (rb : T.RB) (d1 : XN) (d2 : Int) : b58q rf rb d1 d2 = b58 rf rb d1 d2 := by
 unfold b58q b58; simp only [agN_eq, agree_self, agree_swap]
end Go.Proofs.YtadonikkibahnaaGreat.R
