/-
  OUR OWN, PRINTED BY A PROGRAM OF OURS (table2.py): the table of the functions, and what each comes to.
-/
import Derived.Test.YtoippcahbninnaaGreatDoorBmRun
import Derived.Test.YtoippcahbninnaaGreatDoorProg
import Derived.KernelRfl
import Derived.Test.YtoippcahbninnaaGreatDoorBmExt
namespace Go.Proofs.YtoippcahbninnaaGreatDoor.R
open Go Go.Bm Go.Proofs
set_option linter.unusedVariables false
set_option linter.unusedSimpArgs false
set_option maxRecDepth 100000

abbrev XN : Type := Int × Int × Int × Int × Int × List UInt8
abbrev XNc : CT := (.prod (.int .i64) (.prod (.int .i64) (.prod (.int .i64) (.prod (.int .i64) (.prod (.int .i64) .str)))))
abbrev XK : Type := Int × List UInt8 × Int
abbrev XKc : CT := (.prod (.int .i64) (.prod .str (.int .i64)))
noncomputable def tabs : Tabs := {
  tabL := [(3, .leaf (.int .i64 0)),
  (4, .leaf (.bool false)),
  (5, .leaf (.int .u8 0)),
  (9, .leaf (.str [])),
  (21, .leaf (.int .i32 0)),
  (23, .slice XNc 39),
  (30, .leaf (.int .i64 0)),
  (32, .struct [(0, 1, false), (1, 1, false)] [.int .i64 0, .int .i64 0]),
  (39, .struct [(0, 1, false), (1, 1, false), (2, 1, false), (3, 1, false), (4, 1, false), (5, 1, false)] [.int .i64 0, .int .i64 0, .int .i64 0, .int .i64 0, .int .i64 0, .str []]),
  (41, .slice XKc 59),
  (43, .struct [(0, 1, false), (1, 1, false)] [.nils, .nils]),
  (50, .struct [(0, 1, false), (1, 1, false)] [.str [], .int .i64 0]),
  (52, .slice .str 9),
  (53, .slice (.int .i64) 3),
  (59, .struct [(0, 1, false), (1, 1, false), (2, 1, false)] [.int .i64 0, .str [], .int .i64 0]),
  (67, .slice (.int .u8) 5),
  (79, .slice .bool 4),
  (83, .arr (.prod .str (.int .i64)) 28 true [.str [], .int .i64 0, .str [], .int .i64 0, .str [], .int .i64 0, .str [], .int .i64 0, .str [], .int .i64 0, .str [], .int .i64 0, .str [], .int .i64 0, .str [], .int .i64 0, .str [], .int .i64 0, .str [], .int .i64 0, .str [], .int .i64 0, .str [], .int .i64 0, .str [], .int .i64 0, .str [], .int .i64 0, .str [], .int .i64 0, .str [], .int .i64 0, .str [], .int .i64 0, .str [], .int .i64 0, .str [], .int .i64 0, .str [], .int .i64 0, .str [], .int .i64 0, .str [], .int .i64 0, .str [], .int .i64 0, .str [], .int .i64 0, .str [], .int .i64 0, .str [], .int .i64 0, .str [], .int .i64 0, .str [], .int .i64 0]),
  (89, .struct [(0, 1, false), (1, 1, false), (2, 1, false), (3, 2, true)] [.nils, .int .i64 0, .int .i64 0, .int .i64 0, .int .i64 0]),
  (109, .leaf (.int .u64 0)),
  (111, .leaf (.nilp)),
  (112, .slice .unit 111),
  (114, .slice (.list XNc) 23)]
  eqtL := [39]
  keysL := [(3, [0]), (4, [88]), (5, [93]), (6, [94]), (7, [95]), (8, [1]), (9, [43]), (10, [76]), (11, [44]), (12, [77]), (13, [75]), (14, [87]), (15, [73]), (16, [86]), (17, [2]), (18, [92]), (19, [89]), (20, [78]), (21, [64]), (22, [74]), (23, [82]), (24, [55]), (25, [56]), (26, [45]), (27, [53]), (28, [11]), (29, [65]), (30, [3]), (31, [14]), (32, [90]), (33, [79]), (34, [80]), (35, [29]), (36, [81]), (37, [42]), (38, [68]), (39, [67]), (40, [69]), (41, [71]), (42, [72]), (46, [83]), (47, [84]), (48, [85]), (49, [57]), (51, [58]), (52, [59]), (53, [46]), (54, [47]), (55, [49]), (56, [51]), (57, [54]), (58, [7]), (59, [9]), (60, [5]), (61, [66]), (62, [4]), (63, [15]), (64, [25]), (65, [91]), (67, [70]), (72, [60]), (73, [48]), (74, [50]), (75, [52]), (76, [10]), (77, [6]), (78, [8]), (79, [12]), (80, [16]), (81, [34]), (82, [41]), (83, [32]), (87, [61]), (88, [63]), (89, [13]), (90, [17]), (91, [35]), (92, [27]), (97, [62]), (98, [18]), (99, [28]), (100, [30]), (106, [19]), (107, [31]), (110, [20]), (111, [21]), (112, [22]), (113, [23]), (114, [24]), (115, [26]), (116, [33]), (117, [38]), (118, [39]), (119, [37]), (120, [40]), (121, [36])]
  extL := [57, 67, 74]
  gp := pkgG Tryz.prog 0 1
  gvL := [(0, ⟨(.list .str), wordsX⟩)]
  kinL := [⟨[], [.one (.pl (.list XNc)), .one (.pl (.int .i64))]⟩,
  ⟨[], []⟩,
  ⟨[], [.one (.pl .str)]⟩,
  ⟨[], [.one (.pl .str)]⟩,
  ⟨[], [.one (.pl .str), .one (.pl (.int .i64))]⟩,
  ⟨[], [.one (.pl (.int .u8))]⟩,
  ⟨[], [.one (.pl .str)]⟩,
  ⟨[], [.one (.pl (.int .u8))]⟩,
  ⟨[], [.one (.pl .str), .one (.pl (.int .i64))]⟩,
  ⟨[], [.one (.pl .str)]⟩,
  ⟨[], []⟩,
  ⟨[], [.one (.pl .str)]⟩,
  ⟨[], [.one (.pl .str)]⟩,
  ⟨[], []⟩,
  ⟨[], [.one (.pl (.list XKc)), .one (.pl (.int .i64))]⟩,
  ⟨[(true, .box [.pl (.prod (.list XKc) (.prod (.int .i64) (.prod (.int .i64) (.prod (.int .i64) (.int .i64)))))])], [.one (.ptr 0 0)]⟩,
  ⟨[(true, .box [.pl (.prod (.list XKc) (.prod (.int .i64) (.prod (.int .i64) (.prod (.int .i64) (.int .i64)))))])], [.one (.ptr 0 0)]⟩,
  ⟨[(true, .box [.pl (.prod (.list XKc) (.prod (.int .i64) (.prod (.int .i64) (.prod (.int .i64) (.int .i64)))))])], [.one (.ptr 0 0)]⟩,
  ⟨[(true, .box [.pl (.prod (.list XKc) (.prod (.int .i64) (.prod (.int .i64) (.prod (.int .i64) (.int .i64)))))])], [.one (.ptr 0 0)]⟩,
  ⟨[(true, .box [.pl (.prod (.list XKc) (.prod (.int .i64) (.prod (.int .i64) (.prod (.int .i64) (.int .i64)))))])], [.one (.ptr 0 0)]⟩,
  ⟨[(true, .box [.pl (.prod (.list XKc) (.prod (.int .i64) (.prod (.int .i64) (.prod (.int .i64) (.int .i64)))))])], [.one (.ptr 0 0)]⟩,
  ⟨[(true, .box [.pl (.prod (.list XKc) (.prod (.int .i64) (.prod (.int .i64) (.prod (.int .i64) (.int .i64)))))])], [.one (.ptr 0 0)]⟩,
  ⟨[(true, .box [.pl (.prod (.list XKc) (.prod (.int .i64) (.prod (.int .i64) (.prod (.int .i64) (.int .i64)))))])], [.one (.ptr 0 0)]⟩,
  ⟨[(true, .box [.pl (.prod (.list XKc) (.prod (.int .i64) (.prod (.int .i64) (.prod (.int .i64) (.int .i64)))))])], [.one (.ptr 0 0)]⟩,
  ⟨[(true, .box [.pl (.prod (.list XKc) (.prod (.int .i64) (.prod (.int .i64) (.prod (.int .i64) (.int .i64)))))])], [.one (.ptr 0 0), .one (.pl (.int .i64))]⟩,
  ⟨[], [.one (.pl (.list XKc)), .one (.pl (.int .i64))]⟩,
  ⟨[(true, .box [.pl (.prod (.list XKc) (.prod (.int .i64) (.prod (.int .i64) (.prod (.int .i64) (.int .i64)))))])], [.one (.ptr 0 0), .agg [.pl XKc]]⟩,
  ⟨[], [.one (.pl (.int .i64)), .one (.pl (.int .i64)), .one (.pl .str), .one (.pl (.list (.list XNc)))]⟩,
  ⟨[], [.one (.pl (.int .i64)), .one (.pl (.int .i64)), .one (.pl .str)]⟩,
  ⟨[], [.agg [.pl XNc]]⟩,
  ⟨[(true, .arr XNc)], [.one (.sl 0), .one (.pl (.list XNc))]⟩,
  ⟨[], [.agg [.pl XNc], .one (.pl (.int .i64))]⟩,
  ⟨[], [.agg [.pl XNc], .one (.pl (.list (.int .i64)))]⟩,
  ⟨[(true, .box [.pl (.prod (.list XKc) (.prod (.int .i64) (.prod (.int .i64) (.prod (.int .i64) (.int .i64)))))])], [.one (.ptr 0 0), .one (.pl .str)]⟩,
  ⟨[(true, .box [.pl (.prod (.list XKc) (.prod (.int .i64) (.prod (.int .i64) (.prod (.int .i64) (.int .i64)))))])], [.one (.ptr 0 0), .one (.pl .str)]⟩,
  ⟨[(true, .box [.pl (.prod (.list XKc) (.prod (.int .i64) (.prod (.int .i64) (.prod (.int .i64) (.int .i64)))))])], [.one (.ptr 0 0), .one (.pl .str)]⟩,
  ⟨[(true, .box [.pl (.prod (.list XKc) (.prod (.int .i64) (.prod (.int .i64) (.prod (.int .i64) (.int .i64)))))])], [.one (.ptr 0 0)]⟩,
  ⟨[(true, .box [.pl (.prod (.list XKc) (.prod (.int .i64) (.prod (.int .i64) (.prod (.int .i64) (.int .i64)))))])], [.one (.ptr 0 0), .one (.pl .str)]⟩,
  ⟨[], [.one (.pl .str)]⟩,
  ⟨[(true, .box [.pl (.prod (.list XKc) (.prod (.int .i64) (.prod (.int .i64) (.prod (.int .i64) (.int .i64)))))])], [.one (.ptr 0 0)]⟩,
  ⟨[(true, .box [.pl (.prod (.list XKc) (.prod (.int .i64) (.prod (.int .i64) (.prod (.int .i64) (.int .i64)))))])], [.one (.ptr 0 0)]⟩,
  ⟨[(true, .box [.pl (.prod (.list XKc) (.prod (.int .i64) (.prod (.int .i64) (.prod (.int .i64) (.int .i64)))))])], [.one (.ptr 0 0), .one (.pl (.int .i64)), .one (.pl (.list XNc)), .one (.pl (.list XNc))]⟩,
  ⟨[], [.one (.pl (.list XNc))]⟩,
  ⟨[], [.one (.pl (.list XNc))]⟩,
  ⟨[], [.one (.pl (.list XNc))]⟩,
  ⟨[], [.one (.pl (.list XNc))]⟩,
  ⟨[], [.agg [.pl XNc]]⟩,
  ⟨[], [.agg [.pl XNc]]⟩,
  ⟨[], [.agg [.pl XNc], .one (.pl (.list (.int .i64)))]⟩,
  ⟨[], [.one (.pl (.list .bool)), .one (.pl .bool)]⟩,
  ⟨[], [.one (.pl (.list .bool)), .one (.pl .bool)]⟩,
  ⟨[], [.one (.pl (.list XNc))]⟩,
  ⟨[], [.one (.pl (.list XNc))]⟩,
  ⟨[], [.one (.pl (.list XNc)), .one (.fn 24 [] [])]⟩,
  ⟨[], [.one (.pl (.list XNc)), .one (.fn 24 [] [])]⟩,
  ⟨[], [.agg [.pl XNc]]⟩,
  ⟨[], [.one (.pl .str)]⟩,
  ⟨[], [.one (.pl .str), .one (.fn 50 [] [])]⟩,
  ⟨[], [.one (.pl (.int .i32))]⟩,
  ⟨[], [.one (.pl .str)]⟩,
  ⟨[], [.one (.pl (.list .str)), .one (.pl .str)]⟩,
  ⟨[], [.one (.pl .str), .one (.pl .str)]⟩,
  ⟨[], [.one (.pl .str)]⟩,
  ⟨[], [.one (.pl .str)]⟩,
  ⟨[(true, .box [.pl (.list XNc), .sl 1]), (true, .arr XKc)], [.one (.ptr 0 0), .one (.pl (.int .i64))]⟩,
  ⟨[], [.one (.pl (.int .i64))]⟩,
  ⟨[], []⟩,
  ⟨[], [.one (.pl (.int .i64))]⟩,
  ⟨[(true, .box [.pl (.list XNc), .sl 1]), (true, .arr XKc)], [.one (.ptr 0 0), .one (.pl (.list .str))]⟩,
  ⟨[], [.one (.pl .bool)]⟩,
  ⟨[], [.one (.pl .bool)]⟩,
  ⟨[(true, .box [.pl (.list XNc), .sl 1]), (true, .arr XKc)], [.one (.ptr 0 0), .one (.pl (.int .i64))]⟩,
  ⟨[(true, .box [.pl (.list XNc), .sl 1]), (true, .arr XKc)], [.one (.ptr 0 0), .one (.pl (.int .i64)), .one (.pl (.int .i64))]⟩,
  ⟨[], [.one (.pl (.int .i64))]⟩,
  ⟨[], [.one (.pl (.list XKc))]⟩,
  ⟨[], [.one (.pl (.int .i64))]⟩,
  ⟨[], [.one (.pl (.list XNc))]⟩,
  ⟨[], [.one (.pl (.list XNc))]⟩,
  ⟨[], [.one (.pl (.list XNc))]⟩,
  ⟨[], [.agg [.pl XNc]]⟩,
  ⟨[], [.agg [.pl XNc]]⟩,
  ⟨[], [.one (.pl (.list XNc)), .one (.pl (.int .i64))]⟩,
  ⟨[], [.one (.pl (.list XNc)), .one (.pl (.int .i64))]⟩,
  ⟨[], [.one (.pl (.int .i64))]⟩,
  ⟨[], [.one (.pl (.list XNc)), .one (.pl (.int .i64))]⟩,
  ⟨[], [.one (.pl (.list XNc)), .one (.pl (.int .i64)), .one (.pl (.int .i64))]⟩,
  ⟨[], [.one (.pl (.int .i64))]⟩,
  ⟨[], [.one (.pl (.int .i64))]⟩,
  ⟨[], [.one (.pl (.list XNc))]⟩,
  ⟨[], [.one (.pl (.list XNc))]⟩,
  ⟨[], [.one (.pl (.list XNc)), .one (.pl (.int .i64))]⟩,
  ⟨[(true, .arr XNc)], [.one (.pl (.list XNc)), .one (.pl (.int .i64)), .one (.sl 0)]⟩,
  ⟨[], [.one (.pl (.list XNc)), .one (.pl (.list XNc))]⟩,
  ⟨[], [.one (.pl .str)]⟩,
  ⟨[], [.one (.pl (.list XNc))]⟩,
  ⟨[], [.one (.pl (.list XNc)), .one (.pl (.list XNc))]⟩]
  koutsL := [[⟨[], [.one (.pl .bool)]⟩],
  [⟨[], [.one (.pl .bool)]⟩],
  [⟨[], [.one (.pl (.list XNc)), .agg [.pl (.prod (.int .i64) (.int .i64))]]⟩],
  [⟨[(true, .arr XKc)], [.one (.sl 0), .agg [.pl (.prod (.int .i64) (.int .i64))]]⟩],
  [⟨[], [.agg [.pl XKc], .one (.pl (.int .i64))]⟩],
  [⟨[], [.one (.pl .bool)]⟩],
  [⟨[], [.one (.pl (.int .i64))]⟩],
  [⟨[], [.one (.pl .bool)]⟩],
  [⟨[], [.agg [.pl XKc], .one (.pl (.int .i64))]⟩],
  [⟨[], [.one (.pl .bool)]⟩],
  [⟨[(true, .arr .str)], [.one (.sl 0)]⟩],
  [⟨[], [.one (.pl .bool)]⟩],
  [⟨[], [.one (.pl .str)]⟩],
  [⟨[(true, .arr .str)], [.one (.sl 0)]⟩],
  [⟨[], [.one (.pl (.list XNc)), .one (.pl (.int .i64)), .agg [.pl (.prod (.int .i64) (.int .i64))]]⟩],
  [⟨[(true, .box [.pl (.prod (.list XKc) (.prod (.int .i64) (.prod (.int .i64) (.prod (.int .i64) (.int .i64)))))]), (true, .arr XNc)], [.one (.sl 1)]⟩],
  [⟨[(true, .box [.pl (.prod (.list XKc) (.prod (.int .i64) (.prod (.int .i64) (.prod (.int .i64) (.int .i64)))))]), (true, .arr XNc)], [.one (.sl 1)]⟩],
  [⟨[(true, .box [.pl (.prod (.list XKc) (.prod (.int .i64) (.prod (.int .i64) (.prod (.int .i64) (.int .i64)))))]), (true, .arr XNc)], [.one (.sl 1)]⟩],
  [⟨[(true, .box [.pl (.prod (.list XKc) (.prod (.int .i64) (.prod (.int .i64) (.prod (.int .i64) (.int .i64)))))]), (true, .arr XNc)], [.one (.sl 1)]⟩],
  [⟨[(true, .box [.pl (.prod (.list XKc) (.prod (.int .i64) (.prod (.int .i64) (.prod (.int .i64) (.int .i64)))))]), (true, .arr XNc)], [.one (.sl 1)]⟩],
  [⟨[(true, .box [.pl (.prod (.list XKc) (.prod (.int .i64) (.prod (.int .i64) (.prod (.int .i64) (.int .i64)))))]), (true, .arr XNc)], [.one (.sl 1)]⟩],
  [⟨[(true, .box [.pl (.prod (.list XKc) (.prod (.int .i64) (.prod (.int .i64) (.prod (.int .i64) (.int .i64)))))]), (true, .arr XNc)], [.one (.sl 1)]⟩],
  [⟨[(true, .box [.pl (.prod (.list XKc) (.prod (.int .i64) (.prod (.int .i64) (.prod (.int .i64) (.int .i64)))))]), (true, .arr XNc)], [.one (.sl 1)]⟩],
  [⟨[(true, .box [.pl (.prod (.list XKc) (.prod (.int .i64) (.prod (.int .i64) (.prod (.int .i64) (.int .i64)))))]), (true, .arr XNc)], [.one (.sl 1)]⟩],
  [⟨[(true, .box [.pl (.prod (.list XKc) (.prod (.int .i64) (.prod (.int .i64) (.prod (.int .i64) (.int .i64)))))]), (true, .arr XNc)], [.one (.sl 1)]⟩],
  [⟨[], [.one (.pl (.int .i64))]⟩],
  [⟨[(true, .box [.pl (.prod (.list XKc) (.prod (.int .i64) (.prod (.int .i64) (.prod (.int .i64) (.int .i64)))))]), (true, .arr XNc)], [.one (.sl 1)]⟩],
  [⟨[(true, .arr XNc)], [.one (.sl 0)]⟩],
  [⟨[], [.agg [.pl XNc]]⟩],
  [⟨[(true, .arr (.int .i64))], [.one (.sl 0)]⟩],
  [⟨[(true, .gone), (true, .arr XNc)], [.one (.sl 1)]⟩],
  [⟨[], [.agg [.pl XNc]]⟩],
  [⟨[], [.agg [.pl XNc]]⟩],
  [⟨[(true, .box [.pl (.prod (.list XKc) (.prod (.int .i64) (.prod (.int .i64) (.prod (.int .i64) (.int .i64)))))]), (true, .arr XNc)], [.one (.sl 1)]⟩],
  [⟨[(true, .box [.pl (.prod (.list XKc) (.prod (.int .i64) (.prod (.int .i64) (.prod (.int .i64) (.int .i64)))))])], [.one (.pl .bool)]⟩],
  [⟨[(true, .box [.pl (.prod (.list XKc) (.prod (.int .i64) (.prod (.int .i64) (.prod (.int .i64) (.int .i64)))))])], [.one (.pl .bool)]⟩],
  [⟨[(true, .box [.pl (.prod (.list XKc) (.prod (.int .i64) (.prod (.int .i64) (.prod (.int .i64) (.int .i64)))))]), (true, .arr (.list XNc))], [.one (.sl 1)]⟩],
  [⟨[(true, .box [.pl (.prod (.list XKc) (.prod (.int .i64) (.prod (.int .i64) (.prod (.int .i64) (.int .i64)))))])], []⟩],
  [⟨[], [.one (.pl (.int .i64))]⟩],
  [⟨[(true, .box [.pl (.prod (.list XKc) (.prod (.int .i64) (.prod (.int .i64) (.prod (.int .i64) (.int .i64)))))]), (true, .arr XNc)], [.one (.sl 1)]⟩],
  [⟨[(true, .box [.pl (.prod (.list XKc) (.prod (.int .i64) (.prod (.int .i64) (.prod (.int .i64) (.int .i64)))))]), (true, .arr XNc)], [.one (.sl 1)]⟩],
  [⟨[(true, .box [.pl (.prod (.list XKc) (.prod (.int .i64) (.prod (.int .i64) (.prod (.int .i64) (.int .i64)))))]), (true, .arr XNc)], [.one (.sl 1)]⟩],
  [⟨[], [.one (.pl (.int .i64))]⟩],
  [⟨[], [.one (.pl .str)]⟩],
  [⟨[], [.one (.pl .bool)]⟩],
  [⟨[], [.one (.pl .bool)]⟩],
  [⟨[], [.one (.pl .bool)]⟩],
  [⟨[(true, .arr (.int .i64))], [.one (.sl 0)]⟩],
  [⟨[], [.agg [.pl XNc]]⟩],
  [⟨[], [.one (.pl .bool)]⟩],
  [⟨[], [.one (.pl (.int .i64))]⟩],
  [⟨[], [.one (.pl (.int .i64))]⟩],
  [⟨[(true, .arr (.int .i64))], [.one (.sl 0)]⟩],
  [⟨[], [.one (.pl .bool)]⟩],
  [⟨[], [.one (.pl (.int .i64))]⟩],
  [⟨[], [.one (.pl .bool)]⟩],
  [⟨[], [.one (.pl .bool)]⟩],
  [⟨[], [.one (.pl .str)]⟩],
  [⟨[], [.one (.pl .bool)]⟩],
  [⟨[], [.one (.pl .bool)]⟩],
  [⟨[], [.one (.pl (.int .i64)), .one (.pl .bool)]⟩],
  [⟨[], [.one (.pl .bool)]⟩],
  [⟨[], [.one (.pl .bool)]⟩],
  [⟨[], [.one (.pl .bool)]⟩],
  [⟨[(true, .box [.pl (.list XNc), .sl 2]), (true, .gone), (true, .arr XKc)], []⟩],
  [⟨[], [.agg [.pl (.prod .str (.int .i64))]]⟩],
  [⟨[], [.agg [.pl (.prod .str (.prod (.int .i64) (.prod .str (.prod (.int .i64) (.prod .str (.prod (.int .i64) (.prod .str (.prod (.int .i64) (.prod .str (.prod (.int .i64) (.prod .str (.prod (.int .i64) (.prod .str (.prod (.int .i64) (.prod .str (.prod (.int .i64) (.prod .str (.prod (.int .i64) (.prod .str (.prod (.int .i64) (.prod .str (.prod (.int .i64) (.prod .str (.prod (.int .i64) (.prod .str (.prod (.int .i64) (.prod .str (.prod (.int .i64) (.prod .str (.prod (.int .i64) (.prod .str (.prod (.int .i64) (.prod .str (.prod (.int .i64) (.prod .str (.prod (.int .i64) (.prod .str (.prod (.int .i64) (.prod .str (.prod (.int .i64) (.prod .str (.prod (.int .i64) (.prod .str (.prod (.int .i64) (.prod .str (.prod (.int .i64) (.prod .str (.prod (.int .i64) (.prod .str (.prod (.int .i64) (.prod .str (.prod (.int .i64) (.prod .str XKc)))))))))))))))))))))))))))))))))))))))))))))))))))))]]⟩],
  [⟨[], [.one (.pl .str)]⟩],
  [⟨[(true, .box [.pl (.list XNc), .sl 2]), (true, .gone), (true, .arr XKc)], []⟩],
  [⟨[], [.one (.pl .str)]⟩],
  [⟨[], [.one (.pl .str)]⟩],
  [⟨[(true, .box [.pl (.list XNc), .sl 2]), (true, .gone), (true, .arr XKc)], []⟩],
  [⟨[(true, .box [.pl (.list XNc), .sl 2]), (true, .gone), (true, .arr XKc)], []⟩],
  [⟨[], [.one (.pl (.int .i64))]⟩],
  [⟨[], [.one (.pl .str)]⟩],
  [⟨[], [.one (.pl .str)]⟩],
  [⟨[], [.one (.pl .str)]⟩],
  [⟨[], [.one (.pl .bool)]⟩],
  [⟨[], [.one (.pl .bool)]⟩],
  [⟨[], [.one (.pl .bool)]⟩],
  [⟨[], [.one (.pl .bool)]⟩],
  [⟨[], [.one (.pl .bool)]⟩],
  [⟨[], [.one (.pl .str)]⟩],
  [⟨[], [.one (.pl .str)]⟩],
  [⟨[], [.one (.pl .str)]⟩],
  [⟨[], [.one (.pl .str)]⟩],
  [⟨[], [.one (.pl (.int .i64))]⟩],
  [⟨[], [.one (.pl .str)]⟩],
  [⟨[], [.one (.pl .bool)]⟩],
  [⟨[(true, .arr XNc)], [.one (.sl 0)]⟩],
  [⟨[(true, .arr XNc)], [.one (.sl 0)]⟩],
  [⟨[(true, .gone), (true, .arr XNc)], [.one (.sl 1)]⟩],
  [⟨[], [.one (.pl .bool)]⟩],
  [⟨[], [.one (.pl .bool)]⟩],
  [⟨[], [.one (.pl .bool)]⟩],
  [⟨[], [.one (.pl .bool)]⟩]]
  bkL := [noBlk,
  noBlk,
  ⟨[0, 6], ⟨[], [.one (.pl .str), .one (.pl (.int .i64))]⟩, [0, 1, 4, 5], [(.norm, [6], ⟨[], [.one (.pl (.int .i64))]⟩)]⟩,
  ⟨[0, 3, 4], ⟨[], [.one (.pl .str), .one (.pl (.int .i64)), .one (.pl (.int .i64))]⟩, [2], [(.norm, [3], ⟨[], [.one (.pl (.int .i64))]⟩)]⟩,
  ⟨[0, 6], ⟨[], [.one (.pl .str), .one (.pl (.int .i64))]⟩, [0, 1, 4, 5], [(.norm, [6], ⟨[], [.one (.pl (.int .i64))]⟩)]⟩,
  ⟨[0, 3, 4], ⟨[(true, .arr .str)], [.one (.pl .str), .one (.sl 0), .one (.pl (.int .i64))]⟩, [], [(.ret, [2], ⟨[(true, .arr .str)], [.one (.pl .bool)]⟩), (.norm, [], ⟨[(true, .arr .str)], []⟩)]⟩,
  ⟨[0, 3], ⟨[], [.one (.pl .str), .one (.pl (.int .i64))]⟩, [], [(.ret, [2], ⟨[], [.one (.pl .bool)]⟩), (.norm, [], ⟨[], []⟩)]⟩,
  ⟨[0, 3, 4], ⟨[(true, .arr .str)], [.one (.pl .str), .one (.sl 0), .one (.pl (.int .i64))]⟩, [], [(.ret, [2], ⟨[(true, .arr .str)], [.one (.pl .str)]⟩), (.norm, [], ⟨[(true, .arr .str)], []⟩)]⟩,
  ⟨[0, 3, 4, 5], ⟨[(true, .box [.pl (.prod (.int .i64) (.int .i64))]), (false, .arr XKc)], [.one (.pl .str), .one (.ptr 0 0), .one (.sl 1), .one (.pl (.int .i64))]⟩, [3], [(.ret, [2], ⟨[(true, .box [.pl (.prod (.int .i64) (.int .i64))]), (true, .gone), (true, .arr XKc)], [.one (.sl 2)]⟩), (.norm, [4], ⟨[(true, .box [.pl (.prod (.int .i64) (.int .i64))]), (true, .gone), (true, .arr XKc)], [.one (.sl 2)]⟩)]⟩,
  ⟨[0, 5], ⟨[], [.one (.pl .str), .one (.pl (.int .i64))]⟩, [0, 2, 3, 4], [(.norm, [5], ⟨[], [.one (.pl (.int .i64))]⟩)]⟩,
  noBlk,
  noBlk,
  noBlk,
  ⟨[0, 1, 5, 6], ⟨[(false, .arr XNc)], [.one (.sl 0), .one (.pl (.list XNc)), .one (.pl (.int .i64)), .one (.pl (.int .i64))]⟩, [4], [(.norm, [0], ⟨[(true, .gone), (true, .arr XNc)], [.one (.sl 1)]⟩)]⟩,
  ⟨[0, 3, 11, 12, 13, 14], ⟨[(false, .arr XNc), (false, .arr (.int .i64))], [.one (.pl (.int .i64)), .one (.pl (.list (.list XNc))), .one (.sl 0), .one (.sl 1), .one (.pl (.int .i64)), .one (.pl (.int .i64))]⟩, [0, 9], [(.ret, [8], ⟨[(true, .gone), (true, .gone), (true, .arr XNc)], [.one (.sl 2)]⟩), (.norm, [11, 12, 13], ⟨[(true, .gone), (true, .gone), (true, .arr XNc), (true, .arr (.int .i64))], [.one (.sl 2), .one (.sl 3), .one (.pl (.int .i64))]⟩)]⟩,
  noBlk,
  ⟨[0, 3], ⟨[(true, .box [.pl (.prod (.list XKc) (.prod (.int .i64) (.prod (.int .i64) (.prod (.int .i64) (.int .i64)))))]), (false, .arr (.list XNc))], [.one (.ptr 0 0), .one (.sl 1)]⟩, [], [(.ret, [2], ⟨[(true, .box [.pl (.prod (.list XKc) (.prod (.int .i64) (.prod (.int .i64) (.prod (.int .i64) (.int .i64)))))]), (true, .gone), (true, .arr (.list XNc))], [.one (.sl 2)]⟩), (.norm, [], ⟨[(true, .box [.pl (.prod (.list XKc) (.prod (.int .i64) (.prod (.int .i64) (.prod (.int .i64) (.int .i64)))))]), (true, .gone)], []⟩)]⟩,
  noBlk,
  ⟨[0, 3], ⟨[(true, .box [.pl (.prod (.list XKc) (.prod (.int .i64) (.prod (.int .i64) (.prod (.int .i64) (.int .i64)))))]), (false, .arr XNc)], [.one (.ptr 0 0), .one (.sl 1)]⟩, [2], [(.norm, [3], ⟨[(true, .box [.pl (.prod (.list XKc) (.prod (.int .i64) (.prod (.int .i64) (.prod (.int .i64) (.int .i64)))))]), (true, .gone), (true, .arr XNc)], [.one (.sl 2)]⟩)]⟩,
  noBlk,
  ⟨[0, 3], ⟨[(true, .box [.pl (.prod (.list XKc) (.prod (.int .i64) (.prod (.int .i64) (.prod (.int .i64) (.int .i64)))))]), (false, .arr XNc)], [.one (.ptr 0 0), .one (.sl 1)]⟩, [2], [(.norm, [3], ⟨[(true, .box [.pl (.prod (.list XKc) (.prod (.int .i64) (.prod (.int .i64) (.prod (.int .i64) (.int .i64)))))]), (true, .gone), (true, .arr XNc)], [.one (.sl 2)]⟩)]⟩,
  noBlk,
  ⟨[0, 3], ⟨[(true, .box [.pl (.prod (.list XKc) (.prod (.int .i64) (.prod (.int .i64) (.prod (.int .i64) (.int .i64)))))]), (false, .arr XNc)], [.one (.ptr 0 0), .one (.sl 1)]⟩, [2], [(.norm, [3], ⟨[(true, .box [.pl (.prod (.list XKc) (.prod (.int .i64) (.prod (.int .i64) (.prod (.int .i64) (.int .i64)))))]), (true, .gone), (true, .arr XNc)], [.one (.sl 2)]⟩)]⟩,
  noBlk,
  ⟨[0, 3], ⟨[(true, .box [.pl (.prod (.list XKc) (.prod (.int .i64) (.prod (.int .i64) (.prod (.int .i64) (.int .i64)))))]), (false, .arr XNc)], [.one (.ptr 0 0), .one (.sl 1)]⟩, [2], [(.norm, [3], ⟨[(true, .box [.pl (.prod (.list XKc) (.prod (.int .i64) (.prod (.int .i64) (.prod (.int .i64) (.int .i64)))))]), (true, .gone), (true, .arr XNc)], [.one (.sl 2)]⟩)]⟩,
  noBlk,
  ⟨[0, 3], ⟨[(true, .box [.pl (.prod (.list XKc) (.prod (.int .i64) (.prod (.int .i64) (.prod (.int .i64) (.int .i64)))))]), (false, .arr XNc)], [.one (.ptr 0 0), .one (.sl 1)]⟩, [2], [(.norm, [3], ⟨[(true, .box [.pl (.prod (.list XKc) (.prod (.int .i64) (.prod (.int .i64) (.prod (.int .i64) (.int .i64)))))]), (true, .gone), (true, .arr XNc)], [.one (.sl 2)]⟩)]⟩,
  noBlk,
  noBlk,
  noBlk,
  noBlk,
  noBlk,
  noBlk,
  noBlk,
  ⟨[0, 3, 4], ⟨[(true, .arr (.int .i64))], [.one (.pl (.list XNc)), .one (.sl 0), .one (.pl (.int .i64))]⟩, [0, 2, 3], [(.norm, [], ⟨[(true, .arr (.int .i64))], []⟩)]⟩,
  ⟨[3, 4, 5, 6], ⟨[(true, .arr (.int .i64)), (true, .arr (.int .i64))], [.one (.sl 0), .one (.pl (.int .i64)), .one (.sl 1), .one (.pl (.int .i64))]⟩, [0, 3, 4], [(.norm, [], ⟨[(true, .arr (.int .i64)), (true, .arr (.int .i64))], []⟩)]⟩,
  noBlk,
  ⟨[0, 1, 6], ⟨[(true, .box [.pl (.prod (.int .i64) (.int .i64))])], [.one (.pl (.list XKc)), .one (.pl (.int .i64)), .one (.ptr 0 0)]⟩, [6], [(.ret, [4, 5], ⟨[(true, .box [.pl (.prod (.int .i64) (.int .i64))]), (true, .arr XNc)], [.one (.sl 1), .one (.pl (.int .i64))]⟩), (.ret, [4, 5], ⟨[(true, .box [.pl (.prod (.int .i64) (.int .i64))])], [.one (.pl (.list XNc)), .one (.pl (.int .i64))]⟩)]⟩,
  ⟨[0, 3, 30, 31, 32], ⟨[(true, .arr .bool)], [.one (.pl (.list XNc)), .one (.sl 0), .one (.pl (.list XNc)), .one (.pl (.int .i64)), .one (.pl (.int .i64))]⟩, [0, 3], [(.ret, [2], ⟨[(true, .arr .bool)], [.one (.pl .bool)]⟩), (.norm, [], ⟨[(true, .arr .bool)], []⟩)]⟩,
  ⟨[1, 3], ⟨[(true, .box [.pl XNc])], [.one (.ptr 0 0), .one (.pl (.int .i64))]⟩, [], [(.ret, [2], ⟨[(true, .box [.pl XNc])], [.one (.pl .bool)]⟩)]⟩,
  ⟨[1, 3, 4], ⟨[(true, .box [.pl XNc]), (true, .box [.pl XNc])], [.one (.ptr 0 0), .one (.pl (.int .i64)), .one (.ptr 1 0)]⟩, [], [(.ret, [2], ⟨[(true, .box [.pl XNc]), (true, .box [.pl XNc])], [.one (.pl .bool)]⟩)]⟩,
  ⟨[0, 3, 4, 5, 41, 42, 43], ⟨[(true, .arr .bool), (true, .box [.pl XNc]), (true, .arr (.int .i64))], [.one (.pl (.list XNc)), .one (.sl 0), .one (.pl (.int .i64)), .one (.ptr 1 0), .one (.sl 2), .one (.pl (.int .i64)), .one (.pl (.int .i64))]⟩, [0, 3, 30, 31, 32], [(.ret, [2], ⟨[(true, .arr .bool), (true, .box [.pl XNc]), (true, .arr (.int .i64))], [.one (.pl .bool)]⟩), (.norm, [], ⟨[(true, .arr .bool), (true, .box [.pl XNc]), (true, .arr (.int .i64))], []⟩)]⟩,
  ⟨[0, 1, 7, 8], ⟨[], [.one (.pl (.list .bool)), .one (.pl .bool), .one (.pl (.int .i64)), .one (.pl (.int .i64))]⟩, [], [(.ret, [4], ⟨[], [.one (.pl (.int .i64))]⟩), (.norm, [], ⟨[], []⟩)]⟩,
  noBlk,
  noBlk,
  noBlk,
  noBlk,
  noBlk,
  noBlk,
  ⟨[3, 11, 12, 13], ⟨[(true, .arr (.int .i64))], [.one (.sl 0), .one (.pl (.list XNc)), .one (.pl (.int .i64)), .one (.pl (.int .i64))]⟩, [2, 3], [(.norm, [], ⟨[(true, .arr (.int .i64))], []⟩)]⟩,
  ⟨[3, 4, 19, 20, 21], ⟨[(true, .arr (.int .i64)), (true, .arr (.int .i64))], [.one (.sl 0), .one (.pl (.int .i64)), .one (.sl 1), .one (.pl (.int .i64)), .one (.pl (.int .i64))]⟩, [3, 4, 11, 12, 13], [(.norm, [], ⟨[(true, .arr (.int .i64)), (true, .arr (.int .i64))], []⟩)]⟩,
  ⟨[0, 1, 7, 8], ⟨[], [.one (.pl (.list XNc)), .one (.fn 24 [] []), .one (.pl (.int .i64)), .one (.pl (.int .i64))]⟩, [], [(.ret, [4], ⟨[], [.one (.pl (.int .i64))]⟩), (.norm, [], ⟨[], []⟩)]⟩,
  ⟨[0, 1, 7, 8], ⟨[], [.one (.pl (.list .str)), .one (.pl .str), .one (.pl (.int .i64)), .one (.pl (.int .i64))]⟩, [0, 1, 4, 5, 6], [(.norm, [7], ⟨[], [.one (.pl (.int .i64))]⟩)]⟩,
  noBlk,
  ⟨[0, 6, 7, 8], ⟨[(true, .box [.pl (.list XNc), .sl 1]), (false, .arr XKc)], [.one (.ptr 0 0), .one (.pl (.list .str)), .one (.pl (.int .i64)), .one (.pl (.int .i64))]⟩, [], [(.norm, [], ⟨[(true, .box [.pl (.list XNc), .sl 2]), (true, .gone), (true, .arr XKc)], []⟩)]⟩,
  ⟨[0, 3, 4], ⟨[(true, .arr (.int .i64))], [.one (.pl (.list XNc)), .one (.sl 0), .one (.pl (.int .i64))]⟩, [0, 3], [(.ret, [2], ⟨[(true, .arr (.int .i64))], [.one (.pl .bool)]⟩), (.norm, [], ⟨[(true, .arr (.int .i64))], []⟩)]⟩,
  ⟨[3, 4, 5, 6], ⟨[(true, .arr (.int .i64)), (true, .arr (.int .i64))], [.one (.sl 0), .one (.pl (.int .i64)), .one (.sl 1), .one (.pl (.int .i64))]⟩, [0, 3, 4], [(.ret, [2], ⟨[(true, .arr (.int .i64)), (true, .arr (.int .i64))], [.one (.pl .bool)]⟩), (.norm, [], ⟨[(true, .arr (.int .i64)), (true, .arr (.int .i64))], []⟩)]⟩,
  ⟨[0, 5, 6, 7], ⟨[(true, .box [.pl XNc]), (true, .arr (.int .i64))], [.one (.pl (.list XNc)), .one (.ptr 0 0), .one (.sl 1), .one (.pl (.int .i64))]⟩, [], [(.ret, [4], ⟨[(true, .box [.pl XNc]), (true, .arr (.int .i64))], [.one (.pl .bool)]⟩), (.norm, [], ⟨[(true, .box [.pl XNc]), (true, .arr (.int .i64))], []⟩)]⟩,
  ⟨[0, 3, 7], ⟨[(true, .arr (.int .i64))], [.one (.pl (.list XNc)), .one (.sl 0), .one (.pl (.int .i64))]⟩, [0], [(.ret, [2], ⟨[(true, .arr (.int .i64))], [.one (.pl .bool)]⟩), (.norm, [], ⟨[(true, .arr (.int .i64))], []⟩)]⟩,
  ⟨[0, 3], ⟨[], [.one (.pl (.list XNc)), .one (.pl (.int .i64))]⟩, [], [(.ret, [2], ⟨[], [.one (.pl .bool)]⟩), (.norm, [], ⟨[], []⟩)]⟩,
  noBlk,
  ⟨[0, 5, 6], ⟨[(false, .arr .str)], [.one (.pl (.list XNc)), .one (.sl 0), .one (.pl (.int .i64))]⟩, [0, 1, 4], [(.norm, [5], ⟨[(true, .gone), (true, .arr .str)], [.one (.sl 1)]⟩)]⟩,
  ⟨[5, 7, 8], ⟨[(true, .arr .str)], [.one (.sl 0), .one (.pl .str), .one (.pl (.int .i64))]⟩, [4], [(.norm, [7], ⟨[(true, .arr .str)], [.one (.pl .str)]⟩)]⟩,
  noBlk,
  ⟨[0, 2, 7, 8, 9], ⟨[(false, .arr XNc), (true, .arr (.int .i64)), (false, .arr (.int .i64))], [.one (.pl (.list XNc)), .one (.sl 0), .one (.sl 1), .one (.sl 2), .one (.pl (.int .i64))]⟩, [0, 1, 6], [(.norm, [2, 8], ⟨[(true, .gone), (true, .arr (.int .i64)), (true, .gone), (true, .arr XNc), (true, .arr (.int .i64))], [.one (.sl 3), .one (.sl 4)]⟩)]⟩,
  ⟨[0, 1, 5], ⟨[], [.one (.pl (.list XNc)), .one (.pl (.list XNc)), .one (.pl (.int .i64))]⟩, [], [(.ret, [4], ⟨[], [.one (.pl .bool)]⟩), (.norm, [], ⟨[], []⟩)]⟩]
  lkL := [(3, [(0, 8), (2, 9)]), (4, [(0, 2), (2, 4)]), (6, [(0, 3)]), (9, [(0, 5)]), (11, [(0, 6)]), (12, [(0, 7)]), (17, [(0, 26)]), (18, [(0, 24)]), (19, [(0, 22)]), (21, [(0, 20)]), (22, [(0, 18)]), (27, [(0, 14)]), (30, [(0, 13)]), (36, [(0, 16)]), (42, [(0, 34), (2, 35)]), (45, [(0, 38), (2, 41)]), (50, [(0, 42)]), (52, [(0, 49), (2, 50)]), (54, [(0, 51)]), (60, [(0, 52)]), (68, [(0, 54)]), (77, [(0, 59)]), (78, [(0, 55), (2, 56), (4, 58)]), (81, [(0, 57)]), (84, [(0, 61), (2, 62)]), (91, [(0, 64)]), (92, [(0, 65)])]
  tkL := [(14, [(3, 37)]), (46, [(9, 39), (10, 40)])]
  dkL := [(2, [(3, ([3], (.take 0 (.take 1 (.only 2 .done))))), (6, ([3], (.take 0 (.take 1 (.only 2 .done))))), (8, ([3], (.take 0 (.take 1 (.take 2 (.take 3 (.take 4 (.take 5 (.take 6 (.only 7 .done))))))))))]),
  (12, [(5, ([], (.take 0 (.take 1 (.take 2 (.take 3 (.take 4 (.take 5 (.take 6 (.take 7 (.take 8 (.take 9 (.take 10 (.take 11 (.take 12 (.take 13 (.take 14 (.take 15 (.take 16 (.take 17 (.take 18 (.take 19 (.take 20 (.take 21 .done))))))))))))))))))))))))]),
  (14, [(6, ([6], (.take 0 (.take 1 (.take 2 (.take 3 (.take 4 (.take 5 (.only 6 .done))))))))), (11, ([6], (.take 0 (.take 1 (.take 2 (.take 3 (.take 4 (.take 5 (.take 6 (.take 7 (.only 8 .done)))))))))))]),
  (23, [(5, ([], (.take 0 (.take 1 (.take 2 (.take 3 (.take 4 (.take 5 (.take 6 (.take 7 (.take 8 (.take 9 .done)))))))))))), (8, ([], (.take 0 (.take 1 (.take 2 (.take 3 (.take 4 (.take 5 (.take 6 (.take 7 (.take 8 (.take 9 (.only 10 (.only 11 .done))))))))))))))]),
  (24, [(2, ([0], (.take 0 (.take 1 (.take 2 (.take 3 (.take 4 (.take 6 (.take 7 (.take 8 (.alt 5 (.only 9 (.only 10 (.take 11 (.take 12 (.take 13 (.only 14 .done)))))) (.only 9 (.only 5 (.only 10 (.take 11 (.take 12 (.take 13 (.only 14 .done))))))))))))))))))]),
  (35, [(1, ([], (.take 0 (.take 1 (.take 2 (.take 3 (.take 4 (.take 5 (.take 6 (.take 7 (.take 8 (.take 9 (.take 10 (.take 11 (.take 12 (.take 13 (.take 14 (.take 15 (.take 16 (.take 17 .done)))))))))))))))))))), (3, ([], (.take 0 (.take 1 (.take 2 (.take 3 (.take 4 (.take 5 (.take 6 (.take 7 (.take 8 (.take 9 (.only 10 (.only 11 .done))))))))))))))]),
  (39, [(2, ([], (.take 0 (.take 1 (.take 2 (.take 3 (.take 4 (.take 5 (.take 6 (.take 7 (.take 8 (.take 9 (.take 10 (.take 11 (.take 12 (.take 13 (.take 14 (.take 15 (.take 16 (.take 17 (.take 18 (.take 19 (.take 20 (.take 21 (.take 22 (.take 23 (.take 24 (.take 25 (.take 26 (.take 27 (.take 28 (.take 29 (.take 30 (.take 31 (.take 32 (.take 33 (.take 34 (.take 35 (.only 36 (.take 37 (.take 38 .done))))))))))))))))))))))))))))))))))))))))), (4, ([], (.take 0 (.take 1 (.take 2 (.take 3 (.take 4 (.take 5 (.take 6 (.take 7 (.take 8 (.take 9 (.take 10 (.only 11 (.take 12 .done)))))))))))))))]),
  (42, [(11, ([3], (.take 0 (.take 1 (.take 2 (.take 3 (.take 4 (.take 6 (.take 7 (.take 8 (.take 9 (.take 10 (.take 11 (.alt 5 (.only 12 (.take 13 (.take 14 (.take 15 (.only 16 .done))))) (.only 12 (.take 13 (.only 5 (.take 14 (.take 15 (.only 16 .done))))))))))))))))))))]),
  (46, [(9, ([], (.take 0 (.take 1 (.take 2 (.take 3 (.take 4 (.take 5 (.take 6 (.take 7 (.alt 8 (.alt 9 (.only 10 (.only 11 .done)) (.only 10 (.only 9 (.only 11 .done)))) (.only 10 (.only 8 (.only 9 (.only 11 .done)))))))))))))))]),
  (48, [(2, ([2], (.take 0 (.take 1 (.take 2 (.take 3 (.take 4 (.take 5 (.take 6 (.only 7 (.take 8 (.only 9 .done))))))))))))]),
  (52, [(9, ([3], (.take 0 (.take 1 (.take 2 (.take 3 (.take 4 (.take 6 (.take 7 (.take 8 (.alt 5 (.only 9 (.take 10 (.take 11 (.only 12 .done)))) (.only 9 (.only 5 (.take 10 (.take 11 (.only 12 .done))))))))))))))))]),
  (64, [(2, ([], (.take 0 (.take 1 (.take 2 (.take 3 (.take 4 (.take 5 (.take 6 .done)))))))))]),
  (82, [(14, ([], (.take 0 (.take 1 (.take 2 (.take 6 (.take 7 (.take 8 (.take 12 (.take 13 (.take 14 (.only 3 (.take 4 (.take 5 (.only 9 (.take 10 (.take 11 (.only 15 (.take 16 (.take 17 .done)))))))))))))))))))), (16, ([], (.take 0 (.take 1 (.take 5 (.take 6 (.take 7 (.only 2 (.take 3 (.take 4 (.only 8 (.take 9 (.take 10 .done))))))))))))), (19, ([], (.take 0 (.take 1 (.take 4 (.take 5 (.take 6 (.only 2 (.take 3 (.only 7 (.take 8 (.take 9 .done)))))))))))), (27, ([], (.take 0 (.take 1 (.take 2 (.take 3 (.take 6 (.take 7 (.take 11 (.take 12 (.take 13 (.take 14 (.only 4 (.take 5 (.only 8 (.take 9 (.take 10 (.only 15 (.take 16 (.take 17 .done))))))))))))))))))))]),
  (92, [(6, ([], (.take 0 (.take 1 (.take 2 (.take 3 (.take 4 (.take 5 (.take 6 (.take 7 (.take 8 .done)))))))))))])]
  fnumL := [3, 8, 17, 30, 62, 60, 77, 58, 78, 59, 76, 28, 79, 89, 31, 63, 80, 90, 98, 106, 110, 111, 112, 113, 114, 64, 115, 92, 99, 35, 100, 107, 83, 116, 81, 91, 121, 119, 117, 118, 120, 82, 37, 9, 11, 26, 53, 54, 73, 55, 74, 56, 75, 27, 57, 24, 25, 49, 51, 52, 72, 87, 97, 88, 21, 29, 61, 39, 38, 40, 67, 41, 42, 15, 22, 13, 10, 12, 20, 33, 34, 36, 23, 46, 47, 48, 16, 14, 4, 19, 32, 65, 18, 5, 6, 7]
  fnL := [Tryz.f3, Tryz.f8, Tryz.f17, Tryz.f30, Tryz.f62, Tryz.f60, Tryz.f77, Tryz.f58, Tryz.f78, Tryz.f59, Tryz.f76, Tryz.f28, Tryz.f79, Tryz.f89, Tryz.f31, Tryz.f63, Tryz.f80, Tryz.f90, Tryz.f98, Tryz.f106, Tryz.f110, Tryz.f111, Tryz.f112, Tryz.f113, Tryz.f114, Tryz.f64, Tryz.f115, Tryz.f92, Tryz.f99, Tryz.f35, Tryz.f100, Tryz.f107, Tryz.f83, Tryz.f116, Tryz.f81, Tryz.f91, Tryz.f121, Tryz.f119, Tryz.f117, Tryz.f118, Tryz.f120, Tryz.f82, Tryz.f37, Tryz.f9, Tryz.f11, Tryz.f26, Tryz.f53, Tryz.f54, Tryz.f73, Tryz.f55, Tryz.f74, Tryz.f56, Tryz.f75, Tryz.f27, Tryz.f57, Tryz.f24, Tryz.f25, Tryz.f49, Tryz.f51, Tryz.f52, Tryz.f72, Tryz.f87, Tryz.f97, Tryz.f88, Tryz.f21, Tryz.f29, Tryz.f61, Tryz.f39, Tryz.f38, Tryz.f40, Tryz.f67, Tryz.f41, Tryz.f42, Tryz.f15, Tryz.f22, Tryz.f13, Tryz.f10, Tryz.f12, Tryz.f20, Tryz.f33, Tryz.f34, Tryz.f36, Tryz.f23, Tryz.f46, Tryz.f47, Tryz.f48, Tryz.f16, Tryz.f14, Tryz.f4, Tryz.f19, Tryz.f32, Tryz.f65, Tryz.f18, Tryz.f5, Tryz.f6, Tryz.f7]
  placeL := [(0, []), (0, []), (4, [true, true, false, true, false, false]), (6, [true, true, false, true]), (4, [true, true, true, false, true, false, false]), (9, [true, true, false, true]), (11, [true, true, false, true]), (12, [true, true, false, true]), (3, [true, true, true, true, false]), (3, [true, true, true, true, false, false, false, true, false, true, false, true, false, false]), (0, []), (0, []), (0, []), (30, [true, true, false, true]), (27, [true, true, true, true, true, true, true, false, true]), (0, []), (36, [true, true, true, false]), (0, []), (22, [true, true, false]), (0, []), (21, [true, true, false]), (0, []), (19, [true, true, false]), (0, []), (18, [true, true, false]), (0, []), (17, [true, true, false]), (0, []), (0, []), (0, []), (0, []), (0, []), (0, []), (0, []), (42, [true, true, false, true]), (42, [true, true, false, true, false, false, true, false, false, true, true, true]), (0, []), (14, [true, true]), (45, [true, true, true, false, true]), (46, [true, true, true]), (46, [true, true, true, true]), (45, [true, true, true, false, true, false, false, true, true, false, false, true, true, true]), (50, [true, false, true]), (0, []), (0, []), (0, []), (0, []), (0, []), (0, []), (52, [true, true, false, true]), (52, [true, true, false, true, false, false, true, true, false, false, true, false, true]), (54, [true, false, true]), (60, [true, true, true, false]), (0, []), (68, [true]), (78, [true, true, true, false, true]), (78, [true, true, true, false, true, false, false, true, false, false, true, true, false, true]), (81, [true, true, true, false, true]), (78, [true, true, true, true, false, true]), (77, [true, true, false, true]), (0, []), (84, [true, true, true, false, true]), (84, [true, true, true, true, true, false, true]), (0, []), (91, [true, true, true, false, true]), (92, [true, true, false, true])] }
noncomputable def xf : tabs.tb.RF := fun φ => match φ with
  | 57 => fun (d : List UInt8) => (fun (d1 : List UInt8) => (
      some (rowX d1) : Option (List UInt8))) d
  | 67 => fun (d : Int) => (fun (d1 : Int) => (
      bif fits64 d1 then
        some (itoaX d1)
      else
        none : Option (List UInt8))) d
  | 74 => fun (d : List XK) => (fun (d1 : List XK) => (
      bif Nat.ble (joinX d1).length most then
        some (joinX d1)
      else
        none : Option (List UInt8))) d
  | _ => fun _ => none
noncomputable def T : Tbl := tabs.tbl xf

noncomputable def c0 (rf : T.RF) (d1 : List XN) (d2 : Int) : Option Bool := rf 0 (d1, d2)
noncomputable def c1 (rf : T.RF) : Option Bool := rf 1 ()
noncomputable def c2 (rf : T.RF) (d1 : List UInt8) : Option (List XN × Int × Int) := rf 2 d1
noncomputable def c3 (rf : T.RF) (d1 : List UInt8) : Option (List XK × Int × Int) := rf 3 d1
noncomputable def c4 (rf : T.RF) (d1 : List UInt8) (d2 : Int) : Option (XK × Int) := rf 4 (d1, d2)
noncomputable def c5 (rf : T.RF) (d1 : Int) : Option Bool := rf 5 d1
noncomputable def c6 (rf : T.RF) (d1 : List UInt8) : Option Int := rf 6 d1
noncomputable def c7 (rf : T.RF) (d1 : Int) : Option Bool := rf 7 d1
noncomputable def c8 (rf : T.RF) (d1 : List UInt8) (d2 : Int) : Option (XK × Int) := rf 8 (d1, d2)
noncomputable def c9 (rf : T.RF) (d1 : List UInt8) : Option Bool := rf 9 d1
noncomputable def c10 (rf : T.RF) : Option (List (List UInt8)) := rf 10 ()
noncomputable def c11 (rf : T.RF) (d1 : List UInt8) : Option Bool := rf 11 d1
noncomputable def c12 (rf : T.RF) (d1 : List UInt8) : Option (List UInt8) := rf 12 d1
noncomputable def c13 (rf : T.RF) : Option (List (List UInt8)) := rf 13 ()
noncomputable def c14 (rf : T.RF) (d1 : List XK) (d2 : Int) : Option (List XN × Int × Int × Int) := rf 14 (d1, d2)
noncomputable def c15 (rf : T.RF) (d1 : List XK × Int × Int × Int × Int) : Option ((List XK × Int × Int × Int × Int) × List XN) := rf 15 d1
noncomputable def c16 (rf : T.RF) (d1 : List XK × Int × Int × Int × Int) : Option ((List XK × Int × Int × Int × Int) × List XN) := rf 16 d1
noncomputable def c17 (rf : T.RF) (d1 : List XK × Int × Int × Int × Int) : Option ((List XK × Int × Int × Int × Int) × List XN) := rf 17 d1
noncomputable def c18 (rf : T.RF) (d1 : List XK × Int × Int × Int × Int) : Option ((List XK × Int × Int × Int × Int) × List XN) := rf 18 d1
noncomputable def c19 (rf : T.RF) (d1 : List XK × Int × Int × Int × Int) : Option ((List XK × Int × Int × Int × Int) × List XN) := rf 19 d1
noncomputable def c20 (rf : T.RF) (d1 : List XK × Int × Int × Int × Int) : Option ((List XK × Int × Int × Int × Int) × List XN) := rf 20 d1
noncomputable def c21 (rf : T.RF) (d1 : List XK × Int × Int × Int × Int) : Option ((List XK × Int × Int × Int × Int) × List XN) := rf 21 d1
noncomputable def c22 (rf : T.RF) (d1 : List XK × Int × Int × Int × Int) : Option ((List XK × Int × Int × Int × Int) × List XN) := rf 22 d1
noncomputable def c23 (rf : T.RF) (d1 : List XK × Int × Int × Int × Int) : Option ((List XK × Int × Int × Int × Int) × List XN) := rf 23 d1
noncomputable def c24 (rf : T.RF) (d1 : List XK × Int × Int × Int × Int) (d2 : Int) : Option ((List XK × Int × Int × Int × Int) × List XN) := rf 24 (d1, d2)
noncomputable def c25 (rf : T.RF) (d1 : List XK) (d2 : Int) : Option Int := rf 25 (d1, d2)
noncomputable def c26 (rf : T.RF) (d1 : List XK × Int × Int × Int × Int) (d2 : XK) : Option ((List XK × Int × Int × Int × Int) × List XN) := rf 26 (d1, d2)
noncomputable def c27 (rf : T.RF) (d1 : Int) (d2 : Int) (d3 : List UInt8) (d4 : List (List XN)) : Option (List XN) := rf 27 (d1, d2, d3, d4)
noncomputable def c28 (rf : T.RF) (d1 : Int) (d2 : Int) (d3 : List UInt8) : Option XN := rf 28 (d1, d2, d3)
noncomputable def c29 (rf : T.RF) (d1 : XN) : Option (List Int) := rf 29 d1
noncomputable def c30 (rf : T.RF) (d1 : List XN) (d2 : List XN) : Option (List XN) := rf 30 (d1, d2)
noncomputable def c31 (rf : T.RF) (d1 : XN) (d2 : Int) : Option XN := rf 31 (d1, d2)
noncomputable def c32 (rf : T.RF) (d1 : XN) (d2 : List Int) : Option XN := rf 32 (d1, d2)
noncomputable def c33 (rf : T.RF) (d1 : List XK × Int × Int × Int × Int) (d2 : List UInt8) : Option ((List XK × Int × Int × Int × Int) × List XN) := rf 33 (d1, d2)
noncomputable def c34 (rf : T.RF) (d1 : List XK × Int × Int × Int × Int) (d2 : List UInt8) : Option ((List XK × Int × Int × Int × Int) × Bool) := rf 34 (d1, d2)
noncomputable def c35 (rf : T.RF) (d1 : List XK × Int × Int × Int × Int) (d2 : List UInt8) : Option ((List XK × Int × Int × Int × Int) × Bool) := rf 35 (d1, d2)
noncomputable def c36 (rf : T.RF) (d1 : List XK × Int × Int × Int × Int) : Option ((List XK × Int × Int × Int × Int) × List (List XN)) := rf 36 d1
noncomputable def c37 (rf : T.RF) (d1 : List XK × Int × Int × Int × Int) (d2 : List UInt8) : Option (List XK × Int × Int × Int × Int) := rf 37 (d1, d2)
noncomputable def c38 (rf : T.RF) (d1 : List UInt8) : Option Int := rf 38 d1
noncomputable def c39 (rf : T.RF) (d1 : List XK × Int × Int × Int × Int) : Option ((List XK × Int × Int × Int × Int) × List XN) := rf 39 d1
noncomputable def c40 (rf : T.RF) (d1 : List XK × Int × Int × Int × Int) : Option ((List XK × Int × Int × Int × Int) × List XN) := rf 40 d1
noncomputable def c41 (rf : T.RF) (d1 : List XK × Int × Int × Int × Int) (d2 : Int) (d3 : List XN) (d4 : List XN) : Option ((List XK × Int × Int × Int × Int) × List XN) := rf 41 (d1, d2, d3, d4)
noncomputable def c42 (rf : T.RF) (d1 : List XN) : Option Int := rf 42 d1
noncomputable def c43 (rf : T.RF) (d1 : List XN) : Option (List UInt8) := rf 43 d1
noncomputable def c44 (rf : T.RF) (d1 : List XN) : Option Bool := rf 44 d1
noncomputable def c45 (rf : T.RF) (d1 : List XN) : Option Bool := rf 45 d1
noncomputable def c46 (rf : T.RF) (d1 : XN) : Option Bool := rf 46 d1
noncomputable def c47 (rf : T.RF) (d1 : XN) : Option (List Int) := rf 47 d1
noncomputable def c48 (rf : T.RF) (d1 : XN) (d2 : List Int) : Option XN := rf 48 (d1, d2)
noncomputable def c49 (rf : T.RF) (d1 : List Bool) (d2 : Bool) : Option Bool := rf 49 (d1, d2)
noncomputable def c50 (rf : T.RF) (d1 : List Bool) (d2 : Bool) : Option Int := rf 50 (d1, d2)
noncomputable def c51 (rf : T.RF) (d1 : List XN) : Option Int := rf 51 d1
noncomputable def c52 (rf : T.RF) (d1 : List XN) : Option (List Int) := rf 52 d1
noncomputable def c53 (rf : T.RF) (d1 : List XN) : Option Bool := rf 53 d1
noncomputable def c54 (rf : T.RF) (d1 : List XN) : Option Int := rf 54 d1
noncomputable def c55 (rf : T.RF) (d1 : XN) : Option Bool := rf 55 d1
noncomputable def c56 (rf : T.RF) (d1 : List UInt8) : Option Bool := rf 56 d1
noncomputable def c57 (rf : T.RF) (d1 : List UInt8) : Option (List UInt8) := rf 57 d1
noncomputable def c58 (rf : T.RF) (d1 : Int) : Option Bool := rf 58 d1
noncomputable def c59 (rf : T.RF) (d1 : List UInt8) : Option Bool := rf 59 d1
noncomputable def c60 (rf : T.RF) (d1 : List (List UInt8)) (d2 : List UInt8) : Option (Int × Bool) := rf 60 (d1, d2)
noncomputable def c61 (rf : T.RF) (d1 : List UInt8) (d2 : List UInt8) : Option Bool := rf 61 (d1, d2)
noncomputable def c62 (rf : T.RF) (d1 : List UInt8) : Option Bool := rf 62 d1
noncomputable def c63 (rf : T.RF) (d1 : List UInt8) : Option Bool := rf 63 d1
noncomputable def c64 (rf : T.RF) (d1 : List XN) (d2 : List XK) (d3 : Int) : Option (List XN × List XK) := rf 64 (d1, d2, d3)
noncomputable def c65 (rf : T.RF) (d1 : Int) : Option (List UInt8 × Int) := rf 65 d1
noncomputable def c66 (rf : T.RF) : Option (List UInt8 × Int × List UInt8 × Int × List UInt8 × Int × List UInt8 × Int × List UInt8 × Int × List UInt8 × Int × List UInt8 × Int × List UInt8 × Int × List UInt8 × Int × List UInt8 × Int × List UInt8 × Int × List UInt8 × Int × List UInt8 × Int × List UInt8 × Int × List UInt8 × Int × List UInt8 × Int × List UInt8 × Int × List UInt8 × Int × List UInt8 × Int × List UInt8 × Int × List UInt8 × Int × List UInt8 × Int × List UInt8 × Int × List UInt8 × Int × List UInt8 × Int × List UInt8 × Int × List UInt8 × XK) := rf 66 ()
noncomputable def c67 (rf : T.RF) (d1 : Int) : Option (List UInt8) := rf 67 d1
noncomputable def c68 (rf : T.RF) (d1 : List XN) (d2 : List XK) (d3 : List (List UInt8)) : Option (List XN × List XK) := rf 68 (d1, d2, d3)
noncomputable def c69 (rf : T.RF) (d1 : Bool) : Option (List UInt8) := rf 69 d1
noncomputable def c70 (rf : T.RF) (d1 : Bool) : Option (List UInt8) := rf 70 d1
noncomputable def c71 (rf : T.RF) (d1 : List XN) (d2 : List XK) (d3 : Int) : Option (List XN × List XK) := rf 71 (d1, d2, d3)
noncomputable def c72 (rf : T.RF) (d1 : List XN) (d2 : List XK) (d3 : Int) (d4 : Int) : Option (List XN × List XK) := rf 72 (d1, d2, d3, d4)
noncomputable def c73 (rf : T.RF) (d1 : Int) : Option Int := rf 73 d1
noncomputable def c74 (rf : T.RF) (d1 : List XK) : Option (List UInt8) := rf 74 d1
noncomputable def c75 (rf : T.RF) (d1 : Int) : Option (List UInt8) := rf 75 d1
noncomputable def c76 (rf : T.RF) (d1 : List XN) : Option (List UInt8) := rf 76 d1
noncomputable def c77 (rf : T.RF) (d1 : List XN) : Option Bool := rf 77 d1
noncomputable def c78 (rf : T.RF) (d1 : List XN) : Option Bool := rf 78 d1
noncomputable def c79 (rf : T.RF) (d1 : XN) : Option Bool := rf 79 d1
noncomputable def c80 (rf : T.RF) (d1 : XN) : Option Bool := rf 80 d1
noncomputable def c81 (rf : T.RF) (d1 : List XN) (d2 : Int) : Option Bool := rf 81 (d1, d2)
noncomputable def c82 (rf : T.RF) (d1 : List XN) (d2 : Int) : Option (List UInt8) := rf 82 (d1, d2)
noncomputable def c83 (rf : T.RF) (d1 : Int) : Option (List UInt8) := rf 83 d1
noncomputable def c84 (rf : T.RF) (d1 : List XN) (d2 : Int) : Option (List UInt8) := rf 84 (d1, d2)
noncomputable def c85 (rf : T.RF) (d1 : List XN) (d2 : Int) (d3 : Int) : Option (List UInt8) := rf 85 (d1, d2, d3)
noncomputable def c86 (rf : T.RF) (d1 : Int) : Option Int := rf 86 d1
noncomputable def c87 (rf : T.RF) (d1 : Int) : Option (List UInt8) := rf 87 d1
noncomputable def c88 (rf : T.RF) (d1 : List XN) : Option Bool := rf 88 d1
noncomputable def c89 (rf : T.RF) (d1 : List XN) : Option (List XN) := rf 89 d1
noncomputable def c90 (rf : T.RF) (d1 : List XN) (d2 : Int) : Option (List XN) := rf 90 (d1, d2)
noncomputable def c91 (rf : T.RF) (d1 : List XN) (d2 : List XN) (d3 : Int) : Option (List XN) := rf 91 (d1, d2, d3)
noncomputable def c92 (rf : T.RF) (d1 : List XN) (d2 : List XN) : Option Bool := rf 92 (d1, d2)
noncomputable def c93 (rf : T.RF) (d1 : List UInt8) : Option Bool := rf 93 d1
noncomputable def c94 (rf : T.RF) (d1 : List XN) : Option Bool := rf 94 d1
noncomputable def c95 (rf : T.RF) (d1 : List XN) (d2 : List XN) : Option Bool := rf 95 (d1, d2)
noncomputable def k2 (rb : T.RB) (d1 : List UInt8) (d2 : Int) : Option Int := rb 2 (d1, d2)
noncomputable def k3 (rb : T.RB) (d1 : List UInt8) (d2 : Int) (d3 : Int) : Option Int := rb 3 (d1, d2, d3)
noncomputable def k4 (rb : T.RB) (d1 : List UInt8) (d2 : Int) : Option Int := rb 4 (d1, d2)
noncomputable def k5 (rb : T.RB) (d1 : List (List UInt8)) (d2 : List UInt8) (d3 : Int) : Option ((List (List UInt8) × Bool) ⊕ (List (List UInt8))) := rb 5 (d1, d2, d3)
noncomputable def k6 (rb : T.RB) (d1 : List UInt8) (d2 : Int) : Option (Bool ⊕ Unit) := rb 6 (d1, d2)
noncomputable def k7 (rb : T.RB) (d1 : List (List UInt8)) (d2 : List UInt8) (d3 : Int) : Option ((List (List UInt8) × List UInt8) ⊕ (List (List UInt8))) := rb 7 (d1, d2, d3)
noncomputable def k8 (rb : T.RB) (d1 : Int × Int) (d2 : List XK) (d3 : List UInt8) (d4 : Int) : Option (((Int × Int) × List XK) ⊕ ((Int × Int) × List XK)) := rb 8 (d1, d2, d3, d4)
noncomputable def k9 (rb : T.RB) (d1 : List UInt8) (d2 : Int) : Option Int := rb 9 (d1, d2)
noncomputable def k13 (rb : T.RB) (d1 : List XN) (d2 : List XN) (d3 : Int) (d4 : Int) : Option (List XN) := rb 13 (d1, d2, d3, d4)
noncomputable def k14 (rb : T.RB) (d1 : List XN) (d2 : List Int) (d3 : Int) (d4 : List (List XN)) (d5 : Int) (d6 : Int) : Option ((List XN) ⊕ (List XN × List Int × Int)) := rb 14 (d1, d2, d3, d4, d5, d6)
noncomputable def k16 (rb : T.RB) (d1 : List XK × Int × Int × Int × Int) (d2 : List (List XN)) : Option (((List XK × Int × Int × Int × Int) × List (List XN)) ⊕ (List XK × Int × Int × Int × Int)) := rb 16 (d1, d2)
noncomputable def k18 (rb : T.RB) (d1 : List XK × Int × Int × Int × Int) (d2 : List XN) : Option ((List XK × Int × Int × Int × Int) × List XN) := rb 18 (d1, d2)
noncomputable def k20 (rb : T.RB) (d1 : List XK × Int × Int × Int × Int) (d2 : List XN) : Option ((List XK × Int × Int × Int × Int) × List XN) := rb 20 (d1, d2)
noncomputable def k22 (rb : T.RB) (d1 : List XK × Int × Int × Int × Int) (d2 : List XN) : Option ((List XK × Int × Int × Int × Int) × List XN) := rb 22 (d1, d2)
noncomputable def k24 (rb : T.RB) (d1 : List XK × Int × Int × Int × Int) (d2 : List XN) : Option ((List XK × Int × Int × Int × Int) × List XN) := rb 24 (d1, d2)
noncomputable def k26 (rb : T.RB) (d1 : List XK × Int × Int × Int × Int) (d2 : List XN) : Option ((List XK × Int × Int × Int × Int) × List XN) := rb 26 (d1, d2)
noncomputable def k34 (rb : T.RB) (d1 : List Int) (d2 : List XN) (d3 : Int) : Option (List Int) := rb 34 (d1, d2, d3)
noncomputable def k35 (rb : T.RB) (d1 : List Int) (d2 : List Int) (d3 : Int) (d4 : Int) : Option (List Int × List Int) := rb 35 (d1, d2, d3, d4)
noncomputable def k37 (rb : T.RB) (d1 : Int × Int) (d2 : List XK) (d3 : Int) : Option (((Int × Int) × List XN × Int) ⊕ ((Int × Int) × List XN × Int)) := rb 37 (d1, d2, d3)
noncomputable def k38 (rb : T.RB) (d1 : List Bool) (d2 : List XN) (d3 : List XN) (d4 : Int) (d5 : Int) : Option ((List Bool × Bool) ⊕ (List Bool)) := rb 38 (d1, d2, d3, d4, d5)
noncomputable def k39 (rb : T.RB) (d1 : XN) (d2 : Int) : Option (XN × Bool) := rb 39 (d1, d2)
noncomputable def k40 (rb : T.RB) (d1 : XN) (d2 : XN) (d3 : Int) : Option (XN × XN × Bool) := rb 40 (d1, d2, d3)
noncomputable def k41 (rb : T.RB) (d1 : List Bool) (d2 : XN) (d3 : List Int) (d4 : List XN) (d5 : Int) (d6 : Int) (d7 : Int) : Option ((List Bool × XN × List Int × Bool) ⊕ (List Bool × XN × List Int)) := rb 41 (d1, d2, d3, d4, d5, d6, d7)
noncomputable def k42 (rb : T.RB) (d1 : List Bool) (d2 : Bool) (d3 : Int) (d4 : Int) : Option (Int ⊕ Unit) := rb 42 (d1, d2, d3, d4)
noncomputable def k49 (rb : T.RB) (d1 : List Int) (d2 : List XN) (d3 : Int) (d4 : Int) : Option (List Int) := rb 49 (d1, d2, d3, d4)
noncomputable def k50 (rb : T.RB) (d1 : List Int) (d2 : List Int) (d3 : Int) (d4 : Int) (d5 : Int) : Option (List Int × List Int) := rb 50 (d1, d2, d3, d4, d5)
noncomputable def k51 (rb : T.RB) (d1 : List XN) (d2 : Int) (d3 : Int) : Option (Int ⊕ Unit) := rb 51 (d1, d2, d3)
noncomputable def k52 (rb : T.RB) (d1 : List (List UInt8)) (d2 : List UInt8) (d3 : Int) (d4 : Int) : Option Int := rb 52 (d1, d2, d3, d4)
noncomputable def k54 (rb : T.RB) (d1 : List XN) (d2 : List XK) (d3 : List (List UInt8)) (d4 : Int) (d5 : Int) : Option (List XN × List XK) := rb 54 (d1, d2, d3, d4, d5)
noncomputable def k55 (rb : T.RB) (d1 : List Int) (d2 : List XN) (d3 : Int) : Option ((List Int × Bool) ⊕ (List Int)) := rb 55 (d1, d2, d3)
noncomputable def k56 (rb : T.RB) (d1 : List Int) (d2 : List Int) (d3 : Int) (d4 : Int) : Option ((List Int × List Int × Bool) ⊕ (List Int × List Int)) := rb 56 (d1, d2, d3, d4)
noncomputable def k57 (rb : T.RB) (d1 : XN) (d2 : List Int) (d3 : List XN) (d4 : Int) : Option ((XN × List Int × Bool) ⊕ (XN × List Int)) := rb 57 (d1, d2, d3, d4)
noncomputable def k58 (rb : T.RB) (d1 : List Int) (d2 : List XN) (d3 : Int) : Option ((List Int × Bool) ⊕ (List Int)) := rb 58 (d1, d2, d3)
noncomputable def k59 (rb : T.RB) (d1 : List XN) (d2 : Int) : Option (Bool ⊕ Unit) := rb 59 (d1, d2)
noncomputable def k61 (rb : T.RB) (d1 : List (List UInt8)) (d2 : List XN) (d3 : Int) : Option (List (List UInt8)) := rb 61 (d1, d2, d3)
noncomputable def k62 (rb : T.RB) (d1 : List (List UInt8)) (d2 : List UInt8) (d3 : Int) : Option (List (List UInt8) × List UInt8) := rb 62 (d1, d2, d3)
noncomputable def k64 (rb : T.RB) (d1 : List XN) (d2 : List Int) (d3 : List Int) (d4 : List XN) (d5 : Int) : Option (List Int × List XN × List Int) := rb 64 (d1, d2, d3, d4, d5)
noncomputable def k65 (rb : T.RB) (d1 : List XN) (d2 : List XN) (d3 : Int) : Option (Bool ⊕ Unit) := rb 65 (d1, d2, d3)

/- bailmentref02.digit -/
noncomputable def r5 (rf : T.RF) (rb : T.RB) (d1 : Int) : Option Bool :=
  bif decide (d1 ≥ 48) then
    some (decide (d1 ≤ 57))
  else
    some false
theorem er5 (rf : T.RF) (rb : T.RB) (d1 : Int) : T.stepF rf rb 5 d1 = r5 rf rb d1 := by kernel_rfl
theorem or5 {d1 : Int} {y : Bool} (h : r5 T.rf T.rb d1 = some y) : c5 T.rf d1 = some y := T.rf_of (f := 5) (d := d1) ((er5 T.rf T.rb d1).trans h)

/- bailmentref02.Value loop 0 -/
noncomputable def b3 (rf : T.RF) (rb : T.RB) (d1 : List UInt8) (d2 : Int) (d3 : Int) : Option Int :=
  bif decide (d3 < (((d1.length : Nat) : Int))) then
    bif decide (d2 ≤ 2147483647) then
      bif inb d3 d1.length then
        (nth d1 d3.toNat).bind fun (b1 : UInt8) =>
        k3 rb d1 (IntKind.i64.wrap ((IntKind.i64.wrap (10 * d2)) + (IntKind.i64.wrap (IntKind.u8.wrap ((((b1.toNat : Nat) : Int)) - 48))))) (IntKind.i64.wrap (d3 + 1))
      else
        none
    else
      some d2
  else
    some d2
theorem eb3 (rf : T.RF) (rb : T.RB) (d1 : List UInt8) (d2 : Int) (d3 : Int) : T.stepB rf rb 3 (d1, d2, d3) = b3 rf rb d1 d2 d3 := by kernel_rfl
theorem ob3 {d1 : List UInt8} {d2 : Int} {d3 : Int} {y : Int} (h : b3 T.rf T.rb d1 d2 d3 = some y) : k3 T.rb d1 d2 d3 = some y := T.rb_of (κ := 3) (d := (d1, d2, d3)) ((eb3 T.rf T.rb d1 d2 d3).trans h)

/- bailmentref02.Value -/
noncomputable def r6 (rf : T.RF) (rb : T.RB) (d1 : List UInt8) : Option Int :=
  (k3 rb d1 0 0).bind fun (z1 : Int) =>
  some z1
theorem er6 (rf : T.RF) (rb : T.RB) (d1 : List UInt8) : T.stepF rf rb 6 d1 = r6 rf rb d1 := by kernel_rfl
theorem or6 {d1 : List UInt8} {y : Int} (h : r6 T.rf T.rb d1 = some y) : c6 T.rf d1 = some y := T.rf_of (f := 6) (d := d1) ((er6 T.rf T.rb d1).trans h)

/- bailmentref02.letter -/
noncomputable def r7 (rf : T.RF) (rb : T.RB) (d1 : Int) : Option Bool :=
  bif decide (d1 ≥ 97) then
    bif decide (d1 ≤ 122) then
      some true
    else
      some (d1 == 95)
  else
    some (d1 == 95)
theorem er7 (rf : T.RF) (rb : T.RB) (d1 : Int) : T.stepF rf rb 7 d1 = r7 rf rb d1 := by kernel_rfl
theorem or7 {d1 : Int} {y : Bool} (h : r7 T.rf T.rb d1 = some y) : c7 T.rf d1 = some y := T.rf_of (f := 7) (d := d1) ((er7 T.rf T.rb d1).trans h)

/- bailmentref02.Words -/
noncomputable def r10 (rf : T.RF) (rb : T.RB) : Option (List (List UInt8)) :=
  some [([97, 110, 100] : List UInt8), ([97, 115, 115, 117, 109, 101] : List UInt8), ([98, 111, 111, 108] : List UInt8), ([99, 111, 110, 116, 114, 97, 99, 116] : List UInt8), ([100, 105, 118] : List UInt8), ([101, 108, 115, 101] : List UInt8), ([101, 110, 100] : List UInt8), ([101, 110, 115, 117, 114, 101] : List UInt8), ([102, 97, 108, 108, 98, 97, 99, 107] : List UInt8), ([102, 97, 108, 115, 101] : List UInt8), ([103, 104, 111, 115, 116] : List UInt8), ([103, 117, 97, 114, 97, 110, 116, 101, 101] : List UInt8), ([104, 105, 115, 116] : List UInt8), ([105, 102] : List UInt8), ([105, 109, 112, 111, 114, 116] : List UInt8), ([105, 110, 116] : List UInt8), ([108, 101, 116] : List UInt8), ([109, 97, 105, 110] : List UInt8), ([109, 111, 100] : List UInt8), ([109, 111, 100, 101] : List UInt8), ([110, 111, 100, 101] : List UInt8), ([110, 111, 116] : List UInt8), ([111, 110, 99, 101] : List UInt8), ([111, 114] : List UInt8), ([112, 114, 101] : List UInt8), ([112, 114, 101, 118] : List UInt8), ([114, 101, 113, 117, 105, 114, 101] : List UInt8), ([114, 101, 116, 117, 114, 110, 115] : List UInt8), ([115, 105, 110, 99, 101] : List UInt8), ([116, 101, 108] : List UInt8), ([116, 104, 101, 110] : List UInt8), ([116, 114, 117, 101] : List UInt8), ([118, 97, 114] : List UInt8), ([119, 105, 116, 104, 105, 110] : List UInt8), ([120, 111, 114] : List UInt8)]
theorem er10 (rf : T.RF) (rb : T.RB) : T.stepF rf rb 10 () = r10 rf rb := by kernel_rfl
theorem or10 {y : (List (List UInt8))} (h : r10 T.rf T.rb = some y) : c10 T.rf = some y := T.rf_of (f := 10) (d := ()) ((er10 T.rf T.rb).trans h)

/- bailmentref02.IsWord loop 0 -/
noncomputable def b5 (rf : T.RF) (rb : T.RB) (d1 : List (List UInt8)) (d2 : List UInt8) (d3 : Int) : Option ((List (List UInt8) × Bool) ⊕ (List (List UInt8))) :=
  bif decide (d3 < (((d1.length : Nat) : Int))) then
    bif inb d3 d1.length then
      (nth d1 d3.toNat).bind fun (x1 : List UInt8) =>
      bif x1 == d2 then
        some (.inl (d1, true))
      else
        k5 rb d1 d2 (IntKind.i64.wrap (d3 + 1))
    else
      none
  else
    some (.inr d1)
theorem eb5 (rf : T.RF) (rb : T.RB) (d1 : List (List UInt8)) (d2 : List UInt8) (d3 : Int) : T.stepB rf rb 5 (d1, d2, d3) = b5 rf rb d1 d2 d3 := by kernel_rfl
theorem ob5 {d1 : List (List UInt8)} {d2 : List UInt8} {d3 : Int} {y : ((List (List UInt8) × Bool) ⊕ (List (List UInt8)))} (h : b5 T.rf T.rb d1 d2 d3 = some y) : k5 T.rb d1 d2 d3 = some y := T.rb_of (κ := 5) (d := (d1, d2, d3)) ((eb5 T.rf T.rb d1 d2 d3).trans h)

/- bailmentref02.IsWord -/
noncomputable def r9 (rf : T.RF) (rb : T.RB) (d1 : List UInt8) : Option Bool :=
  (c10 rf).bind fun (y1 : List (List UInt8)) =>
  (k5 rb y1 d1 0).bind fun (z2 : (List (List UInt8) × Bool) ⊕ (List (List UInt8))) =>
  match z2 with
  | .inl u3 =>
    some u3.2
  | .inr w4 =>
    some false
theorem er9 (rf : T.RF) (rb : T.RB) (d1 : List UInt8) : T.stepF rf rb 9 d1 = r9 rf rb d1 := by kernel_rfl
theorem or9 {d1 : List UInt8} {y : Bool} (h : r9 T.rf T.rb d1 = some y) : c9 T.rf d1 = some y := T.rf_of (f := 9) (d := d1) ((er9 T.rf T.rb d1).trans h)

/- bailmentref02.IsName loop 0 -/
noncomputable def b6 (rf : T.RF) (rb : T.RB) (d1 : List UInt8) (d2 : Int) : Option (Bool ⊕ Unit) :=
  bif decide (d2 < (((d1.length : Nat) : Int))) then
    bif inb d2 d1.length then
      (nth d1 d2.toNat).bind fun (b1 : UInt8) =>
      (c7 rf (((b1.toNat : Nat) : Int))).bind fun (y2 : Bool) =>
      bif !y2 then
        bif inb d2 d1.length then
          (nth d1 d2.toNat).bind fun (b3 : UInt8) =>
          (c5 rf (((b3.toNat : Nat) : Int))).bind fun (y4 : Bool) =>
          bif !y4 then
            some (.inl false)
          else
            k6 rb d1 (IntKind.i64.wrap (d2 + 1))
        else
          none
      else
        k6 rb d1 (IntKind.i64.wrap (d2 + 1))
    else
      none
  else
    some (.inr ())
theorem eb6 (rf : T.RF) (rb : T.RB) (d1 : List UInt8) (d2 : Int) : T.stepB rf rb 6 (d1, d2) = b6 rf rb d1 d2 := by kernel_rfl
theorem ob6 {d1 : List UInt8} {d2 : Int} {y : (Bool ⊕ Unit)} (h : b6 T.rf T.rb d1 d2 = some y) : k6 T.rb d1 d2 = some y := T.rb_of (κ := 6) (d := (d1, d2)) ((eb6 T.rf T.rb d1 d2).trans h)

/- bailmentref02.IsName -/
noncomputable def r11 (rf : T.RF) (rb : T.RB) (d1 : List UInt8) : Option Bool :=
  bif d1 == ([] : List UInt8) then
    some false
  else
  bif decide ((((d1.length : Nat) : Int)) > 40) then
    some false
  else
  bif inb 0 d1.length then
    (nth d1 0).bind fun (b1 : UInt8) =>
    (c7 rf (((b1.toNat : Nat) : Int))).bind fun (y2 : Bool) =>
    bif !y2 then
      some false
    else
      (c9 rf d1).bind fun (y3 : Bool) =>
      bif y3 then
        some false
      else
        (k6 rb d1 0).bind fun (z4 : Bool ⊕ Unit) =>
        match z4 with
        | .inl u5 =>
          some u5
        | .inr w6 =>
          some true
  else
    none
theorem er11 (rf : T.RF) (rb : T.RB) (d1 : List UInt8) : T.stepF rf rb 11 d1 = r11 rf rb d1 := by kernel_rfl
theorem or11 {d1 : List UInt8} {y : Bool} (h : r11 T.rf T.rb d1 = some y) : c11 T.rf d1 = some y := T.rf_of (f := 11) (d := d1) ((er11 T.rf T.rb d1).trans h)

/- bailmentref02.word -/
noncomputable def r8 (rf : T.RF) (rb : T.RB) (d1 : List UInt8) (d2 : Int) : Option (XK × Int) :=
  (c9 rf d1).bind fun (y1 : Bool) =>
  bif y1 then
    some ((3, d1, d2), 0)
  else
    (c11 rf d1).bind fun (y2 : Bool) =>
    bif !y2 then
      some ((0, ([] : List UInt8), 0), 5)
    else
      some ((1, d1, d2), 0)
theorem er8 (rf : T.RF) (rb : T.RB) (d1 : List UInt8) (d2 : Int) : T.stepF rf rb 8 (d1, d2) = r8 rf rb d1 d2 := by kernel_rfl
theorem or8 {d1 : List UInt8} {d2 : Int} {y : (XK × Int)} (h : r8 T.rf T.rb d1 d2 = some y) : c8 T.rf d1 d2 = some y := T.rf_of (f := 8) (d := (d1, d2)) ((er8 T.rf T.rb d1 d2).trans h)

/- bailmentref02.Signs -/
noncomputable def r13 (rf : T.RF) (rb : T.RB) : Option (List (List UInt8)) :=
  some [([45, 62] : List UInt8), ([61, 62] : List UInt8), ([60, 61] : List UInt8), ([62, 61] : List UInt8), ([60, 62] : List UInt8), ([61] : List UInt8), ([60] : List UInt8), ([62] : List UInt8), ([43] : List UInt8), ([45] : List UInt8), ([42] : List UInt8), ([40] : List UInt8), ([41] : List UInt8), ([44] : List UInt8), ([59] : List UInt8), ([58] : List UInt8)]
theorem er13 (rf : T.RF) (rb : T.RB) : T.stepF rf rb 13 () = r13 rf rb := by kernel_rfl
theorem or13 {y : (List (List UInt8))} (h : r13 T.rf T.rb = some y) : c13 T.rf = some y := T.rf_of (f := 13) (d := ()) ((er13 T.rf T.rb).trans h)

/- bailmentref02.sign loop 0 -/
noncomputable def b7 (rf : T.RF) (rb : T.RB) (d1 : List (List UInt8)) (d2 : List UInt8) (d3 : Int) : Option ((List (List UInt8) × List UInt8) ⊕ (List (List UInt8))) :=
  bif decide (d3 < (((d1.length : Nat) : Int))) then
    bif inb d3 d1.length then
      (nth d1 d3.toNat).bind fun (x1 : List UInt8) =>
      bif decide ((((d2.length : Nat) : Int)) ≥ (((x1.length : Nat) : Int))) then
        bif inb d3 d1.length then
          (nth d1 d3.toNat).bind fun (x2 : List UInt8) =>
          bif inb' (((x2.length : Nat) : Int)) d2.length then
            bif inb d3 d1.length then
              (nth d1 d3.toNat).bind fun (x3 : List UInt8) =>
              bif (sub d2 (some (0, (x2.length - 0)))) == x3 then
                bif inb d3 d1.length then
                  (nth d1 d3.toNat).bind fun (x4 : List UInt8) =>
                  some (.inl (d1, x4))
                else
                  none
              else
                k7 rb d1 d2 (IntKind.i64.wrap (d3 + 1))
            else
              none
          else
            none
        else
          none
      else
        k7 rb d1 d2 (IntKind.i64.wrap (d3 + 1))
    else
      none
  else
    some (.inr d1)
theorem eb7 (rf : T.RF) (rb : T.RB) (d1 : List (List UInt8)) (d2 : List UInt8) (d3 : Int) : T.stepB rf rb 7 (d1, d2, d3) = b7 rf rb d1 d2 d3 := by kernel_rfl
theorem ob7 {d1 : List (List UInt8)} {d2 : List UInt8} {d3 : Int} {y : ((List (List UInt8) × List UInt8) ⊕ (List (List UInt8)))} (h : b7 T.rf T.rb d1 d2 d3 = some y) : k7 T.rb d1 d2 d3 = some y := T.rb_of (κ := 7) (d := (d1, d2, d3)) ((eb7 T.rf T.rb d1 d2 d3).trans h)

/- bailmentref02.sign -/
noncomputable def r12 (rf : T.RF) (rb : T.RB) (d1 : List UInt8) : Option (List UInt8) :=
  (c13 rf).bind fun (y1 : List (List UInt8)) =>
  (k7 rb y1 d1 0).bind fun (z2 : (List (List UInt8) × List UInt8) ⊕ (List (List UInt8))) =>
  match z2 with
  | .inl u3 =>
    some u3.2
  | .inr w4 =>
    some ([] : List UInt8)
theorem er12 (rf : T.RF) (rb : T.RB) (d1 : List UInt8) : T.stepF rf rb 12 d1 = r12 rf rb d1 := by kernel_rfl
theorem or12 {d1 : List UInt8} {y : (List UInt8)} (h : r12 T.rf T.rb d1 = some y) : c12 T.rf d1 = some y := T.rf_of (f := 12) (d := d1) ((er12 T.rf T.rb d1).trans h)

/- bailmentref02.one loop 0 -/
noncomputable def b2 (rf : T.RF) (rb : T.RB) (d1 : List UInt8) (d2 : Int) : Option Int :=
  bif decide (d2 < (((d1.length : Nat) : Int))) then
    bif inb d2 d1.length then
      (nth d1 d2.toNat).bind fun (b1 : UInt8) =>
      (c5 rf (((b1.toNat : Nat) : Int))).bind fun (y2 : Bool) =>
      bif y2 then
        k2 rb d1 (IntKind.i64.wrap (d2 + 1))
      else
        some d2
    else
      none
  else
    some d2
theorem eb2 (rf : T.RF) (rb : T.RB) (d1 : List UInt8) (d2 : Int) : T.stepB rf rb 2 (d1, d2) = b2 rf rb d1 d2 := by kernel_rfl
theorem ob2 {d1 : List UInt8} {d2 : Int} {y : Int} (h : b2 T.rf T.rb d1 d2 = some y) : k2 T.rb d1 d2 = some y := T.rb_of (κ := 2) (d := (d1, d2)) ((eb2 T.rf T.rb d1 d2).trans h)

/- bailmentref02.one loop 2 -/
noncomputable def b4 (rf : T.RF) (rb : T.RB) (d1 : List UInt8) (d2 : Int) : Option Int :=
  bif decide (d2 < (((d1.length : Nat) : Int))) then
    bif inb d2 d1.length then
      (nth d1 d2.toNat).bind fun (b1 : UInt8) =>
      (c7 rf (((b1.toNat : Nat) : Int))).bind fun (y2 : Bool) =>
      bif y2 then
        k4 rb d1 (IntKind.i64.wrap (d2 + 1))
      else
      bif inb d2 d1.length then
        (nth d1 d2.toNat).bind fun (b3 : UInt8) =>
        (c5 rf (((b3.toNat : Nat) : Int))).bind fun (y4 : Bool) =>
        bif y4 then
          k4 rb d1 (IntKind.i64.wrap (d2 + 1))
        else
          some d2
      else
        none
    else
      none
  else
    some d2
theorem eb4 (rf : T.RF) (rb : T.RB) (d1 : List UInt8) (d2 : Int) : T.stepB rf rb 4 (d1, d2) = b4 rf rb d1 d2 := by kernel_rfl
theorem ob4 {d1 : List UInt8} {d2 : Int} {y : Int} (h : b4 T.rf T.rb d1 d2 = some y) : k4 T.rb d1 d2 = some y := T.rb_of (κ := 4) (d := (d1, d2)) ((eb4 T.rf T.rb d1 d2).trans h)

/- bailmentref02.one -/
noncomputable def r4 (rf : T.RF) (rb : T.RB) (d1 : List UInt8) (d2 : Int) : Option (XK × Int) :=
  bif inb 0 d1.length then
    (nth d1 0).bind fun (b1 : UInt8) =>
    (c5 rf (((b1.toNat : Nat) : Int))).bind fun (y2 : Bool) =>
    bif y2 then
      (k2 rb d1 0).bind fun (z3 : Int) =>
      bif decide (z3 > 1) then
        bif inb 0 d1.length then
          (nth d1 0).bind fun (b4 : UInt8) =>
          bif (((b4.toNat : Nat) : Int)) == 48 then
            some ((0, ([] : List UInt8), 0), 2)
          else
          bif inb' z3 d1.length then
            (c6 rf (sub d1 (some (0, (z3.toNat - 0))))).bind fun (y5 : Int) =>
            bif decide (y5 > 2147483647) then
              some ((0, ([] : List UInt8), 0), 2)
            else
            bif inb' z3 d1.length then
              some ((2, sub d1 (some (0, (z3.toNat - 0))), d2), 0)
            else
              none
          else
            none
        else
          none
      else
      bif inb' z3 d1.length then
        (c6 rf (sub d1 (some (0, (z3.toNat - 0))))).bind fun (y6 : Int) =>
        bif decide (y6 > 2147483647) then
          some ((0, ([] : List UInt8), 0), 2)
        else
        bif inb' z3 d1.length then
          some ((2, sub d1 (some (0, (z3.toNat - 0))), d2), 0)
        else
          none
      else
        none
    else
    bif inb 0 d1.length then
      (nth d1 0).bind fun (b7 : UInt8) =>
      (c7 rf (((b7.toNat : Nat) : Int))).bind fun (y8 : Bool) =>
      bif y8 then
        (k4 rb d1 0).bind fun (z9 : Int) =>
        bif inb' z9 d1.length then
          (c8 rf (sub d1 (some (0, (z9.toNat - 0)))) d2).bind fun (y10 : XK × Int) =>
          some y10
        else
          none
      else
        (c12 rf d1).bind fun (y11 : List UInt8) =>
        bif y11 == ([] : List UInt8) then
          some ((0, ([] : List UInt8), 0), 5)
        else
          some ((4, y11, d2), 0)
    else
      none
  else
    none
theorem er4 (rf : T.RF) (rb : T.RB) (d1 : List UInt8) (d2 : Int) : T.stepF rf rb 4 (d1, d2) = r4 rf rb d1 d2 := by kernel_rfl
theorem or4 {d1 : List UInt8} {d2 : Int} {y : (XK × Int)} (h : r4 T.rf T.rb d1 d2 = some y) : c4 T.rf d1 d2 = some y := T.rf_of (f := 4) (d := (d1, d2)) ((er4 T.rf T.rb d1 d2).trans h)

/- bailmentref02.Lex loop 0 -/
noncomputable def b8 (rf : T.RF) (rb : T.RB) (d1 : Int × Int) (d2 : List XK) (d3 : List UInt8) (d4 : Int) : Option (((Int × Int) × List XK) ⊕ ((Int × Int) × List XK)) :=
  bif decide (d4 < (((d3.length : Nat) : Int))) then
    bif inb d4 d3.length then
      (nth d3 d4.toNat).bind fun (b1 : UInt8) =>
      bif (((b1.toNat : Nat) : Int)) == 32 then
        k8 rb d1 d2 d3 (IntKind.i64.wrap (d4 + 1))
      else
      bif inb d4 d3.length then
        (nth d3 d4.toNat).bind fun (b2 : UInt8) =>
        bif (((b2.toNat : Nat) : Int)) == 9 then
          k8 rb d1 d2 d3 (IntKind.i64.wrap (d4 + 1))
        else
        bif inb d4 d3.length then
          (nth d3 d4.toNat).bind fun (b3 : UInt8) =>
          bif (((b3.toNat : Nat) : Int)) == 10 then
            k8 rb d1 d2 d3 (IntKind.i64.wrap (d4 + 1))
          else
          bif inb d4 d3.length then
            (nth d3 d4.toNat).bind fun (b4 : UInt8) =>
            bif (((b4.toNat : Nat) : Int)) == 13 then
              k8 rb d1 d2 d3 (IntKind.i64.wrap (d4 + 1))
            else
            bif decide ((IntKind.i64.wrap (d4 + 1)) < (((d3.length : Nat) : Int))) then
              bif inb d4 d3.length then
                (nth d3 d4.toNat).bind fun (b5 : UInt8) =>
                bif (((b5.toNat : Nat) : Int)) == 45 then
                  bif inb (IntKind.i64.wrap (d4 + 1)) d3.length then
                    (nth d3 (IntKind.i64.wrap (d4 + 1)).toNat).bind fun (b6 : UInt8) =>
                    bif (((b6.toNat : Nat) : Int)) == 45 then
                      (k9 rb d3 d4).bind fun (z7 : Int) =>
                      k8 rb d1 d2 d3 z7
                    else
                    bif inb' d4 d3.length then
                      (c4 rf (sub d3 (some (d4.toNat, (d3.length - d4.toNat)))) d4).bind fun (y8 : XK × Int) =>
                      bif y8.2 != 0 then
                        some (.inl ((y8.2, d4), []))
                      else
                      bif (Nat.ble (d2.length + 1) most) && true then
                        k8 rb d1 (d2 ++ [y8.1]) d3 (IntKind.i64.wrap (d4 + (((y8.1.2.1.length : Nat) : Int))))
                      else
                        none
                    else
                      none
                  else
                    none
                else
                bif inb' d4 d3.length then
                  (c4 rf (sub d3 (some (d4.toNat, (d3.length - d4.toNat)))) d4).bind fun (y9 : XK × Int) =>
                  bif y9.2 != 0 then
                    some (.inl ((y9.2, d4), []))
                  else
                  bif (Nat.ble (d2.length + 1) most) && true then
                    k8 rb d1 (d2 ++ [y9.1]) d3 (IntKind.i64.wrap (d4 + (((y9.1.2.1.length : Nat) : Int))))
                  else
                    none
                else
                  none
              else
                none
            else
            bif inb' d4 d3.length then
              (c4 rf (sub d3 (some (d4.toNat, (d3.length - d4.toNat)))) d4).bind fun (y10 : XK × Int) =>
              bif y10.2 != 0 then
                some (.inl ((y10.2, d4), []))
              else
              bif (Nat.ble (d2.length + 1) most) && true then
                k8 rb d1 (d2 ++ [y10.1]) d3 (IntKind.i64.wrap (d4 + (((y10.1.2.1.length : Nat) : Int))))
              else
                none
            else
              none
          else
            none
        else
          none
      else
        none
    else
      none
  else
    some (.inr (d1, d2))
theorem eb8 (rf : T.RF) (rb : T.RB) (d1 : Int × Int) (d2 : List XK) (d3 : List UInt8) (d4 : Int) : T.stepB rf rb 8 (d1, d2, d3, d4) = b8 rf rb d1 d2 d3 d4 := by kernel_rfl
theorem ob8 {d1 : Int × Int} {d2 : List XK} {d3 : List UInt8} {d4 : Int} {y : (((Int × Int) × List XK) ⊕ ((Int × Int) × List XK))} (h : b8 T.rf T.rb d1 d2 d3 d4 = some y) : k8 T.rb d1 d2 d3 d4 = some y := T.rb_of (κ := 8) (d := (d1, d2, d3, d4)) ((eb8 T.rf T.rb d1 d2 d3 d4).trans h)

/- bailmentref02.Lex loop 2 -/
noncomputable def b9 (rf : T.RF) (rb : T.RB) (d1 : List UInt8) (d2 : Int) : Option Int :=
  bif decide (d2 < (((d1.length : Nat) : Int))) then
    bif inb d2 d1.length then
      (nth d1 d2.toNat).bind fun (b1 : UInt8) =>
      bif (((b1.toNat : Nat) : Int)) != 10 then
        k9 rb d1 (IntKind.i64.wrap (d2 + 1))
      else
        some d2
    else
      none
  else
    some d2
theorem eb9 (rf : T.RF) (rb : T.RB) (d1 : List UInt8) (d2 : Int) : T.stepB rf rb 9 (d1, d2) = b9 rf rb d1 d2 := by kernel_rfl
theorem ob9 {d1 : List UInt8} {d2 : Int} {y : Int} (h : b9 T.rf T.rb d1 d2 = some y) : k9 T.rb d1 d2 = some y := T.rb_of (κ := 9) (d := (d1, d2)) ((eb9 T.rf T.rb d1 d2).trans h)

/- bailmentref02.Lex -/
noncomputable def r3 (rf : T.RF) (rb : T.RB) (d1 : List UInt8) : Option (List XK × Int × Int) :=
  bif decide ((((d1.length : Nat) : Int)) > 100000) then
    some ([], 7, (-1))
  else
    (k8 rb (0, 0) [] d1 0).bind fun (z1 : ((Int × Int) × List XK) ⊕ ((Int × Int) × List XK)) =>
    match z1 with
    | .inl u2 =>
      some (u2.2, u2.1)
    | .inr w3 =>
      some (w3.2, 0, 0)
theorem er3 (rf : T.RF) (rb : T.RB) (d1 : List UInt8) : T.stepF rf rb 3 d1 = r3 rf rb d1 := by kernel_rfl
theorem or3 {d1 : List UInt8} {y : (List XK × Int × Int)} (h : r3 T.rf T.rb d1 = some y) : c3 T.rf d1 = some y := T.rf_of (f := 3) (d := d1) ((er3 T.rf T.rb d1).trans h)

/- bailmentref04.At -/
noncomputable def r25 (rf : T.RF) (rb : T.RB) (d1 : List XK) (d2 : Int) : Option Int :=
  bif decide (d2 < 0) then
    some (-1)
  else
  bif decide (d2 ≥ (((d1.length : Nat) : Int))) then
    some (-1)
  else
  bif inb d2 d1.length then
    (nth d1 d2.toNat).bind fun (x1 : XK) =>
    some x1.2.2
  else
    none
theorem er25 (rf : T.RF) (rb : T.RB) (d1 : List XK) (d2 : Int) : T.stepF rf rb 25 (d1, d2) = r25 rf rb d1 d2 := by kernel_rfl
theorem or25 {d1 : List XK} {d2 : Int} {y : Int} (h : r25 T.rf T.rb d1 d2 = some y) : c25 T.rf d1 d2 = some y := T.rf_of (f := 25) (d := (d1, d2)) ((er25 T.rf T.rb d1 d2).trans h)

/- (*bailment/bailmentref04.Reader).fail -/
noncomputable def r24q (rf : T.RF) (rb : T.RB) (d1 : List XK × Int × Int × Int × Int) (d2 : Int) : Option ((List XK × Int × Int × Int × Int) × List XN) :=
  bif d1.2.2.2.1 == 0 then
    agN 1 (
      (c25 rf d1.1 d1.2.1).bind fun (y1 : Int) =>
      some ((d1.1, d1.2.1, d1.2.2.1, d2, y1), [])
    )
  else
    some (d1, [])
noncomputable def r24 (rf : T.RF) (rb : T.RB) (d1 : List XK × Int × Int × Int × Int) (d2 : Int) : Option ((List XK × Int × Int × Int × Int) × List XN) :=
  bif d1.2.2.2.1 == 0 then
    (c25 rf d1.1 d1.2.1).bind fun (y1 : Int) =>
    some ((d1.1, d1.2.1, d1.2.2.1, d2, y1), [])
  else
    some (d1, [])
theorem er24 (rf : T.RF) (rb : T.RB) (d1 : List XK × Int × Int × Int × Int) (d2 : Int) : T.stepF rf rb 24 (d1, d2) = r24q rf rb d1 d2 := by kernel_rfl
theorem sr24 (rf : T.RF) (rb : T.RB) (d1 : List XK × Int × Int × Int × Int) (d2 : Int) : r24q rf rb d1 d2 = r24 rf rb d1 d2 := by
  unfold r24q r24; simp only [agN_eq, agree_self, agree_swap]
theorem or24 {d1 : List XK × Int × Int × Int × Int} {d2 : Int} {y : ((List XK × Int × Int × Int × Int) × List XN)} (h : r24 T.rf T.rb d1 d2 = some y) : c24 T.rf d1 d2 = some y := T.rf_of (f := 24) (d := (d1, d2)) (((er24 T.rf T.rb d1 d2).trans (sr24 T.rf T.rb d1 d2)).trans h)

/- bailmentref03.leaf -/
noncomputable def r28 (rf : T.RF) (rb : T.RB) (d1 : Int) (d2 : Int) (d3 : List UInt8) : Option XN :=
  some (d1, (-1), (-1), (-1), d2, d3)
theorem er28 (rf : T.RF) (rb : T.RB) (d1 : Int) (d2 : Int) (d3 : List UInt8) : T.stepF rf rb 28 (d1, d2, d3) = r28 rf rb d1 d2 d3 := by kernel_rfl
theorem or28 {d1 : Int} {d2 : Int} {d3 : List UInt8} {y : XN} (h : r28 T.rf T.rb d1 d2 d3 = some y) : c28 T.rf d1 d2 d3 = some y := T.rf_of (f := 28) (d := (d1, d2, d3)) ((er28 T.rf T.rb d1 d2 d3).trans h)

/- bailmentref03.Kids -/
noncomputable def r29 (rf : T.RF) (rb : T.RB) (d1 : XN) : Option (List Int) :=
  bif d1.1 == 4 then
    bif d1.1 == 4 then
      some [d1.2.1]
    else
    bif d1.1 == 26 then
      some [d1.2.1, d1.2.2.1, d1.2.2.2.1]
    else
    bif d1.1 == 27 then
      bif d1.2.1 != (-1) then
        some [d1.2.1]
      else
        some []
    else
    bif d1.1 == 28 then
      bif d1.2.2.1 != (-1) then
        some [d1.2.2.1, d1.2.1]
      else
        some [d1.2.1]
    else
    bif decide (d1.1 ≥ 6) then
      bif decide (d1.1 ≤ 20) then
        some [d1.2.1, d1.2.2.1]
      else
        some []
    else
      some []
  else
  bif d1.1 == 5 then
    bif d1.1 == 5 then
      some [d1.2.1]
    else
    bif d1.1 == 26 then
      some [d1.2.1, d1.2.2.1, d1.2.2.2.1]
    else
    bif d1.1 == 27 then
      bif d1.2.1 != (-1) then
        some [d1.2.1]
      else
        some []
    else
    bif d1.1 == 28 then
      bif d1.2.2.1 != (-1) then
        some [d1.2.2.1, d1.2.1]
      else
        some [d1.2.1]
    else
    bif decide (d1.1 ≥ 6) then
      bif decide (d1.1 ≤ 20) then
        some [d1.2.1, d1.2.2.1]
      else
        some []
    else
      some []
  else
  bif d1.1 == 21 then
    bif d1.1 == 21 then
      some [d1.2.1]
    else
    bif d1.1 == 26 then
      some [d1.2.1, d1.2.2.1, d1.2.2.2.1]
    else
    bif d1.1 == 27 then
      bif d1.2.1 != (-1) then
        some [d1.2.1]
      else
        some []
    else
    bif d1.1 == 28 then
      bif d1.2.2.1 != (-1) then
        some [d1.2.2.1, d1.2.1]
      else
        some [d1.2.1]
    else
    bif decide (d1.1 ≥ 6) then
      bif decide (d1.1 ≤ 20) then
        some [d1.2.1, d1.2.2.1]
      else
        some []
    else
      some []
  else
  bif d1.1 == 22 then
    bif d1.1 == 22 then
      some [d1.2.1]
    else
    bif d1.1 == 26 then
      some [d1.2.1, d1.2.2.1, d1.2.2.2.1]
    else
    bif d1.1 == 27 then
      bif d1.2.1 != (-1) then
        some [d1.2.1]
      else
        some []
    else
    bif d1.1 == 28 then
      bif d1.2.2.1 != (-1) then
        some [d1.2.2.1, d1.2.1]
      else
        some [d1.2.1]
    else
    bif decide (d1.1 ≥ 6) then
      bif decide (d1.1 ≤ 20) then
        some [d1.2.1, d1.2.2.1]
      else
        some []
    else
      some []
  else
  bif d1.1 == 23 then
    bif d1.1 == 23 then
      some [d1.2.1]
    else
    bif d1.1 == 26 then
      some [d1.2.1, d1.2.2.1, d1.2.2.2.1]
    else
    bif d1.1 == 27 then
      bif d1.2.1 != (-1) then
        some [d1.2.1]
      else
        some []
    else
    bif d1.1 == 28 then
      bif d1.2.2.1 != (-1) then
        some [d1.2.2.1, d1.2.1]
      else
        some [d1.2.1]
    else
    bif decide (d1.1 ≥ 6) then
      bif decide (d1.1 ≤ 20) then
        some [d1.2.1, d1.2.2.1]
      else
        some []
    else
      some []
  else
  bif d1.1 == 24 then
    bif d1.1 == 24 then
      some [d1.2.1]
    else
    bif d1.1 == 26 then
      some [d1.2.1, d1.2.2.1, d1.2.2.2.1]
    else
    bif d1.1 == 27 then
      bif d1.2.1 != (-1) then
        some [d1.2.1]
      else
        some []
    else
    bif d1.1 == 28 then
      bif d1.2.2.1 != (-1) then
        some [d1.2.2.1, d1.2.1]
      else
        some [d1.2.1]
    else
    bif decide (d1.1 ≥ 6) then
      bif decide (d1.1 ≤ 20) then
        some [d1.2.1, d1.2.2.1]
      else
        some []
    else
      some []
  else
  bif d1.1 == 25 then
    some [d1.2.1]
  else
  bif d1.1 == 26 then
    some [d1.2.1, d1.2.2.1, d1.2.2.2.1]
  else
  bif d1.1 == 27 then
    bif d1.2.1 != (-1) then
      some [d1.2.1]
    else
      some []
  else
  bif d1.1 == 28 then
    bif d1.2.2.1 != (-1) then
      some [d1.2.2.1, d1.2.1]
    else
      some [d1.2.1]
  else
  bif decide (d1.1 ≥ 6) then
    bif decide (d1.1 ≤ 20) then
      some [d1.2.1, d1.2.2.1]
    else
      some []
  else
    some []
theorem er29 (rf : T.RF) (rb : T.RB) (d1 : XN) : T.stepF rf rb 29 d1 = r29 rf rb d1 := by kernel_rfl
theorem or29 {d1 : XN} {y : (List Int)} (h : r29 T.rf T.rb d1 = some y) : c29 T.rf d1 = some y := T.rf_of (f := 29) (d := d1) ((er29 T.rf T.rb d1).trans h)

/- bailmentref03.move -/
noncomputable def r31 (rf : T.RF) (rb : T.RB) (d1 : XN) (d2 : Int) : Option XN :=
  bif decide (d1.2.1 ≥ 0) then
    bif decide (d1.2.2.1 ≥ 0) then
      bif decide (d1.2.2.2.1 ≥ 0) then
        some (d1.1, IntKind.i64.wrap (d1.2.1 + d2), IntKind.i64.wrap (d1.2.2.1 + d2), IntKind.i64.wrap (d1.2.2.2.1 + d2), d1.2.2.2.2)
      else
        some (d1.1, IntKind.i64.wrap (d1.2.1 + d2), IntKind.i64.wrap (d1.2.2.1 + d2), d1.2.2.2)
    else
    bif decide (d1.2.2.2.1 ≥ 0) then
      some (d1.1, IntKind.i64.wrap (d1.2.1 + d2), d1.2.2.1, IntKind.i64.wrap (d1.2.2.2.1 + d2), d1.2.2.2.2)
    else
      some (d1.1, IntKind.i64.wrap (d1.2.1 + d2), d1.2.2)
  else
  bif decide (d1.2.2.1 ≥ 0) then
    bif decide (d1.2.2.2.1 ≥ 0) then
      some (d1.1, d1.2.1, IntKind.i64.wrap (d1.2.2.1 + d2), IntKind.i64.wrap (d1.2.2.2.1 + d2), d1.2.2.2.2)
    else
      some (d1.1, d1.2.1, IntKind.i64.wrap (d1.2.2.1 + d2), d1.2.2.2)
  else
  bif decide (d1.2.2.2.1 ≥ 0) then
    some (d1.1, d1.2.1, d1.2.2.1, IntKind.i64.wrap (d1.2.2.2.1 + d2), d1.2.2.2.2)
  else
    some d1
theorem er31 (rf : T.RF) (rb : T.RB) (d1 : XN) (d2 : Int) : T.stepF rf rb 31 (d1, d2) = r31 rf rb d1 d2 := by kernel_rfl
theorem or31 {d1 : XN} {d2 : Int} {y : XN} (h : r31 T.rf T.rb d1 d2 = some y) : c31 T.rf d1 d2 = some y := T.rf_of (f := 31) (d := (d1, d2)) ((er31 T.rf T.rb d1 d2).trans h)

/- bailmentref03.behind loop 0 -/
noncomputable def b13 (rf : T.RF) (rb : T.RB) (d1 : List XN) (d2 : List XN) (d3 : Int) (d4 : Int) : Option (List XN) :=
  bif decide (d4 < (((d2.length : Nat) : Int))) then
    bif inb d4 d2.length then
      (nth d2 d4.toNat).bind fun (x1 : XN) =>
      (c31 rf x1 d3).bind fun (y2 : XN) =>
      bif (Nat.ble (d1.length + 1) most) && true then
        k13 rb (d1 ++ [y2]) d2 d3 (IntKind.i64.wrap (d4 + 1))
      else
        none
    else
      none
  else
    some d1
theorem eb13 (rf : T.RF) (rb : T.RB) (d1 : List XN) (d2 : List XN) (d3 : Int) (d4 : Int) : T.stepB rf rb 13 (d1, d2, d3, d4) = b13 rf rb d1 d2 d3 d4 := by kernel_rfl
theorem ob13 {d1 : List XN} {d2 : List XN} {d3 : Int} {d4 : Int} {y : (List XN)} (h : b13 T.rf T.rb d1 d2 d3 d4 = some y) : k13 T.rb d1 d2 d3 d4 = some y := T.rb_of (κ := 13) (d := (d1, d2, d3, d4)) ((eb13 T.rf T.rb d1 d2 d3 d4).trans h)

/- bailmentref03.behind -/
noncomputable def r30 (rf : T.RF) (rb : T.RB) (d1 : List XN) (d2 : List XN) : Option (List XN) :=
  (k13 rb d1 d2 (((d1.length : Nat) : Int)) 0).bind fun (z1 : List XN) =>
  some z1
theorem er30 (rf : T.RF) (rb : T.RB) (d1 : List XN) (d2 : List XN) : T.stepF rf rb 30 (d1, d2) = r30 rf rb d1 d2 := by kernel_rfl
theorem or30 {d1 : List XN} {d2 : List XN} {y : (List XN)} (h : r30 T.rf T.rb d1 d2 = some y) : c30 T.rf d1 d2 = some y := T.rf_of (f := 30) (d := (d1, d2)) ((er30 T.rf T.rb d1 d2).trans h)

/- bailmentref03.aim -/
noncomputable def r32 (rf : T.RF) (rb : T.RB) (d1 : XN) (d2 : List Int) : Option XN :=
  bif d1.1 == 28 then
    bif (((d2.length : Nat) : Int)) == 2 then
      bif inb 0 d2.length then
        (nth d2 0).bind fun (x1 : Int) =>
        bif inb 1 d2.length then
          (nth d2 1).bind fun (x2 : Int) =>
          some (d1.1, x2, x1, d1.2.2.2)
        else
          none
      else
        none
    else
    bif decide ((((d2.length : Nat) : Int)) > 0) then
      bif inb 0 d2.length then
        (nth d2 0).bind fun (x3 : Int) =>
        bif decide ((((d2.length : Nat) : Int)) > 1) then
          bif inb 1 d2.length then
            (nth d2 1).bind fun (x4 : Int) =>
            bif decide ((((d2.length : Nat) : Int)) > 2) then
              bif inb 2 d2.length then
                (nth d2 2).bind fun (x5 : Int) =>
                some (d1.1, x3, x4, x5, d1.2.2.2.2)
              else
                none
            else
              some (d1.1, x3, x4, d1.2.2.2)
          else
            none
        else
        bif decide ((((d2.length : Nat) : Int)) > 2) then
          bif inb 2 d2.length then
            (nth d2 2).bind fun (x6 : Int) =>
            some (d1.1, x3, d1.2.2.1, x6, d1.2.2.2.2)
          else
            none
        else
          some (d1.1, x3, d1.2.2)
      else
        none
    else
    bif decide ((((d2.length : Nat) : Int)) > 1) then
      bif inb 1 d2.length then
        (nth d2 1).bind fun (x7 : Int) =>
        bif decide ((((d2.length : Nat) : Int)) > 2) then
          bif inb 2 d2.length then
            (nth d2 2).bind fun (x8 : Int) =>
            some (d1.1, d1.2.1, x7, x8, d1.2.2.2.2)
          else
            none
        else
          some (d1.1, d1.2.1, x7, d1.2.2.2)
      else
        none
    else
    bif decide ((((d2.length : Nat) : Int)) > 2) then
      bif inb 2 d2.length then
        (nth d2 2).bind fun (x9 : Int) =>
        some (d1.1, d1.2.1, d1.2.2.1, x9, d1.2.2.2.2)
      else
        none
    else
      some d1
  else
  bif decide ((((d2.length : Nat) : Int)) > 0) then
    bif inb 0 d2.length then
      (nth d2 0).bind fun (x10 : Int) =>
      bif decide ((((d2.length : Nat) : Int)) > 1) then
        bif inb 1 d2.length then
          (nth d2 1).bind fun (x11 : Int) =>
          bif decide ((((d2.length : Nat) : Int)) > 2) then
            bif inb 2 d2.length then
              (nth d2 2).bind fun (x12 : Int) =>
              some (d1.1, x10, x11, x12, d1.2.2.2.2)
            else
              none
          else
            some (d1.1, x10, x11, d1.2.2.2)
        else
          none
      else
      bif decide ((((d2.length : Nat) : Int)) > 2) then
        bif inb 2 d2.length then
          (nth d2 2).bind fun (x13 : Int) =>
          some (d1.1, x10, d1.2.2.1, x13, d1.2.2.2.2)
        else
          none
      else
        some (d1.1, x10, d1.2.2)
    else
      none
  else
  bif decide ((((d2.length : Nat) : Int)) > 1) then
    bif inb 1 d2.length then
      (nth d2 1).bind fun (x14 : Int) =>
      bif decide ((((d2.length : Nat) : Int)) > 2) then
        bif inb 2 d2.length then
          (nth d2 2).bind fun (x15 : Int) =>
          some (d1.1, d1.2.1, x14, x15, d1.2.2.2.2)
        else
          none
      else
        some (d1.1, d1.2.1, x14, d1.2.2.2)
    else
      none
  else
  bif decide ((((d2.length : Nat) : Int)) > 2) then
    bif inb 2 d2.length then
      (nth d2 2).bind fun (x16 : Int) =>
      some (d1.1, d1.2.1, d1.2.2.1, x16, d1.2.2.2.2)
    else
      none
  else
    some d1
theorem er32 (rf : T.RF) (rb : T.RB) (d1 : XN) (d2 : List Int) : T.stepF rf rb 32 (d1, d2) = r32 rf rb d1 d2 := by kernel_rfl
theorem or32 {d1 : XN} {d2 : List Int} {y : XN} (h : r32 T.rf T.rb d1 d2 = some y) : c32 T.rf d1 d2 = some y := T.rf_of (f := 32) (d := (d1, d2)) ((er32 T.rf T.rb d1 d2).trans h)

/- bailmentref03.Join loop 0 -/
noncomputable def b14 (rf : T.RF) (rb : T.RB) (d1 : List XN) (d2 : List Int) (d3 : Int) (d4 : List (List XN)) (d5 : Int) (d6 : Int) : Option ((List XN) ⊕ (List XN × List Int × Int)) :=
  bif decide (d6 < (((d4.length : Nat) : Int))) then
    bif inb d6 d4.length then
      (nth d4 d6.toNat).bind fun (x1 : List XN) =>
      bif (((x1.length : Nat) : Int)) == 0 then
        some (.inl [])
      else
      bif inb d6 d4.length then
        (nth d4 d6.toNat).bind fun (x2 : List XN) =>
        (c30 rf d1 x2).bind fun (y3 : List XN) =>
        bif (Nat.ble (d2.length + 1) most) && true then
          bif d3 == 27 then
            (c28 rf 28 0 ([] : List UInt8)).bind fun (y4 : XN) =>
            bif (Nat.ble (y3.length + 1) most) && true then
              k14 rb (y3 ++ [(y4.1, IntKind.i64.wrap ((((y3.length : Nat) : Int)) - 1), d5, y4.2.2.2)]) (d2 ++ [IntKind.i64.wrap ((((y3.length : Nat) : Int)) - 1)]) d3 d4 (((y3.length : Nat) : Int)) (IntKind.i64.wrap (d6 + 1))
            else
              none
          else
            k14 rb y3 (d2 ++ [IntKind.i64.wrap ((((y3.length : Nat) : Int)) - 1)]) d3 d4 d5 (IntKind.i64.wrap (d6 + 1))
        else
          none
      else
        none
    else
      none
  else
    some (.inr (d1, d2, d5))
theorem eb14 (rf : T.RF) (rb : T.RB) (d1 : List XN) (d2 : List Int) (d3 : Int) (d4 : List (List XN)) (d5 : Int) (d6 : Int) : T.stepB rf rb 14 (d1, d2, d3, d4, d5, d6) = b14 rf rb d1 d2 d3 d4 d5 d6 := by kernel_rfl
theorem ob14 {d1 : List XN} {d2 : List Int} {d3 : Int} {d4 : List (List XN)} {d5 : Int} {d6 : Int} {y : ((List XN) ⊕ (List XN × List Int × Int))} (h : b14 T.rf T.rb d1 d2 d3 d4 d5 d6 = some y) : k14 T.rb d1 d2 d3 d4 d5 d6 = some y := T.rb_of (κ := 14) (d := (d1, d2, d3, d4, d5, d6)) ((eb14 T.rf T.rb d1 d2 d3 d4 d5 d6).trans h)

/- bailmentref03.Join -/
noncomputable def r27 (rf : T.RF) (rb : T.RB) (d1 : Int) (d2 : Int) (d3 : List UInt8) (d4 : List (List XN)) : Option (List XN) :=
  (c28 rf d1 d2 d3).bind fun (y1 : XN) =>
  (c29 rf y1).bind fun (y2 : List Int) =>
  bif d1 == 28 then
    some []
  else
  bif d1 != 27 then
    bif (((y2.length : Nat) : Int)) != (((d4.length : Nat) : Int)) then
      some []
    else
      (k14 rb [] [] d1 d4 (-1) 0).bind fun (z3 : (List XN) ⊕ (List XN × List Int × Int)) =>
      match z3 with
      | .inl u4 =>
        some u4
      | .inr w5 =>
        bif d1 == 27 then
          bif (Nat.ble (w5.1.length + 1) most) && true then
            some (w5.1 ++ [(y1.1, w5.2.2, y1.2.2)])
          else
            none
        else
          (c32 rf y1 w5.2.1).bind fun (y6 : XN) =>
          bif (Nat.ble (w5.1.length + 1) most) && true then
            some (w5.1 ++ [y6])
          else
            none
  else
    (k14 rb [] [] d1 d4 (-1) 0).bind fun (z7 : (List XN) ⊕ (List XN × List Int × Int)) =>
    match z7 with
    | .inl u8 =>
      some u8
    | .inr w9 =>
      bif d1 == 27 then
        bif (Nat.ble (w9.1.length + 1) most) && true then
          some (w9.1 ++ [(y1.1, w9.2.2, y1.2.2)])
        else
          none
      else
        (c32 rf y1 w9.2.1).bind fun (y10 : XN) =>
        bif (Nat.ble (w9.1.length + 1) most) && true then
          some (w9.1 ++ [y10])
        else
          none
theorem er27 (rf : T.RF) (rb : T.RB) (d1 : Int) (d2 : Int) (d3 : List UInt8) (d4 : List (List XN)) : T.stepF rf rb 27 (d1, d2, d3, d4) = r27 rf rb d1 d2 d3 d4 := by kernel_rfl
theorem or27 {d1 : Int} {d2 : Int} {d3 : List UInt8} {d4 : List (List XN)} {y : (List XN)} (h : r27 T.rf T.rb d1 d2 d3 d4 = some y) : c27 T.rf d1 d2 d3 d4 = some y := T.rf_of (f := 27) (d := (d1, d2, d3, d4)) ((er27 T.rf T.rb d1 d2 d3 d4).trans h)

/- (*bailment/bailmentref04.Reader).is -/
noncomputable def r35 (rf : T.RF) (rb : T.RB) (d1 : List XK × Int × Int × Int × Int) (d2 : List UInt8) : Option ((List XK × Int × Int × Int × Int) × Bool) :=
  bif d1.2.2.2.1 != 0 then
    some (d1, false)
  else
  bif decide (d1.2.1 ≥ (((d1.1.length : Nat) : Int))) then
    some (d1, false)
  else
  bif inb d1.2.1 d1.1.length then
    (nth d1.1 d1.2.1.toNat).bind fun (x1 : XK) =>
    bif x1.1 == 4 then
      some (d1, x1.2.1 == d2)
    else
    bif x1.1 == 3 then
      some (d1, x1.2.1 == d2)
    else
      some (d1, false)
  else
    none
theorem er35 (rf : T.RF) (rb : T.RB) (d1 : List XK × Int × Int × Int × Int) (d2 : List UInt8) : T.stepF rf rb 35 (d1, d2) = r35 rf rb d1 d2 := by kernel_rfl
theorem or35 {d1 : List XK × Int × Int × Int × Int} {d2 : List UInt8} {y : ((List XK × Int × Int × Int × Int) × Bool)} (h : r35 T.rf T.rb d1 d2 = some y) : c35 T.rf d1 d2 = some y := T.rf_of (f := 35) (d := (d1, d2)) ((er35 T.rf T.rb d1 d2).trans h)

/- (*bailment/bailmentref04.Reader).take -/
noncomputable def r34 (rf : T.RF) (rb : T.RB) (d1 : List XK × Int × Int × Int × Int) (d2 : List UInt8) : Option ((List XK × Int × Int × Int × Int) × Bool) :=
  (c35 rf d1 d2).bind fun (y1 : (List XK × Int × Int × Int × Int) × Bool) =>
  bif !y1.2 then
    some (y1.1, false)
  else
    some ((y1.1.1, IntKind.i64.wrap (y1.1.2.1 + 1), y1.1.2.2), true)
theorem er34 (rf : T.RF) (rb : T.RB) (d1 : List XK × Int × Int × Int × Int) (d2 : List UInt8) : T.stepF rf rb 34 (d1, d2) = r34 rf rb d1 d2 := by kernel_rfl
theorem or34 {d1 : List XK × Int × Int × Int × Int} {d2 : List UInt8} {y : ((List XK × Int × Int × Int × Int) × Bool)} (h : r34 T.rf T.rb d1 d2 = some y) : c34 T.rf d1 d2 = some y := T.rf_of (f := 34) (d := (d1, d2)) ((er34 T.rf T.rb d1 d2).trans h)

/- (*bailment/bailmentref04.Reader).need -/
noncomputable def r37 (rf : T.RF) (rb : T.RB) (d1 : List XK × Int × Int × Int × Int) (d2 : List UInt8) : Option (List XK × Int × Int × Int × Int) :=
  (c34 rf d1 d2).bind fun (y1 : (List XK × Int × Int × Int × Int) × Bool) =>
  bif !y1.2 then
    (c24 rf y1.1 5).bind fun (y2 : (List XK × Int × Int × Int × Int) × List XN) =>
    some y2.1
  else
    some y1.1
theorem er37 (rf : T.RF) (rb : T.RB) (d1 : List XK × Int × Int × Int × Int) (d2 : List UInt8) : T.stepF rf rb 37 (d1, d2) = r37 rf rb d1 d2 := by kernel_rfl
theorem or37 {d1 : List XK × Int × Int × Int × Int} {d2 : List UInt8} {y : (List XK × Int × Int × Int × Int)} (h : r37 T.rf T.rb d1 d2 = some y) : c37 T.rf d1 d2 = some y := T.rf_of (f := 37) (d := (d1, d2)) ((er37 T.rf T.rb d1 d2).trans h)

/- (*bailment/bailmentref04.Reader).Args loop 0 -/
noncomputable def b16 (rf : T.RF) (rb : T.RB) (d1 : List XK × Int × Int × Int × Int) (d2 : List (List XN)) : Option (((List XK × Int × Int × Int × Int) × List (List XN)) ⊕ (List XK × Int × Int × Int × Int)) :=
  bif d1.2.2.2.1 == 0 then
    (c15 rf d1).bind fun (y1 : (List XK × Int × Int × Int × Int) × List XN) =>
    bif (Nat.ble (d2.length + 1) most) && true then
      (c34 rf y1.1 ([41] : List UInt8)).bind fun (y2 : (List XK × Int × Int × Int × Int) × Bool) =>
      bif y2.2 then
        some (.inl (y2.1, d2 ++ [y1.2]))
      else
        (c37 rf y2.1 ([44] : List UInt8)).bind fun (y3 : List XK × Int × Int × Int × Int) =>
        k16 rb y3 (d2 ++ [y1.2])
    else
      none
  else
    some (.inr d1)
theorem eb16 (rf : T.RF) (rb : T.RB) (d1 : List XK × Int × Int × Int × Int) (d2 : List (List XN)) : T.stepB rf rb 16 (d1, d2) = b16 rf rb d1 d2 := by kernel_rfl
theorem ob16 {d1 : List XK × Int × Int × Int × Int} {d2 : List (List XN)} {y : (((List XK × Int × Int × Int × Int) × List (List XN)) ⊕ (List XK × Int × Int × Int × Int))} (h : b16 T.rf T.rb d1 d2 = some y) : k16 T.rb d1 d2 = some y := T.rb_of (κ := 16) (d := (d1, d2)) ((eb16 T.rf T.rb d1 d2).trans h)

/- (*bailment/bailmentref04.Reader).Args -/
noncomputable def r36 (rf : T.RF) (rb : T.RB) (d1 : List XK × Int × Int × Int × Int) : Option ((List XK × Int × Int × Int × Int) × List (List XN)) :=
  (c34 rf d1 ([41] : List UInt8)).bind fun (y1 : (List XK × Int × Int × Int × Int) × Bool) =>
  bif y1.2 then
    some (y1.1, [])
  else
    (k16 rb y1.1 []).bind fun (z2 : ((List XK × Int × Int × Int × Int) × List (List XN)) ⊕ (List XK × Int × Int × Int × Int)) =>
    match z2 with
    | .inl u3 =>
      some u3
    | .inr w4 =>
      some (w4, [])
theorem er36 (rf : T.RF) (rb : T.RB) (d1 : List XK × Int × Int × Int × Int) : T.stepF rf rb 36 d1 = r36 rf rb d1 := by kernel_rfl
theorem or36 {d1 : List XK × Int × Int × Int × Int} {y : ((List XK × Int × Int × Int × Int) × List (List XN))} (h : r36 T.rf T.rb d1 = some y) : c36 T.rf d1 = some y := T.rf_of (f := 36) (d := d1) ((er36 T.rf T.rb d1).trans h)

/- (*bailment/bailmentref04.Reader).named -/
noncomputable def r33 (rf : T.RF) (rb : T.RB) (d1 : List XK × Int × Int × Int × Int) (d2 : List UInt8) : Option ((List XK × Int × Int × Int × Int) × List XN) :=
  (c34 rf (d1.1, IntKind.i64.wrap (d1.2.1 + 1), d1.2.2) ([40] : List UInt8)).bind fun (y1 : (List XK × Int × Int × Int × Int) × Bool) =>
  bif !y1.2 then
    (c27 rf 3 0 d2 []).bind fun (y2 : List XN) =>
    some (y1.1, y2)
  else
    (c36 rf y1.1).bind fun (y3 : (List XK × Int × Int × Int × Int) × List (List XN)) =>
    bif y3.1.2.2.2.1 != 0 then
      some (y3.1, [])
    else
      (c27 rf 27 0 d2 y3.2).bind fun (y4 : List XN) =>
      some (y3.1, y4)
theorem er33 (rf : T.RF) (rb : T.RB) (d1 : List XK × Int × Int × Int × Int) (d2 : List UInt8) : T.stepF rf rb 33 (d1, d2) = r33 rf rb d1 d2 := by kernel_rfl
theorem or33 {d1 : List XK × Int × Int × Int × Int} {d2 : List UInt8} {y : ((List XK × Int × Int × Int × Int) × List XN)} (h : r33 T.rf T.rb d1 d2 = some y) : c33 T.rf d1 d2 = some y := T.rf_of (f := 33) (d := (d1, d2)) ((er33 T.rf T.rb d1 d2).trans h)

/- bailmentref04.prefix -/
noncomputable def r38 (rf : T.RF) (rb : T.RB) (d1 : List UInt8) : Option Int :=
  bif d1 == ([110, 111, 116] : List UInt8) then
    some 4
  else
  bif d1 == ([45] : List UInt8) then
    some 5
  else
  bif d1 == ([112, 114, 101] : List UInt8) then
    some 21
  else
  bif d1 == ([111, 110, 99, 101] : List UInt8) then
    some 22
  else
  bif d1 == ([104, 105, 115, 116] : List UInt8) then
    some 23
  else
  bif d1 == ([112, 114, 101, 118] : List UInt8) then
    some 24
  else
  bif d1 == ([119, 105, 116, 104, 105, 110] : List UInt8) then
    some 25
  else
    some 0
theorem er38 (rf : T.RF) (rb : T.RB) (d1 : List UInt8) : T.stepF rf rb 38 d1 = r38 rf rb d1 := by kernel_rfl
theorem or38 {d1 : List UInt8} {y : Int} (h : r38 T.rf T.rb d1 = some y) : c38 T.rf d1 = some y := T.rf_of (f := 38) (d := d1) ((er38 T.rf T.rb d1).trans h)

/- (*bailment/bailmentref04.Reader).within -/
noncomputable def r39 (rf : T.RF) (rb : T.RB) (d1 : List XK × Int × Int × Int × Int) : Option ((List XK × Int × Int × Int × Int) × List XN) :=
  bif decide ((IntKind.i64.wrap (d1.2.1 + 1)) ≥ (((d1.1.length : Nat) : Int))) then
    (c24 rf (d1.1, IntKind.i64.wrap (d1.2.1 + 1), d1.2.2) 5).bind fun (y1 : (List XK × Int × Int × Int × Int) × List XN) =>
    some y1
  else
  bif inb (IntKind.i64.wrap (d1.2.1 + 1)) d1.1.length then
    (nth d1.1 (IntKind.i64.wrap (d1.2.1 + 1)).toNat).bind fun (x2 : XK) =>
    bif x2.1 != 2 then
      (c24 rf (d1.1, IntKind.i64.wrap (d1.2.1 + 1), d1.2.2) 5).bind fun (y3 : (List XK × Int × Int × Int × Int) × List XN) =>
      some y3
    else
    bif inb (IntKind.i64.wrap (d1.2.1 + 1)) d1.1.length then
      (nth d1.1 (IntKind.i64.wrap (d1.2.1 + 1)).toNat).bind fun (x4 : XK) =>
      (c6 rf x4.2.1).bind fun (y5 : Int) =>
      bif decide (y5 > 1000) then
        (c24 rf (d1.1, IntKind.i64.wrap (d1.2.1 + 1), d1.2.2) 5).bind fun (y6 : (List XK × Int × Int × Int × Int) × List XN) =>
        some y6
      else
      bif inb (IntKind.i64.wrap (d1.2.1 + 1)) d1.1.length then
        (nth d1.1 (IntKind.i64.wrap (d1.2.1 + 1)).toNat).bind fun (x7 : XK) =>
        (c6 rf x7.2.1).bind fun (y8 : Int) =>
        (c23 rf (d1.1, IntKind.i64.wrap ((IntKind.i64.wrap (d1.2.1 + 1)) + 1), d1.2.2)).bind fun (y9 : (List XK × Int × Int × Int × Int) × List XN) =>
        bif y9.1.2.2.2.1 != 0 then
          some (y9.1, [])
        else
          (c27 rf 25 y8 ([] : List UInt8) [y9.2]).bind fun (y10 : List XN) =>
          some (y9.1, y10)
      else
        none
    else
      none
  else
    none
theorem er39 (rf : T.RF) (rb : T.RB) (d1 : List XK × Int × Int × Int × Int) : T.stepF rf rb 39 d1 = r39 rf rb d1 := by kernel_rfl
theorem or39 {d1 : List XK × Int × Int × Int × Int} {y : ((List XK × Int × Int × Int × Int) × List XN)} (h : r39 T.rf T.rb d1 = some y) : c39 T.rf d1 = some y := T.rf_of (f := 39) (d := d1) ((er39 T.rf T.rb d1).trans h)

/- (*bailment/bailmentref04.Reader).choice -/
noncomputable def r40 (rf : T.RF) (rb : T.RB) (d1 : List XK × Int × Int × Int × Int) : Option ((List XK × Int × Int × Int × Int) × List XN) :=
  (c15 rf d1).bind fun (y1 : (List XK × Int × Int × Int × Int) × List XN) =>
  (c37 rf y1.1 ([116, 104, 101, 110] : List UInt8)).bind fun (y2 : List XK × Int × Int × Int × Int) =>
  (c15 rf y2).bind fun (y3 : (List XK × Int × Int × Int × Int) × List XN) =>
  (c37 rf y3.1 ([101, 108, 115, 101] : List UInt8)).bind fun (y4 : List XK × Int × Int × Int × Int) =>
  (c15 rf y4).bind fun (y5 : (List XK × Int × Int × Int × Int) × List XN) =>
  bif y5.1.2.2.2.1 != 0 then
    some (y5.1, [])
  else
    (c27 rf 26 0 ([] : List UInt8) [y1.2, y3.2, y5.2]).bind fun (y6 : List XN) =>
    some (y5.1, y6)
theorem er40 (rf : T.RF) (rb : T.RB) (d1 : List XK × Int × Int × Int × Int) : T.stepF rf rb 40 d1 = r40 rf rb d1 := by kernel_rfl
theorem or40 {d1 : List XK × Int × Int × Int × Int} {y : ((List XK × Int × Int × Int × Int) × List XN)} (h : r40 T.rf T.rb d1 = some y) : c40 T.rf d1 = some y := T.rf_of (f := 40) (d := d1) ((er40 T.rf T.rb d1).trans h)

/- (*bailment/bailmentref04.Reader).begun -/
noncomputable def r26 (rf : T.RF) (rb : T.RB) (d1 : List XK × Int × Int × Int × Int) (d2 : XK) : Option ((List XK × Int × Int × Int × Int) × List XN) :=
  bif d2.1 == 2 then
    (c6 rf d2.2.1).bind fun (y1 : Int) =>
    (c27 rf 1 y1 ([] : List UInt8) []).bind fun (y2 : List XN) =>
    some ((d1.1, IntKind.i64.wrap (d1.2.1 + 1), d1.2.2), y2)
  else
  bif d2.1 == 1 then
    (c33 rf d1 d2.2.1).bind fun (y3 : (List XK × Int × Int × Int × Int) × List XN) =>
    some y3
  else
  bif d2.1 != 4 then
    bif d2.1 != 3 then
      (c24 rf d1 5).bind fun (y4 : (List XK × Int × Int × Int × Int) × List XN) =>
      some y4
    else
      (c38 rf d2.2.1).bind fun (y5 : Int) =>
      bif y5 == 25 then
        (c39 rf d1).bind fun (y6 : (List XK × Int × Int × Int × Int) × List XN) =>
        some y6
      else
      bif decide (y5 > 0) then
        (c23 rf (d1.1, IntKind.i64.wrap (d1.2.1 + 1), d1.2.2)).bind fun (y7 : (List XK × Int × Int × Int × Int) × List XN) =>
        bif y7.1.2.2.2.1 != 0 then
          some (y7.1, [])
        else
          (c27 rf y5 0 ([] : List UInt8) [y7.2]).bind fun (y8 : List XN) =>
          some (y7.1, y8)
      else
        (c34 rf d1 ([116, 114, 117, 101] : List UInt8)).bind fun (y9 : (List XK × Int × Int × Int × Int) × Bool) =>
        bif y9.2 then
          (c27 rf 2 1 ([] : List UInt8) []).bind fun (y10 : List XN) =>
          some (y9.1, y10)
        else
          (c34 rf y9.1 ([102, 97, 108, 115, 101] : List UInt8)).bind fun (y11 : (List XK × Int × Int × Int × Int) × Bool) =>
          bif y11.2 then
            (c27 rf 2 0 ([] : List UInt8) []).bind fun (y12 : List XN) =>
            some (y11.1, y12)
          else
            (c34 rf y11.1 ([40] : List UInt8)).bind fun (y13 : (List XK × Int × Int × Int × Int) × Bool) =>
            bif y13.2 then
              (c15 rf y13.1).bind fun (y14 : (List XK × Int × Int × Int × Int) × List XN) =>
              (c37 rf y14.1 ([41] : List UInt8)).bind fun (y15 : List XK × Int × Int × Int × Int) =>
              some (y15, y14.2)
            else
              (c34 rf y13.1 ([105, 102] : List UInt8)).bind fun (y16 : (List XK × Int × Int × Int × Int) × Bool) =>
              bif y16.2 then
                (c40 rf y16.1).bind fun (y17 : (List XK × Int × Int × Int × Int) × List XN) =>
                some y17
              else
                (c24 rf y16.1 5).bind fun (y18 : (List XK × Int × Int × Int × Int) × List XN) =>
                some y18
  else
    (c38 rf d2.2.1).bind fun (y19 : Int) =>
    bif y19 == 25 then
      (c39 rf d1).bind fun (y20 : (List XK × Int × Int × Int × Int) × List XN) =>
      some y20
    else
    bif decide (y19 > 0) then
      (c23 rf (d1.1, IntKind.i64.wrap (d1.2.1 + 1), d1.2.2)).bind fun (y21 : (List XK × Int × Int × Int × Int) × List XN) =>
      bif y21.1.2.2.2.1 != 0 then
        some (y21.1, [])
      else
        (c27 rf y19 0 ([] : List UInt8) [y21.2]).bind fun (y22 : List XN) =>
        some (y21.1, y22)
    else
      (c34 rf d1 ([116, 114, 117, 101] : List UInt8)).bind fun (y23 : (List XK × Int × Int × Int × Int) × Bool) =>
      bif y23.2 then
        (c27 rf 2 1 ([] : List UInt8) []).bind fun (y24 : List XN) =>
        some (y23.1, y24)
      else
        (c34 rf y23.1 ([102, 97, 108, 115, 101] : List UInt8)).bind fun (y25 : (List XK × Int × Int × Int × Int) × Bool) =>
        bif y25.2 then
          (c27 rf 2 0 ([] : List UInt8) []).bind fun (y26 : List XN) =>
          some (y25.1, y26)
        else
          (c34 rf y25.1 ([40] : List UInt8)).bind fun (y27 : (List XK × Int × Int × Int × Int) × Bool) =>
          bif y27.2 then
            (c15 rf y27.1).bind fun (y28 : (List XK × Int × Int × Int × Int) × List XN) =>
            (c37 rf y28.1 ([41] : List UInt8)).bind fun (y29 : List XK × Int × Int × Int × Int) =>
            some (y29, y28.2)
          else
            (c34 rf y27.1 ([105, 102] : List UInt8)).bind fun (y30 : (List XK × Int × Int × Int × Int) × Bool) =>
            bif y30.2 then
              (c40 rf y30.1).bind fun (y31 : (List XK × Int × Int × Int × Int) × List XN) =>
              some y31
            else
              (c24 rf y30.1 5).bind fun (y32 : (List XK × Int × Int × Int × Int) × List XN) =>
              some y32
theorem er26 (rf : T.RF) (rb : T.RB) (d1 : List XK × Int × Int × Int × Int) (d2 : XK) : T.stepF rf rb 26 (d1, d2) = r26 rf rb d1 d2 := by kernel_rfl
theorem or26 {d1 : List XK × Int × Int × Int × Int} {d2 : XK} {y : ((List XK × Int × Int × Int × Int) × List XN)} (h : r26 T.rf T.rb d1 d2 = some y) : c26 T.rf d1 d2 = some y := T.rf_of (f := 26) (d := (d1, d2)) ((er26 T.rf T.rb d1 d2).trans h)

/- (*bailment/bailmentref04.Reader).operand -/
noncomputable def r23 (rf : T.RF) (rb : T.RB) (d1 : List XK × Int × Int × Int × Int) : Option ((List XK × Int × Int × Int × Int) × List XN) :=
  bif d1.2.2.2.1 != 0 then
    some (d1, [])
  else
  bif decide (d1.2.2.1 ≥ 200) then
    (c24 rf d1 6).bind fun (y1 : (List XK × Int × Int × Int × Int) × List XN) =>
    some y1
  else
  bif decide (d1.2.1 ≥ (((d1.1.length : Nat) : Int))) then
    (c24 rf d1 5).bind fun (y2 : (List XK × Int × Int × Int × Int) × List XN) =>
    some y2
  else
  bif inb d1.2.1 d1.1.length then
    (nth d1.1 d1.2.1.toNat).bind fun (x3 : XK) =>
    (c26 rf (d1.1, d1.2.1, IntKind.i64.wrap (d1.2.2.1 + 1), d1.2.2.2) x3).bind fun (y4 : (List XK × Int × Int × Int × Int) × List XN) =>
    some ((y4.1.1, y4.1.2.1, IntKind.i64.wrap (y4.1.2.2.1 - 1), y4.1.2.2.2), y4.2)
  else
    none
theorem er23 (rf : T.RF) (rb : T.RB) (d1 : List XK × Int × Int × Int × Int) : T.stepF rf rb 23 d1 = r23 rf rb d1 := by kernel_rfl
theorem or23 {d1 : List XK × Int × Int × Int × Int} {y : ((List XK × Int × Int × Int × Int) × List XN)} (h : r23 T.rf T.rb d1 = some y) : c23 T.rf d1 = some y := T.rf_of (f := 23) (d := d1) ((er23 T.rf T.rb d1).trans h)

/- (*bailment/bailmentref04.Reader).join -/
noncomputable def r41 (rf : T.RF) (rb : T.RB) (d1 : List XK × Int × Int × Int × Int) (d2 : Int) (d3 : List XN) (d4 : List XN) : Option ((List XK × Int × Int × Int × Int) × List XN) :=
  bif d1.2.2.2.1 != 0 then
    some (d1, [])
  else
    (c27 rf d2 0 ([] : List UInt8) [d3, d4]).bind fun (y1 : List XN) =>
    some (d1, y1)
theorem er41 (rf : T.RF) (rb : T.RB) (d1 : List XK × Int × Int × Int × Int) (d2 : Int) (d3 : List XN) (d4 : List XN) : T.stepF rf rb 41 (d1, d2, d3, d4) = r41 rf rb d1 d2 d3 d4 := by kernel_rfl
theorem or41 {d1 : List XK × Int × Int × Int × Int} {d2 : Int} {d3 : List XN} {d4 : List XN} {y : ((List XK × Int × Int × Int × Int) × List XN)} (h : r41 T.rf T.rb d1 d2 d3 d4 = some y) : c41 T.rf d1 d2 d3 d4 = some y := T.rf_of (f := 41) (d := (d1, d2, d3, d4)) ((er41 T.rf T.rb d1 d2 d3 d4).trans h)

/- (*bailment/bailmentref04.Reader).prod loop 0 -/
noncomputable def b18 (rf : T.RF) (rb : T.RB) (d1 : List XK × Int × Int × Int × Int) (d2 : List XN) : Option ((List XK × Int × Int × Int × Int) × List XN) :=
  (c35 rf d1 ([42] : List UInt8)).bind fun (y1 : (List XK × Int × Int × Int × Int) × Bool) =>
  bif y1.2 then
    (c35 rf y1.1 ([100, 105, 118] : List UInt8)).bind fun (y2 : (List XK × Int × Int × Int × Int) × Bool) =>
    bif y2.2 then
      (c35 rf y2.1 ([109, 111, 100] : List UInt8)).bind fun (y3 : (List XK × Int × Int × Int × Int) × Bool) =>
      bif y3.2 then
        (c23 rf (y3.1.1, IntKind.i64.wrap (y3.1.2.1 + 1), y3.1.2.2)).bind fun (y4 : (List XK × Int × Int × Int × Int) × List XN) =>
        (c41 rf y4.1 18 d2 y4.2).bind fun (y5 : (List XK × Int × Int × Int × Int) × List XN) =>
        k18 rb y5.1 y5.2
      else
        (c23 rf (y3.1.1, IntKind.i64.wrap (y3.1.2.1 + 1), y3.1.2.2)).bind fun (y6 : (List XK × Int × Int × Int × Int) × List XN) =>
        (c41 rf y6.1 17 d2 y6.2).bind fun (y7 : (List XK × Int × Int × Int × Int) × List XN) =>
        k18 rb y7.1 y7.2
    else
      (c35 rf y2.1 ([109, 111, 100] : List UInt8)).bind fun (y8 : (List XK × Int × Int × Int × Int) × Bool) =>
      bif y8.2 then
        (c23 rf (y8.1.1, IntKind.i64.wrap (y8.1.2.1 + 1), y8.1.2.2)).bind fun (y9 : (List XK × Int × Int × Int × Int) × List XN) =>
        (c41 rf y9.1 18 d2 y9.2).bind fun (y10 : (List XK × Int × Int × Int × Int) × List XN) =>
        k18 rb y10.1 y10.2
      else
        (c23 rf (y8.1.1, IntKind.i64.wrap (y8.1.2.1 + 1), y8.1.2.2)).bind fun (y11 : (List XK × Int × Int × Int × Int) × List XN) =>
        (c41 rf y11.1 16 d2 y11.2).bind fun (y12 : (List XK × Int × Int × Int × Int) × List XN) =>
        k18 rb y12.1 y12.2
  else
    (c35 rf y1.1 ([100, 105, 118] : List UInt8)).bind fun (y13 : (List XK × Int × Int × Int × Int) × Bool) =>
    bif y13.2 then
      (c35 rf y13.1 ([100, 105, 118] : List UInt8)).bind fun (y14 : (List XK × Int × Int × Int × Int) × Bool) =>
      bif y14.2 then
        (c35 rf y14.1 ([109, 111, 100] : List UInt8)).bind fun (y15 : (List XK × Int × Int × Int × Int) × Bool) =>
        bif y15.2 then
          (c23 rf (y15.1.1, IntKind.i64.wrap (y15.1.2.1 + 1), y15.1.2.2)).bind fun (y16 : (List XK × Int × Int × Int × Int) × List XN) =>
          (c41 rf y16.1 18 d2 y16.2).bind fun (y17 : (List XK × Int × Int × Int × Int) × List XN) =>
          k18 rb y17.1 y17.2
        else
          (c23 rf (y15.1.1, IntKind.i64.wrap (y15.1.2.1 + 1), y15.1.2.2)).bind fun (y18 : (List XK × Int × Int × Int × Int) × List XN) =>
          (c41 rf y18.1 17 d2 y18.2).bind fun (y19 : (List XK × Int × Int × Int × Int) × List XN) =>
          k18 rb y19.1 y19.2
      else
        (c35 rf y14.1 ([109, 111, 100] : List UInt8)).bind fun (y20 : (List XK × Int × Int × Int × Int) × Bool) =>
        bif y20.2 then
          (c23 rf (y20.1.1, IntKind.i64.wrap (y20.1.2.1 + 1), y20.1.2.2)).bind fun (y21 : (List XK × Int × Int × Int × Int) × List XN) =>
          (c41 rf y21.1 18 d2 y21.2).bind fun (y22 : (List XK × Int × Int × Int × Int) × List XN) =>
          k18 rb y22.1 y22.2
        else
          (c23 rf (y20.1.1, IntKind.i64.wrap (y20.1.2.1 + 1), y20.1.2.2)).bind fun (y23 : (List XK × Int × Int × Int × Int) × List XN) =>
          (c41 rf y23.1 16 d2 y23.2).bind fun (y24 : (List XK × Int × Int × Int × Int) × List XN) =>
          k18 rb y24.1 y24.2
    else
      (c35 rf y13.1 ([109, 111, 100] : List UInt8)).bind fun (y25 : (List XK × Int × Int × Int × Int) × Bool) =>
      bif y25.2 then
        (c35 rf y25.1 ([100, 105, 118] : List UInt8)).bind fun (y26 : (List XK × Int × Int × Int × Int) × Bool) =>
        bif y26.2 then
          (c35 rf y26.1 ([109, 111, 100] : List UInt8)).bind fun (y27 : (List XK × Int × Int × Int × Int) × Bool) =>
          bif y27.2 then
            (c23 rf (y27.1.1, IntKind.i64.wrap (y27.1.2.1 + 1), y27.1.2.2)).bind fun (y28 : (List XK × Int × Int × Int × Int) × List XN) =>
            (c41 rf y28.1 18 d2 y28.2).bind fun (y29 : (List XK × Int × Int × Int × Int) × List XN) =>
            k18 rb y29.1 y29.2
          else
            (c23 rf (y27.1.1, IntKind.i64.wrap (y27.1.2.1 + 1), y27.1.2.2)).bind fun (y30 : (List XK × Int × Int × Int × Int) × List XN) =>
            (c41 rf y30.1 17 d2 y30.2).bind fun (y31 : (List XK × Int × Int × Int × Int) × List XN) =>
            k18 rb y31.1 y31.2
        else
          (c35 rf y26.1 ([109, 111, 100] : List UInt8)).bind fun (y32 : (List XK × Int × Int × Int × Int) × Bool) =>
          bif y32.2 then
            (c23 rf (y32.1.1, IntKind.i64.wrap (y32.1.2.1 + 1), y32.1.2.2)).bind fun (y33 : (List XK × Int × Int × Int × Int) × List XN) =>
            (c41 rf y33.1 18 d2 y33.2).bind fun (y34 : (List XK × Int × Int × Int × Int) × List XN) =>
            k18 rb y34.1 y34.2
          else
            (c23 rf (y32.1.1, IntKind.i64.wrap (y32.1.2.1 + 1), y32.1.2.2)).bind fun (y35 : (List XK × Int × Int × Int × Int) × List XN) =>
            (c41 rf y35.1 16 d2 y35.2).bind fun (y36 : (List XK × Int × Int × Int × Int) × List XN) =>
            k18 rb y36.1 y36.2
      else
        some (y25.1, d2)
theorem eb18 (rf : T.RF) (rb : T.RB) (d1 : List XK × Int × Int × Int × Int) (d2 : List XN) : T.stepB rf rb 18 (d1, d2) = b18 rf rb d1 d2 := by kernel_rfl
theorem ob18 {d1 : List XK × Int × Int × Int × Int} {d2 : List XN} {y : ((List XK × Int × Int × Int × Int) × List XN)} (h : b18 T.rf T.rb d1 d2 = some y) : k18 T.rb d1 d2 = some y := T.rb_of (κ := 18) (d := (d1, d2)) ((eb18 T.rf T.rb d1 d2).trans h)

/- (*bailment/bailmentref04.Reader).prod -/
noncomputable def r22 (rf : T.RF) (rb : T.RB) (d1 : List XK × Int × Int × Int × Int) : Option ((List XK × Int × Int × Int × Int) × List XN) :=
  (c23 rf d1).bind fun (y1 : (List XK × Int × Int × Int × Int) × List XN) =>
  (k18 rb y1.1 y1.2).bind fun (z2 : (List XK × Int × Int × Int × Int) × List XN) =>
  some z2
theorem er22 (rf : T.RF) (rb : T.RB) (d1 : List XK × Int × Int × Int × Int) : T.stepF rf rb 22 d1 = r22 rf rb d1 := by kernel_rfl
theorem or22 {d1 : List XK × Int × Int × Int × Int} {y : ((List XK × Int × Int × Int × Int) × List XN)} (h : r22 T.rf T.rb d1 = some y) : c22 T.rf d1 = some y := T.rf_of (f := 22) (d := d1) ((er22 T.rf T.rb d1).trans h)

/- (*bailment/bailmentref04.Reader).sum loop 0 -/
noncomputable def b20 (rf : T.RF) (rb : T.RB) (d1 : List XK × Int × Int × Int × Int) (d2 : List XN) : Option ((List XK × Int × Int × Int × Int) × List XN) :=
  (c35 rf d1 ([43] : List UInt8)).bind fun (y1 : (List XK × Int × Int × Int × Int) × Bool) =>
  bif y1.2 then
    (c35 rf y1.1 ([45] : List UInt8)).bind fun (y2 : (List XK × Int × Int × Int × Int) × Bool) =>
    bif y2.2 then
      (c22 rf (y2.1.1, IntKind.i64.wrap (y2.1.2.1 + 1), y2.1.2.2)).bind fun (y3 : (List XK × Int × Int × Int × Int) × List XN) =>
      (c41 rf y3.1 15 d2 y3.2).bind fun (y4 : (List XK × Int × Int × Int × Int) × List XN) =>
      k20 rb y4.1 y4.2
    else
      (c22 rf (y2.1.1, IntKind.i64.wrap (y2.1.2.1 + 1), y2.1.2.2)).bind fun (y5 : (List XK × Int × Int × Int × Int) × List XN) =>
      (c41 rf y5.1 14 d2 y5.2).bind fun (y6 : (List XK × Int × Int × Int × Int) × List XN) =>
      k20 rb y6.1 y6.2
  else
    (c35 rf y1.1 ([45] : List UInt8)).bind fun (y7 : (List XK × Int × Int × Int × Int) × Bool) =>
    bif y7.2 then
      (c35 rf y7.1 ([45] : List UInt8)).bind fun (y8 : (List XK × Int × Int × Int × Int) × Bool) =>
      bif y8.2 then
        (c22 rf (y8.1.1, IntKind.i64.wrap (y8.1.2.1 + 1), y8.1.2.2)).bind fun (y9 : (List XK × Int × Int × Int × Int) × List XN) =>
        (c41 rf y9.1 15 d2 y9.2).bind fun (y10 : (List XK × Int × Int × Int × Int) × List XN) =>
        k20 rb y10.1 y10.2
      else
        (c22 rf (y8.1.1, IntKind.i64.wrap (y8.1.2.1 + 1), y8.1.2.2)).bind fun (y11 : (List XK × Int × Int × Int × Int) × List XN) =>
        (c41 rf y11.1 14 d2 y11.2).bind fun (y12 : (List XK × Int × Int × Int × Int) × List XN) =>
        k20 rb y12.1 y12.2
    else
      some (y7.1, d2)
theorem eb20 (rf : T.RF) (rb : T.RB) (d1 : List XK × Int × Int × Int × Int) (d2 : List XN) : T.stepB rf rb 20 (d1, d2) = b20 rf rb d1 d2 := by kernel_rfl
theorem ob20 {d1 : List XK × Int × Int × Int × Int} {d2 : List XN} {y : ((List XK × Int × Int × Int × Int) × List XN)} (h : b20 T.rf T.rb d1 d2 = some y) : k20 T.rb d1 d2 = some y := T.rb_of (κ := 20) (d := (d1, d2)) ((eb20 T.rf T.rb d1 d2).trans h)

/- (*bailment/bailmentref04.Reader).sum -/
noncomputable def r21 (rf : T.RF) (rb : T.RB) (d1 : List XK × Int × Int × Int × Int) : Option ((List XK × Int × Int × Int × Int) × List XN) :=
  (c22 rf d1).bind fun (y1 : (List XK × Int × Int × Int × Int) × List XN) =>
  (k20 rb y1.1 y1.2).bind fun (z2 : (List XK × Int × Int × Int × Int) × List XN) =>
  some z2
theorem er21 (rf : T.RF) (rb : T.RB) (d1 : List XK × Int × Int × Int × Int) : T.stepF rf rb 21 d1 = r21 rf rb d1 := by kernel_rfl
theorem or21 {d1 : List XK × Int × Int × Int × Int} {y : ((List XK × Int × Int × Int × Int) × List XN)} (h : r21 T.rf T.rb d1 = some y) : c21 T.rf d1 = some y := T.rf_of (f := 21) (d := d1) ((er21 T.rf T.rb d1).trans h)

/- (*bailment/bailmentref04.Reader).cmp -/
noncomputable def r20 (rf : T.RF) (rb : T.RB) (d1 : List XK × Int × Int × Int × Int) : Option ((List XK × Int × Int × Int × Int) × List XN) :=
  (c21 rf d1).bind fun (y1 : (List XK × Int × Int × Int × Int) × List XN) =>
  (c34 rf y1.1 ([61] : List UInt8)).bind fun (y2 : (List XK × Int × Int × Int × Int) × Bool) =>
  bif y2.2 then
    (c21 rf y2.1).bind fun (y3 : (List XK × Int × Int × Int × Int) × List XN) =>
    (c41 rf y3.1 10 y1.2 y3.2).bind fun (y4 : (List XK × Int × Int × Int × Int) × List XN) =>
    some y4
  else
    (c34 rf y2.1 ([60, 62] : List UInt8)).bind fun (y5 : (List XK × Int × Int × Int × Int) × Bool) =>
    bif y5.2 then
      (c21 rf y5.1).bind fun (y6 : (List XK × Int × Int × Int × Int) × List XN) =>
      (c41 rf y6.1 11 y1.2 y6.2).bind fun (y7 : (List XK × Int × Int × Int × Int) × List XN) =>
      some y7
    else
      (c34 rf y5.1 ([60] : List UInt8)).bind fun (y8 : (List XK × Int × Int × Int × Int) × Bool) =>
      bif y8.2 then
        (c21 rf y8.1).bind fun (y9 : (List XK × Int × Int × Int × Int) × List XN) =>
        (c41 rf y9.1 12 y1.2 y9.2).bind fun (y10 : (List XK × Int × Int × Int × Int) × List XN) =>
        some y10
      else
        (c34 rf y8.1 ([60, 61] : List UInt8)).bind fun (y11 : (List XK × Int × Int × Int × Int) × Bool) =>
        bif y11.2 then
          (c21 rf y11.1).bind fun (y12 : (List XK × Int × Int × Int × Int) × List XN) =>
          (c41 rf y12.1 13 y1.2 y12.2).bind fun (y13 : (List XK × Int × Int × Int × Int) × List XN) =>
          some y13
        else
          (c34 rf y11.1 ([62] : List UInt8)).bind fun (y14 : (List XK × Int × Int × Int × Int) × Bool) =>
          bif y14.2 then
            (c21 rf y14.1).bind fun (y15 : (List XK × Int × Int × Int × Int) × List XN) =>
            (c41 rf y15.1 12 y15.2 y1.2).bind fun (y16 : (List XK × Int × Int × Int × Int) × List XN) =>
            some y16
          else
            (c34 rf y14.1 ([62, 61] : List UInt8)).bind fun (y17 : (List XK × Int × Int × Int × Int) × Bool) =>
            bif y17.2 then
              (c21 rf y17.1).bind fun (y18 : (List XK × Int × Int × Int × Int) × List XN) =>
              (c41 rf y18.1 13 y18.2 y1.2).bind fun (y19 : (List XK × Int × Int × Int × Int) × List XN) =>
              some y19
            else
              some (y17.1, y1.2)
theorem er20 (rf : T.RF) (rb : T.RB) (d1 : List XK × Int × Int × Int × Int) : T.stepF rf rb 20 d1 = r20 rf rb d1 := by kernel_rfl
theorem or20 {d1 : List XK × Int × Int × Int × Int} {y : ((List XK × Int × Int × Int × Int) × List XN)} (h : r20 T.rf T.rb d1 = some y) : c20 T.rf d1 = some y := T.rf_of (f := 20) (d := d1) ((er20 T.rf T.rb d1).trans h)

/- (*bailment/bailmentref04.Reader).and loop 0 -/
noncomputable def b22 (rf : T.RF) (rb : T.RB) (d1 : List XK × Int × Int × Int × Int) (d2 : List XN) : Option ((List XK × Int × Int × Int × Int) × List XN) :=
  (c34 rf d1 ([97, 110, 100] : List UInt8)).bind fun (y1 : (List XK × Int × Int × Int × Int) × Bool) =>
  bif y1.2 then
    (c20 rf y1.1).bind fun (y2 : (List XK × Int × Int × Int × Int) × List XN) =>
    (c41 rf y2.1 6 d2 y2.2).bind fun (y3 : (List XK × Int × Int × Int × Int) × List XN) =>
    k22 rb y3.1 y3.2
  else
    some (y1.1, d2)
theorem eb22 (rf : T.RF) (rb : T.RB) (d1 : List XK × Int × Int × Int × Int) (d2 : List XN) : T.stepB rf rb 22 (d1, d2) = b22 rf rb d1 d2 := by kernel_rfl
theorem ob22 {d1 : List XK × Int × Int × Int × Int} {d2 : List XN} {y : ((List XK × Int × Int × Int × Int) × List XN)} (h : b22 T.rf T.rb d1 d2 = some y) : k22 T.rb d1 d2 = some y := T.rb_of (κ := 22) (d := (d1, d2)) ((eb22 T.rf T.rb d1 d2).trans h)

/- (*bailment/bailmentref04.Reader).and -/
noncomputable def r19 (rf : T.RF) (rb : T.RB) (d1 : List XK × Int × Int × Int × Int) : Option ((List XK × Int × Int × Int × Int) × List XN) :=
  (c20 rf d1).bind fun (y1 : (List XK × Int × Int × Int × Int) × List XN) =>
  (k22 rb y1.1 y1.2).bind fun (z2 : (List XK × Int × Int × Int × Int) × List XN) =>
  some z2
theorem er19 (rf : T.RF) (rb : T.RB) (d1 : List XK × Int × Int × Int × Int) : T.stepF rf rb 19 d1 = r19 rf rb d1 := by kernel_rfl
theorem or19 {d1 : List XK × Int × Int × Int × Int} {y : ((List XK × Int × Int × Int × Int) × List XN)} (h : r19 T.rf T.rb d1 = some y) : c19 T.rf d1 = some y := T.rf_of (f := 19) (d := d1) ((er19 T.rf T.rb d1).trans h)

/- (*bailment/bailmentref04.Reader).or loop 0 -/
noncomputable def b24 (rf : T.RF) (rb : T.RB) (d1 : List XK × Int × Int × Int × Int) (d2 : List XN) : Option ((List XK × Int × Int × Int × Int) × List XN) :=
  (c35 rf d1 ([111, 114] : List UInt8)).bind fun (y1 : (List XK × Int × Int × Int × Int) × Bool) =>
  bif y1.2 then
    (c35 rf y1.1 ([120, 111, 114] : List UInt8)).bind fun (y2 : (List XK × Int × Int × Int × Int) × Bool) =>
    bif y2.2 then
      (c19 rf (y2.1.1, IntKind.i64.wrap (y2.1.2.1 + 1), y2.1.2.2)).bind fun (y3 : (List XK × Int × Int × Int × Int) × List XN) =>
      (c41 rf y3.1 8 d2 y3.2).bind fun (y4 : (List XK × Int × Int × Int × Int) × List XN) =>
      k24 rb y4.1 y4.2
    else
      (c19 rf (y2.1.1, IntKind.i64.wrap (y2.1.2.1 + 1), y2.1.2.2)).bind fun (y5 : (List XK × Int × Int × Int × Int) × List XN) =>
      (c41 rf y5.1 7 d2 y5.2).bind fun (y6 : (List XK × Int × Int × Int × Int) × List XN) =>
      k24 rb y6.1 y6.2
  else
    (c35 rf y1.1 ([120, 111, 114] : List UInt8)).bind fun (y7 : (List XK × Int × Int × Int × Int) × Bool) =>
    bif y7.2 then
      (c35 rf y7.1 ([120, 111, 114] : List UInt8)).bind fun (y8 : (List XK × Int × Int × Int × Int) × Bool) =>
      bif y8.2 then
        (c19 rf (y8.1.1, IntKind.i64.wrap (y8.1.2.1 + 1), y8.1.2.2)).bind fun (y9 : (List XK × Int × Int × Int × Int) × List XN) =>
        (c41 rf y9.1 8 d2 y9.2).bind fun (y10 : (List XK × Int × Int × Int × Int) × List XN) =>
        k24 rb y10.1 y10.2
      else
        (c19 rf (y8.1.1, IntKind.i64.wrap (y8.1.2.1 + 1), y8.1.2.2)).bind fun (y11 : (List XK × Int × Int × Int × Int) × List XN) =>
        (c41 rf y11.1 7 d2 y11.2).bind fun (y12 : (List XK × Int × Int × Int × Int) × List XN) =>
        k24 rb y12.1 y12.2
    else
      some (y7.1, d2)
theorem eb24 (rf : T.RF) (rb : T.RB) (d1 : List XK × Int × Int × Int × Int) (d2 : List XN) : T.stepB rf rb 24 (d1, d2) = b24 rf rb d1 d2 := by kernel_rfl
theorem ob24 {d1 : List XK × Int × Int × Int × Int} {d2 : List XN} {y : ((List XK × Int × Int × Int × Int) × List XN)} (h : b24 T.rf T.rb d1 d2 = some y) : k24 T.rb d1 d2 = some y := T.rb_of (κ := 24) (d := (d1, d2)) ((eb24 T.rf T.rb d1 d2).trans h)

/- (*bailment/bailmentref04.Reader).or -/
noncomputable def r18 (rf : T.RF) (rb : T.RB) (d1 : List XK × Int × Int × Int × Int) : Option ((List XK × Int × Int × Int × Int) × List XN) :=
  (c19 rf d1).bind fun (y1 : (List XK × Int × Int × Int × Int) × List XN) =>
  (k24 rb y1.1 y1.2).bind fun (z2 : (List XK × Int × Int × Int × Int) × List XN) =>
  some z2
theorem er18 (rf : T.RF) (rb : T.RB) (d1 : List XK × Int × Int × Int × Int) : T.stepF rf rb 18 d1 = r18 rf rb d1 := by kernel_rfl
theorem or18 {d1 : List XK × Int × Int × Int × Int} {y : ((List XK × Int × Int × Int × Int) × List XN)} (h : r18 T.rf T.rb d1 = some y) : c18 T.rf d1 = some y := T.rf_of (f := 18) (d := d1) ((er18 T.rf T.rb d1).trans h)

/- (*bailment/bailmentref04.Reader).since loop 0 -/
noncomputable def b26 (rf : T.RF) (rb : T.RB) (d1 : List XK × Int × Int × Int × Int) (d2 : List XN) : Option ((List XK × Int × Int × Int × Int) × List XN) :=
  (c34 rf d1 ([115, 105, 110, 99, 101] : List UInt8)).bind fun (y1 : (List XK × Int × Int × Int × Int) × Bool) =>
  bif y1.2 then
    (c18 rf y1.1).bind fun (y2 : (List XK × Int × Int × Int × Int) × List XN) =>
    (c41 rf y2.1 20 d2 y2.2).bind fun (y3 : (List XK × Int × Int × Int × Int) × List XN) =>
    k26 rb y3.1 y3.2
  else
    some (y1.1, d2)
theorem eb26 (rf : T.RF) (rb : T.RB) (d1 : List XK × Int × Int × Int × Int) (d2 : List XN) : T.stepB rf rb 26 (d1, d2) = b26 rf rb d1 d2 := by kernel_rfl
theorem ob26 {d1 : List XK × Int × Int × Int × Int} {d2 : List XN} {y : ((List XK × Int × Int × Int × Int) × List XN)} (h : b26 T.rf T.rb d1 d2 = some y) : k26 T.rb d1 d2 = some y := T.rb_of (κ := 26) (d := (d1, d2)) ((eb26 T.rf T.rb d1 d2).trans h)

/- (*bailment/bailmentref04.Reader).since -/
noncomputable def r17 (rf : T.RF) (rb : T.RB) (d1 : List XK × Int × Int × Int × Int) : Option ((List XK × Int × Int × Int × Int) × List XN) :=
  (c18 rf d1).bind fun (y1 : (List XK × Int × Int × Int × Int) × List XN) =>
  (k26 rb y1.1 y1.2).bind fun (z2 : (List XK × Int × Int × Int × Int) × List XN) =>
  some z2
theorem er17 (rf : T.RF) (rb : T.RB) (d1 : List XK × Int × Int × Int × Int) : T.stepF rf rb 17 d1 = r17 rf rb d1 := by kernel_rfl
theorem or17 {d1 : List XK × Int × Int × Int × Int} {y : ((List XK × Int × Int × Int × Int) × List XN)} (h : r17 T.rf T.rb d1 = some y) : c17 T.rf d1 = some y := T.rf_of (f := 17) (d := d1) ((er17 T.rf T.rb d1).trans h)

/- (*bailment/bailmentref04.Reader).imp -/
noncomputable def r16 (rf : T.RF) (rb : T.RB) (d1 : List XK × Int × Int × Int × Int) : Option ((List XK × Int × Int × Int × Int) × List XN) :=
  (c17 rf d1).bind fun (y1 : (List XK × Int × Int × Int × Int) × List XN) =>
  (c34 rf y1.1 ([61, 62] : List UInt8)).bind fun (y2 : (List XK × Int × Int × Int × Int) × Bool) =>
  bif y2.2 then
    (c16 rf y2.1).bind fun (y3 : (List XK × Int × Int × Int × Int) × List XN) =>
    (c41 rf y3.1 9 y1.2 y3.2).bind fun (y4 : (List XK × Int × Int × Int × Int) × List XN) =>
    some y4
  else
    some (y2.1, y1.2)
theorem er16 (rf : T.RF) (rb : T.RB) (d1 : List XK × Int × Int × Int × Int) : T.stepF rf rb 16 d1 = r16 rf rb d1 := by kernel_rfl
theorem or16 {d1 : List XK × Int × Int × Int × Int} {y : ((List XK × Int × Int × Int × Int) × List XN)} (h : r16 T.rf T.rb d1 = some y) : c16 T.rf d1 = some y := T.rf_of (f := 16) (d := d1) ((er16 T.rf T.rb d1).trans h)

/- (*bailment/bailmentref04.Reader).Arrow -/
noncomputable def r15 (rf : T.RF) (rb : T.RB) (d1 : List XK × Int × Int × Int × Int) : Option ((List XK × Int × Int × Int × Int) × List XN) :=
  (c16 rf d1).bind fun (y1 : (List XK × Int × Int × Int × Int) × List XN) =>
  (c34 rf y1.1 ([45, 62] : List UInt8)).bind fun (y2 : (List XK × Int × Int × Int × Int) × Bool) =>
  bif y2.2 then
    (c15 rf y2.1).bind fun (y3 : (List XK × Int × Int × Int × Int) × List XN) =>
    (c41 rf y3.1 19 y1.2 y3.2).bind fun (y4 : (List XK × Int × Int × Int × Int) × List XN) =>
    some y4
  else
    some (y2.1, y1.2)
theorem er15 (rf : T.RF) (rb : T.RB) (d1 : List XK × Int × Int × Int × Int) : T.stepF rf rb 15 d1 = r15 rf rb d1 := by kernel_rfl
theorem or15 {d1 : List XK × Int × Int × Int × Int} {y : ((List XK × Int × Int × Int × Int) × List XN)} (h : r15 T.rf T.rb d1 = some y) : c15 T.rf d1 = some y := T.rf_of (f := 15) (d := d1) ((er15 T.rf T.rb d1).trans h)

/- bailmentref03.Depth loop 0 -/
noncomputable def b34 (rf : T.RF) (rb : T.RB) (d1 : List Int) (d2 : List XN) (d3 : Int) : Option (List Int) :=
  bif decide (d3 < (((d2.length : Nat) : Int))) then
    bif inb d3 d1.length then
      bif Nat.blt d3.toNat d1.length then
        bif inb d3 d2.length then
          (nth d2 d3.toNat).bind fun (x1 : XN) =>
          (c29 rf x1).bind fun (y2 : List Int) =>
          (k35 rb (setNth d1 d3.toNat 1) y2 d3 0).bind fun (z3 : List Int × List Int) =>
          k34 rb z3.1 d2 (IntKind.i64.wrap (d3 + 1))
        else
          none
      else
        none
    else
      none
  else
    some d1
theorem eb34 (rf : T.RF) (rb : T.RB) (d1 : List Int) (d2 : List XN) (d3 : Int) : T.stepB rf rb 34 (d1, d2, d3) = b34 rf rb d1 d2 d3 := by kernel_rfl
theorem ob34 {d1 : List Int} {d2 : List XN} {d3 : Int} {y : (List Int)} (h : b34 T.rf T.rb d1 d2 d3 = some y) : k34 T.rb d1 d2 d3 = some y := T.rb_of (κ := 34) (d := (d1, d2, d3)) ((eb34 T.rf T.rb d1 d2 d3).trans h)

/- bailmentref03.Depth loop 2 -/
noncomputable def b35q (rf : T.RF) (rb : T.RB) (d1 : List Int) (d2 : List Int) (d3 : Int) (d4 : Int) : Option (List Int × List Int) :=
  bif decide (d4 < (((d2.length : Nat) : Int))) then
    bif inb d4 d2.length then
      (nth d2 d4.toNat).bind fun (x1 : Int) =>
      bif decide (x1 ≥ 0) then
        bif inb d4 d2.length then
          (nth d2 d4.toNat).bind fun (x2 : Int) =>
          bif decide (x2 < d3) then
            bif inb d3 d1.length then
              bif inb d4 d2.length then
                (nth d2 d4.toNat).bind fun (x3 : Int) =>
                bif inb x3 d1.length then
                  agree (
                    (nth d1 d3.toNat).bind fun (x4 : Int) =>
                    (nth d1 x3.toNat).bind fun (x5 : Int) =>
                    bif inb d3 d1.length then
                      bif Nat.blt d3.toNat d1.length then
                        k35 rb (setNth d1 d3.toNat (if (IntKind.i64.wrap (x5 + 1)) > x4 then (IntKind.i64.wrap (x5 + 1)) else x4)) d2 d3 (IntKind.i64.wrap (d4 + 1))
                      else
                        none
                    else
                      none
                  ) (
                    (nth d1 x3.toNat).bind fun (x4 : Int) =>
                    (nth d1 d3.toNat).bind fun (x5 : Int) =>
                    bif inb d3 d1.length then
                      bif Nat.blt d3.toNat d1.length then
                        k35 rb (setNth d1 d3.toNat (if (IntKind.i64.wrap (x4 + 1)) > x5 then (IntKind.i64.wrap (x4 + 1)) else x5)) d2 d3 (IntKind.i64.wrap (d4 + 1))
                      else
                        none
                    else
                      none
                  )
                else
                  none
              else
                none
            else
              none
          else
            k35 rb d1 d2 d3 (IntKind.i64.wrap (d4 + 1))
        else
          none
      else
        k35 rb d1 d2 d3 (IntKind.i64.wrap (d4 + 1))
    else
      none
  else
    some (d1, d2)
noncomputable def b35 (rf : T.RF) (rb : T.RB) (d1 : List Int) (d2 : List Int) (d3 : Int) (d4 : Int) : Option (List Int × List Int) :=
  bif decide (d4 < (((d2.length : Nat) : Int))) then
    bif inb d4 d2.length then
      (nth d2 d4.toNat).bind fun (x1 : Int) =>
      bif decide (x1 ≥ 0) then
        bif inb d4 d2.length then
          (nth d2 d4.toNat).bind fun (x2 : Int) =>
          bif decide (x2 < d3) then
            bif inb d3 d1.length then
              bif inb d4 d2.length then
                (nth d2 d4.toNat).bind fun (x3 : Int) =>
                bif inb x3 d1.length then
                  (nth d1 d3.toNat).bind fun (x4 : Int) =>
                  (nth d1 x3.toNat).bind fun (x5 : Int) =>
                  bif inb d3 d1.length then
                    bif Nat.blt d3.toNat d1.length then
                      k35 rb (setNth d1 d3.toNat (if (IntKind.i64.wrap (x5 + 1)) > x4 then (IntKind.i64.wrap (x5 + 1)) else x4)) d2 d3 (IntKind.i64.wrap (d4 + 1))
                    else
                      none
                  else
                    none
                else
                  none
              else
                none
            else
              none
          else
            k35 rb d1 d2 d3 (IntKind.i64.wrap (d4 + 1))
        else
          none
      else
        k35 rb d1 d2 d3 (IntKind.i64.wrap (d4 + 1))
    else
      none
  else
    some (d1, d2)
theorem eb35 (rf : T.RF) (rb : T.RB) (d1 : List Int) (d2 : List Int) (d3 : Int) (d4 : Int) : T.stepB rf rb 35 (d1, d2, d3, d4) = b35q rf rb d1 d2 d3 d4 := by kernel_rfl
theorem sb35 (rf : T.RF) (rb : T.RB) (d1 : List Int) (d2 : List Int) (d3 : Int) (d4 : Int) : b35q rf rb d1 d2 d3 d4 = b35 rf rb d1 d2 d3 d4 := by
  unfold b35q b35; simp only [agN_eq, agree_self, agree_swap]
theorem ob35 {d1 : List Int} {d2 : List Int} {d3 : Int} {d4 : Int} {y : (List Int × List Int)} (h : b35 T.rf T.rb d1 d2 d3 d4 = some y) : k35 T.rb d1 d2 d3 d4 = some y := T.rb_of (κ := 35) (d := (d1, d2, d3, d4)) (((eb35 T.rf T.rb d1 d2 d3 d4).trans (sb35 T.rf T.rb d1 d2 d3 d4)).trans h)

/- bailmentref03.Depth -/
noncomputable def r42 (rf : T.RF) (rb : T.RB) (d1 : List XN) : Option Int :=
  bif inb' (((d1.length : Nat) : Int)) most then
    bif inb' (((d1.length : Nat) : Int)) d1.length then
      (k34 rb (List.replicate d1.length (0 : Int)) d1 0).bind fun (z1 : List Int) =>
      bif (((d1.length : Nat) : Int)) == 0 then
        some 0
      else
      bif inb (IntKind.i64.wrap ((((d1.length : Nat) : Int)) - 1)) z1.length then
        (nth z1 (IntKind.i64.wrap ((((d1.length : Nat) : Int)) - 1)).toNat).bind fun (x2 : Int) =>
        some x2
      else
        none
    else
      none
  else
    none
theorem er42 (rf : T.RF) (rb : T.RB) (d1 : List XN) : T.stepF rf rb 42 d1 = r42 rf rb d1 := by kernel_rfl
theorem or42 {d1 : List XN} {y : Int} (h : r42 T.rf T.rb d1 = some y) : c42 T.rf d1 = some y := T.rf_of (f := 42) (d := d1) ((er42 T.rf T.rb d1).trans h)

/- bailmentref04.Parse tail 3 -/
noncomputable def b37 (rf : T.RF) (rb : T.RB) (d1 : Int × Int) (d2 : List XK) (d3 : Int) : Option (((Int × Int) × List XN × Int) ⊕ ((Int × Int) × List XN × Int)) :=
  (c15 rf (d2, d3, 0, 0, 0)).bind fun (y1 : (List XK × Int × Int × Int × Int) × List XN) =>
  bif y1.1.2.2.2.1 != 0 then
    some (.inl (y1.1.2.2.2, [], 0))
  else
  bif decide ((((y1.2.length : Nat) : Int)) > 5000) then
    (c25 rf d2 d3).bind fun (y2 : Int) =>
    some (.inl ((7, y2), [], 0))
  else
    (c42 rf y1.2).bind fun (y3 : Int) =>
    bif decide (y3 > 40) then
      (c25 rf d2 d3).bind fun (y4 : Int) =>
      some (.inl ((6, y4), [], 0))
    else
      some (.inr ((0, 0), y1.2, y1.1.2.1))
theorem eb37 (rf : T.RF) (rb : T.RB) (d1 : Int × Int) (d2 : List XK) (d3 : Int) : T.stepB rf rb 37 (d1, d2, d3) = b37 rf rb d1 d2 d3 := by kernel_rfl
theorem ob37 {d1 : Int × Int} {d2 : List XK} {d3 : Int} {y : (((Int × Int) × List XN × Int) ⊕ ((Int × Int) × List XN × Int))} (h : b37 T.rf T.rb d1 d2 d3 = some y) : k37 T.rb d1 d2 d3 = some y := T.rb_of (κ := 37) (d := (d1, d2, d3)) ((eb37 T.rf T.rb d1 d2 d3).trans h)

/- bailmentref04.Parse -/
noncomputable def r14 (rf : T.RF) (rb : T.RB) (d1 : List XK) (d2 : Int) : Option (List XN × Int × Int × Int) :=
  bif decide (d2 < 0) then
    (k37 rb (0, 0) d1 (((d1.length : Nat) : Int))).bind fun (z1 : ((Int × Int) × List XN × Int) ⊕ ((Int × Int) × List XN × Int)) =>
    match z1 with
    | .inl u2 =>
      some (u2.2.1, u2.2.2, u2.1)
    | .inr w3 =>
      some (w3.2.1, w3.2.2, w3.1)
  else
  bif decide (d2 > (((d1.length : Nat) : Int))) then
    (k37 rb (0, 0) d1 (((d1.length : Nat) : Int))).bind fun (z4 : ((Int × Int) × List XN × Int) ⊕ ((Int × Int) × List XN × Int)) =>
    match z4 with
    | .inl u5 =>
      some (u5.2.1, u5.2.2, u5.1)
    | .inr w6 =>
      some (w6.2.1, w6.2.2, w6.1)
  else
    (k37 rb (0, 0) d1 d2).bind fun (z7 : ((Int × Int) × List XN × Int) ⊕ ((Int × Int) × List XN × Int)) =>
    match z7 with
    | .inl u8 =>
      some (u8.2.1, u8.2.2, u8.1)
    | .inr w9 =>
      some (w9.2.1, w9.2.2, w9.1)
theorem er14 (rf : T.RF) (rb : T.RB) (d1 : List XK) (d2 : Int) : T.stepF rf rb 14 (d1, d2) = r14 rf rb d1 d2 := by kernel_rfl
theorem or14 {d1 : List XK} {d2 : Int} {y : (List XN × Int × Int × Int)} (h : r14 T.rf T.rb d1 d2 = some y) : c14 T.rf d1 d2 = some y := T.rf_of (f := 14) (d := (d1, d2)) ((er14 T.rf T.rb d1 d2).trans h)

/- bailmentref04.Read -/
noncomputable def r2 (rf : T.RF) (rb : T.RB) (d1 : List UInt8) : Option (List XN × Int × Int) :=
  (c3 rf d1).bind fun (y1 : List XK × Int × Int) =>
  bif y1.2.1 != 0 then
    some ([], y1.2)
  else
    (c14 rf y1.1 0).bind fun (y2 : List XN × Int × Int × Int) =>
    bif y2.2.2.1 != 0 then
      some ([], y2.2.2)
    else
    bif decide (y2.2.1 < (((y1.1.length : Nat) : Int))) then
      bif inb y2.2.1 y1.1.length then
        (nth y1.1 y2.2.1.toNat).bind fun (x3 : XK) =>
        some ([], 5, x3.2.2)
      else
        none
    else
      some (y2.1, 0, 0)
theorem er2 (rf : T.RF) (rb : T.RB) (d1 : List UInt8) : T.stepF rf rb 2 d1 = r2 rf rb d1 := by kernel_rfl
theorem or2 {d1 : List UInt8} {y : (List XN × Int × Int)} (h : r2 T.rf T.rb d1 = some y) : c2 T.rf d1 = some y := T.rf_of (f := 2) (d := d1) ((er2 T.rf T.rb d1).trans h)

/- tree.Kids -/
noncomputable def r47 (rf : T.RF) (rb : T.RB) (d1 : XN) : Option (List Int) :=
  bif d1.1 == 26 then
    some [d1.2.1, d1.2.2.1, d1.2.2.2.1]
  else
  bif d1.1 == 28 then
    bif d1.2.2.1 != (-1) then
      some [d1.2.2.1, d1.2.1]
    else
    bif d1.1 == 27 then
      bif d1.2.1 == (-1) then
        some []
      else
      bif decide (d1.1 ≥ 6) then
        bif decide (d1.1 ≤ 20) then
          some [d1.2.1, d1.2.2.1]
        else
        bif d1.1 == 4 then
          some [d1.2.1]
        else
        bif d1.1 == 5 then
          some [d1.2.1]
        else
        bif decide (d1.1 ≥ 21) then
          bif decide (d1.1 ≤ 28) then
            some [d1.2.1]
          else
            some []
        else
          some []
      else
      bif d1.1 == 4 then
        some [d1.2.1]
      else
      bif d1.1 == 5 then
        some [d1.2.1]
      else
      bif decide (d1.1 ≥ 21) then
        bif decide (d1.1 ≤ 28) then
          some [d1.2.1]
        else
          some []
      else
        some []
    else
    bif decide (d1.1 ≥ 6) then
      bif decide (d1.1 ≤ 20) then
        some [d1.2.1, d1.2.2.1]
      else
      bif d1.1 == 4 then
        some [d1.2.1]
      else
      bif d1.1 == 5 then
        some [d1.2.1]
      else
      bif decide (d1.1 ≥ 21) then
        bif decide (d1.1 ≤ 28) then
          some [d1.2.1]
        else
          some []
      else
        some []
    else
    bif d1.1 == 4 then
      some [d1.2.1]
    else
    bif d1.1 == 5 then
      some [d1.2.1]
    else
    bif decide (d1.1 ≥ 21) then
      bif decide (d1.1 ≤ 28) then
        some [d1.2.1]
      else
        some []
    else
      some []
  else
  bif d1.1 == 27 then
    bif d1.2.1 == (-1) then
      some []
    else
    bif decide (d1.1 ≥ 6) then
      bif decide (d1.1 ≤ 20) then
        some [d1.2.1, d1.2.2.1]
      else
      bif d1.1 == 4 then
        some [d1.2.1]
      else
      bif d1.1 == 5 then
        some [d1.2.1]
      else
      bif decide (d1.1 ≥ 21) then
        bif decide (d1.1 ≤ 28) then
          some [d1.2.1]
        else
          some []
      else
        some []
    else
    bif d1.1 == 4 then
      some [d1.2.1]
    else
    bif d1.1 == 5 then
      some [d1.2.1]
    else
    bif decide (d1.1 ≥ 21) then
      bif decide (d1.1 ≤ 28) then
        some [d1.2.1]
      else
        some []
    else
      some []
  else
  bif decide (d1.1 ≥ 6) then
    bif decide (d1.1 ≤ 20) then
      some [d1.2.1, d1.2.2.1]
    else
    bif d1.1 == 4 then
      some [d1.2.1]
    else
    bif d1.1 == 5 then
      some [d1.2.1]
    else
    bif decide (d1.1 ≥ 21) then
      bif decide (d1.1 ≤ 28) then
        some [d1.2.1]
      else
        some []
    else
      some []
  else
  bif d1.1 == 4 then
    some [d1.2.1]
  else
  bif d1.1 == 5 then
    some [d1.2.1]
  else
  bif decide (d1.1 ≥ 21) then
    bif decide (d1.1 ≤ 28) then
      some [d1.2.1]
    else
      some []
  else
    some []
theorem er47 (rf : T.RF) (rb : T.RB) (d1 : XN) : T.stepF rf rb 47 d1 = r47 rf rb d1 := by kernel_rfl
theorem or47 {d1 : XN} {y : (List Int)} (h : r47 T.rf T.rb d1 = some y) : c47 T.rf d1 = some y := T.rf_of (f := 47) (d := d1) ((er47 T.rf T.rb d1).trans h)

/- tree.with -/
noncomputable def r48 (rf : T.RF) (rb : T.RB) (d1 : XN) (d2 : List Int) : Option XN :=
  bif d1.1 == 28 then
    bif (((d2.length : Nat) : Int)) == 2 then
      bif inb 0 d2.length then
        (nth d2 0).bind fun (x1 : Int) =>
        bif inb 1 d2.length then
          (nth d2 1).bind fun (x2 : Int) =>
          some (d1.1, x2, x1, d1.2.2.2)
        else
          none
      else
        none
    else
    bif decide (0 < (((d2.length : Nat) : Int))) then
      bif inb 0 d2.length then
        (nth d2 0).bind fun (x3 : Int) =>
        bif decide (1 < (((d2.length : Nat) : Int))) then
          bif inb 1 d2.length then
            (nth d2 1).bind fun (x4 : Int) =>
            bif decide (2 < (((d2.length : Nat) : Int))) then
              bif inb 2 d2.length then
                (nth d2 2).bind fun (x5 : Int) =>
                some (d1.1, x3, x4, x5, d1.2.2.2.2)
              else
                none
            else
              some (d1.1, x3, x4, d1.2.2.2)
          else
            none
        else
        bif decide (2 < (((d2.length : Nat) : Int))) then
          bif inb 2 d2.length then
            (nth d2 2).bind fun (x6 : Int) =>
            some (d1.1, x3, d1.2.2.1, x6, d1.2.2.2.2)
          else
            none
        else
          some (d1.1, x3, d1.2.2)
      else
        none
    else
    bif decide (1 < (((d2.length : Nat) : Int))) then
      bif inb 1 d2.length then
        (nth d2 1).bind fun (x7 : Int) =>
        bif decide (2 < (((d2.length : Nat) : Int))) then
          bif inb 2 d2.length then
            (nth d2 2).bind fun (x8 : Int) =>
            some (d1.1, d1.2.1, x7, x8, d1.2.2.2.2)
          else
            none
        else
          some (d1.1, d1.2.1, x7, d1.2.2.2)
      else
        none
    else
    bif decide (2 < (((d2.length : Nat) : Int))) then
      bif inb 2 d2.length then
        (nth d2 2).bind fun (x9 : Int) =>
        some (d1.1, d1.2.1, d1.2.2.1, x9, d1.2.2.2.2)
      else
        none
    else
      some d1
  else
  bif decide (0 < (((d2.length : Nat) : Int))) then
    bif inb 0 d2.length then
      (nth d2 0).bind fun (x10 : Int) =>
      bif decide (1 < (((d2.length : Nat) : Int))) then
        bif inb 1 d2.length then
          (nth d2 1).bind fun (x11 : Int) =>
          bif decide (2 < (((d2.length : Nat) : Int))) then
            bif inb 2 d2.length then
              (nth d2 2).bind fun (x12 : Int) =>
              some (d1.1, x10, x11, x12, d1.2.2.2.2)
            else
              none
          else
            some (d1.1, x10, x11, d1.2.2.2)
        else
          none
      else
      bif decide (2 < (((d2.length : Nat) : Int))) then
        bif inb 2 d2.length then
          (nth d2 2).bind fun (x13 : Int) =>
          some (d1.1, x10, d1.2.2.1, x13, d1.2.2.2.2)
        else
          none
      else
        some (d1.1, x10, d1.2.2)
    else
      none
  else
  bif decide (1 < (((d2.length : Nat) : Int))) then
    bif inb 1 d2.length then
      (nth d2 1).bind fun (x14 : Int) =>
      bif decide (2 < (((d2.length : Nat) : Int))) then
        bif inb 2 d2.length then
          (nth d2 2).bind fun (x15 : Int) =>
          some (d1.1, d1.2.1, x14, x15, d1.2.2.2.2)
        else
          none
      else
        some (d1.1, d1.2.1, x14, d1.2.2.2)
    else
      none
  else
  bif decide (2 < (((d2.length : Nat) : Int))) then
    bif inb 2 d2.length then
      (nth d2 2).bind fun (x16 : Int) =>
      some (d1.1, d1.2.1, d1.2.2.1, x16, d1.2.2.2.2)
    else
      none
  else
    some d1
theorem er48 (rf : T.RF) (rb : T.RB) (d1 : XN) (d2 : List Int) : T.stepF rf rb 48 (d1, d2) = r48 rf rb d1 d2 := by kernel_rfl
theorem or48 {d1 : XN} {d2 : List Int} {y : XN} (h : r48 T.rf T.rb d1 d2 = some y) : c48 T.rf d1 d2 = some y := T.rf_of (f := 48) (d := (d1, d2)) ((er48 T.rf T.rb d1 d2).trans h)

/- tree.isNode tail 9 -/
noncomputable def b39q (rf : T.RF) (rb : T.RB) (d1 : XN) (d2 : Int) : Option (XN × Bool) :=
  agree (
    (c47 rf d1).bind fun (y1 : List Int) =>
    agN 1 (
      (c48 rf (d1.1, (-1), (-1), (-1), d1.2.2.2.2) y1).bind fun (y2 : XN) =>
      (k40 rb d1 y2 d2).bind fun (z3 : XN × XN × Bool) =>
      some (z3.1, z3.2.2)
    )
  ) (
    (c47 rf d1).bind fun (y1 : List Int) =>
    (c48 rf (d1.1, (-1), (-1), (-1), d1.2.2.2.2) y1).bind fun (y2 : XN) =>
    (k40 rb d1 y2 d2).bind fun (z3 : XN × XN × Bool) =>
    some (z3.1, z3.2.2)
  )
noncomputable def b39 (rf : T.RF) (rb : T.RB) (d1 : XN) (d2 : Int) : Option (XN × Bool) :=
  (c47 rf d1).bind fun (y1 : List Int) =>
  (c48 rf (d1.1, (-1), (-1), (-1), d1.2.2.2.2) y1).bind fun (y2 : XN) =>
  (k40 rb d1 y2 d2).bind fun (z3 : XN × XN × Bool) =>
  some (z3.1, z3.2.2)
theorem eb39 (rf : T.RF) (rb : T.RB) (d1 : XN) (d2 : Int) : T.stepB rf rb 39 (d1, d2) = b39q rf rb d1 d2 := by kernel_rfl
theorem sb39 (rf : T.RF) (rb : T.RB) (d1 : XN) (d2 : Int) : b39q rf rb d1 d2 = b39 rf rb d1 d2 := by
  unfold b39q b39; simp only [agN_eq, agree_self, agree_swap]
theorem ob39 {d1 : XN} {d2 : Int} {y : (XN × Bool)} (h : b39 T.rf T.rb d1 d2 = some y) : k39 T.rb d1 d2 = some y := T.rb_of (κ := 39) (d := (d1, d2)) (((eb39 T.rf T.rb d1 d2).trans (sb39 T.rf T.rb d1 d2)).trans h)

/- tree.isNode tail 10 -/
noncomputable def b40 (rf : T.RF) (rb : T.RB) (d1 : XN) (d2 : XN) (d3 : Int) : Option (XN × XN × Bool) :=
  bif d1.1 == 3 then
    bif decide (d1.1 ≥ 1) then
      bif decide (d1.1 ≤ 28) then
        bif (d1.1 == d2.1) && ((d1.2.1 == d2.2.1) && ((d1.2.2.1 == d2.2.2.1) && ((d1.2.2.2.1 == d2.2.2.2.1) && ((d1.2.2.2.2.1 == d2.2.2.2.2.1) && (d1.2.2.2.2.2 == d2.2.2.2.2.2))))) then
          bif decide (d1.2.2.2.2.1 ≥ 0) then
            bif decide (d1.2.2.2.2.1 ≤ d3) then
              some (d1, d2, (!(d1.2.2.2.2.2 == ([] : List UInt8))) == true)
            else
              some (d1, d2, false)
          else
            some (d1, d2, false)
        else
          some (d1, d2, false)
      else
        some (d1, d2, false)
    else
      some (d1, d2, false)
  else
  bif decide (d1.1 ≥ 1) then
    bif decide (d1.1 ≤ 28) then
      bif (d1.1 == d2.1) && ((d1.2.1 == d2.2.1) && ((d1.2.2.1 == d2.2.2.1) && ((d1.2.2.2.1 == d2.2.2.2.1) && ((d1.2.2.2.2.1 == d2.2.2.2.2.1) && (d1.2.2.2.2.2 == d2.2.2.2.2.2))))) then
        bif decide (d1.2.2.2.2.1 ≥ 0) then
          bif decide (d1.2.2.2.2.1 ≤ d3) then
            some (d1, d2, (!(d1.2.2.2.2.2 == ([] : List UInt8))) == (d1.1 == 27))
          else
            some (d1, d2, false)
        else
          some (d1, d2, false)
      else
        some (d1, d2, false)
    else
      some (d1, d2, false)
  else
    some (d1, d2, false)
theorem eb40 (rf : T.RF) (rb : T.RB) (d1 : XN) (d2 : XN) (d3 : Int) : T.stepB rf rb 40 (d1, d2, d3) = b40 rf rb d1 d2 d3 := by kernel_rfl
theorem ob40 {d1 : XN} {d2 : XN} {d3 : Int} {y : (XN × XN × Bool)} (h : b40 T.rf T.rb d1 d2 d3 = some y) : k40 T.rb d1 d2 d3 = some y := T.rb_of (κ := 40) (d := (d1, d2, d3)) ((eb40 T.rf T.rb d1 d2 d3).trans h)

/- tree.isNode -/
noncomputable def r46 (rf : T.RF) (rb : T.RB) (d1 : XN) : Option Bool :=
  bif d1.1 == 1 then
    (k39 rb d1 2147483647).bind fun (z1 : XN × Bool) =>
    some z1.2
  else
  bif d1.1 == 2 then
    (k39 rb d1 1).bind fun (z2 : XN × Bool) =>
    some z2.2
  else
  bif d1.1 == 25 then
    (k39 rb d1 1000).bind fun (z3 : XN × Bool) =>
    some z3.2
  else
    (k39 rb d1 0).bind fun (z4 : XN × Bool) =>
    some z4.2
theorem er46 (rf : T.RF) (rb : T.RB) (d1 : XN) : T.stepF rf rb 46 d1 = r46 rf rb d1 := by kernel_rfl
theorem or46 {d1 : XN} {y : Bool} (h : r46 T.rf T.rb d1 = some y) : c46 T.rf d1 = some y := T.rf_of (f := 46) (d := d1) ((er46 T.rf T.rb d1).trans h)

/- slices.Index[[]bool,bool] loop 0 -/
noncomputable def b42 (rf : T.RF) (rb : T.RB) (d1 : List Bool) (d2 : Bool) (d3 : Int) (d4 : Int) : Option (Int ⊕ Unit) :=
  bif decide (d4 < d3) then
    bif inb d4 d1.length then
      (nth d1 d4.toNat).bind fun (x1 : Bool) =>
      bif d2 == x1 then
        some (.inl d4)
      else
        k42 rb d1 d2 d3 (IntKind.i64.wrap (d4 + 1))
    else
      none
  else
    some (.inr ())
theorem eb42 (rf : T.RF) (rb : T.RB) (d1 : List Bool) (d2 : Bool) (d3 : Int) (d4 : Int) : T.stepB rf rb 42 (d1, d2, d3, d4) = b42 rf rb d1 d2 d3 d4 := by kernel_rfl
theorem ob42 {d1 : List Bool} {d2 : Bool} {d3 : Int} {d4 : Int} {y : (Int ⊕ Unit)} (h : b42 T.rf T.rb d1 d2 d3 d4 = some y) : k42 T.rb d1 d2 d3 d4 = some y := T.rb_of (κ := 42) (d := (d1, d2, d3, d4)) ((eb42 T.rf T.rb d1 d2 d3 d4).trans h)

/- slices.Index[[]bool,bool] -/
noncomputable def r50 (rf : T.RF) (rb : T.RB) (d1 : List Bool) (d2 : Bool) : Option Int :=
  (k42 rb d1 d2 (((d1.length : Nat) : Int)) 0).bind fun (z1 : Int ⊕ Unit) =>
  match z1 with
  | .inl u2 =>
    some u2
  | .inr w3 =>
    some (-1)
theorem er50 (rf : T.RF) (rb : T.RB) (d1 : List Bool) (d2 : Bool) : T.stepF rf rb 50 (d1, d2) = r50 rf rb d1 d2 := by kernel_rfl
theorem or50 {d1 : List Bool} {d2 : Bool} {y : Int} (h : r50 T.rf T.rb d1 d2 = some y) : c50 T.rf d1 d2 = some y := T.rf_of (f := 50) (d := (d1, d2)) ((er50 T.rf T.rb d1 d2).trans h)

/- slices.Contains[[]bool,bool] -/
noncomputable def r49 (rf : T.RF) (rb : T.RB) (d1 : List Bool) (d2 : Bool) : Option Bool :=
  (c50 rf d1 d2).bind fun (y1 : Int) =>
  some (decide (y1 ≥ 0))
theorem er49 (rf : T.RF) (rb : T.RB) (d1 : List Bool) (d2 : Bool) : T.stepF rf rb 49 (d1, d2) = r49 rf rb d1 d2 := by kernel_rfl
theorem or49 {d1 : List Bool} {d2 : Bool} {y : Bool} (h : r49 T.rf T.rb d1 d2 = some y) : c49 T.rf d1 d2 = some y := T.rf_of (f := 49) (d := (d1, d2)) ((er49 T.rf T.rb d1 d2).trans h)

/- tree.depths loop 0 -/
noncomputable def b49 (rf : T.RF) (rb : T.RB) (d1 : List Int) (d2 : List XN) (d3 : Int) (d4 : Int) : Option (List Int) :=
  bif decide (d4 < d3) then
    bif inb d4 d2.length then
      (nth d2 d4.toNat).bind fun (x1 : XN) =>
      (c47 rf x1).bind fun (y2 : List Int) =>
      (k50 rb d1 y2 d4 (((y2.length : Nat) : Int)) 0).bind fun (z3 : List Int × List Int) =>
      bif inb d4 z3.1.length then
        (nth z3.1 d4.toNat).bind fun (x4 : Int) =>
        bif inb d4 z3.1.length then
          bif Nat.blt d4.toNat z3.1.length then
            k49 rb (setNth z3.1 d4.toNat (IntKind.i64.wrap (x4 + 1))) d2 d3 (IntKind.i64.wrap (d4 + 1))
          else
            none
        else
          none
      else
        none
    else
      none
  else
    some d1
theorem eb49 (rf : T.RF) (rb : T.RB) (d1 : List Int) (d2 : List XN) (d3 : Int) (d4 : Int) : T.stepB rf rb 49 (d1, d2, d3, d4) = b49 rf rb d1 d2 d3 d4 := by kernel_rfl
theorem ob49 {d1 : List Int} {d2 : List XN} {d3 : Int} {d4 : Int} {y : (List Int)} (h : b49 T.rf T.rb d1 d2 d3 d4 = some y) : k49 T.rb d1 d2 d3 d4 = some y := T.rb_of (κ := 49) (d := (d1, d2, d3, d4)) ((eb49 T.rf T.rb d1 d2 d3 d4).trans h)

/- tree.depths loop 2 -/
noncomputable def b50q (rf : T.RF) (rb : T.RB) (d1 : List Int) (d2 : List Int) (d3 : Int) (d4 : Int) (d5 : Int) : Option (List Int × List Int) :=
  bif decide (d5 < d4) then
    bif inb d5 d2.length then
      (nth d2 d5.toNat).bind fun (x1 : Int) =>
      bif decide (x1 ≥ 0) then
        bif decide (x1 < d3) then
          bif inb d3 d1.length then
            bif inb x1 d1.length then
              agree (
                (nth d1 d3.toNat).bind fun (x2 : Int) =>
                (nth d1 x1.toNat).bind fun (x3 : Int) =>
                bif inb d3 d1.length then
                  bif Nat.blt d3.toNat d1.length then
                    k50 rb (setNth d1 d3.toNat (if x3 > x2 then x3 else x2)) d2 d3 d4 (IntKind.i64.wrap (d5 + 1))
                  else
                    none
                else
                  none
              ) (
                (nth d1 x1.toNat).bind fun (x2 : Int) =>
                (nth d1 d3.toNat).bind fun (x3 : Int) =>
                bif inb d3 d1.length then
                  bif Nat.blt d3.toNat d1.length then
                    k50 rb (setNth d1 d3.toNat (if x2 > x3 then x2 else x3)) d2 d3 d4 (IntKind.i64.wrap (d5 + 1))
                  else
                    none
                else
                  none
              )
            else
              none
          else
            none
        else
          k50 rb d1 d2 d3 d4 (IntKind.i64.wrap (d5 + 1))
      else
        k50 rb d1 d2 d3 d4 (IntKind.i64.wrap (d5 + 1))
    else
      none
  else
    some (d1, d2)
noncomputable def b50 (rf : T.RF) (rb : T.RB) (d1 : List Int) (d2 : List Int) (d3 : Int) (d4 : Int) (d5 : Int) : Option (List Int × List Int) :=
  bif decide (d5 < d4) then
    bif inb d5 d2.length then
      (nth d2 d5.toNat).bind fun (x1 : Int) =>
      bif decide (x1 ≥ 0) then
        bif decide (x1 < d3) then
          bif inb d3 d1.length then
            bif inb x1 d1.length then
              (nth d1 d3.toNat).bind fun (x2 : Int) =>
              (nth d1 x1.toNat).bind fun (x3 : Int) =>
              bif inb d3 d1.length then
                bif Nat.blt d3.toNat d1.length then
                  k50 rb (setNth d1 d3.toNat (if x3 > x2 then x3 else x2)) d2 d3 d4 (IntKind.i64.wrap (d5 + 1))
                else
                  none
              else
                none
            else
              none
          else
            none
        else
          k50 rb d1 d2 d3 d4 (IntKind.i64.wrap (d5 + 1))
      else
        k50 rb d1 d2 d3 d4 (IntKind.i64.wrap (d5 + 1))
    else
      none
  else
    some (d1, d2)
theorem eb50 (rf : T.RF) (rb : T.RB) (d1 : List Int) (d2 : List Int) (d3 : Int) (d4 : Int) (d5 : Int) : T.stepB rf rb 50 (d1, d2, d3, d4, d5) = b50q rf rb d1 d2 d3 d4 d5 := by kernel_rfl
theorem sb50 (rf : T.RF) (rb : T.RB) (d1 : List Int) (d2 : List Int) (d3 : Int) (d4 : Int) (d5 : Int) : b50q rf rb d1 d2 d3 d4 d5 = b50 rf rb d1 d2 d3 d4 d5 := by
  unfold b50q b50; simp only [agN_eq, agree_self, agree_swap]
theorem ob50 {d1 : List Int} {d2 : List Int} {d3 : Int} {d4 : Int} {d5 : Int} {y : (List Int × List Int)} (h : b50 T.rf T.rb d1 d2 d3 d4 d5 = some y) : k50 T.rb d1 d2 d3 d4 d5 = some y := T.rb_of (κ := 50) (d := (d1, d2, d3, d4, d5)) (((eb50 T.rf T.rb d1 d2 d3 d4 d5).trans (sb50 T.rf T.rb d1 d2 d3 d4 d5)).trans h)

/- tree.depths -/
noncomputable def r52 (rf : T.RF) (rb : T.RB) (d1 : List XN) : Option (List Int) :=
  bif inb' (((d1.length : Nat) : Int)) most then
    bif inb' (((d1.length : Nat) : Int)) d1.length then
      (k49 rb (List.replicate d1.length (0 : Int)) d1 (((d1.length : Nat) : Int)) 0).bind fun (z1 : List Int) =>
      some z1
    else
      none
  else
    none
theorem er52 (rf : T.RF) (rb : T.RB) (d1 : List XN) : T.stepF rf rb 52 d1 = r52 rf rb d1 := by kernel_rfl
theorem or52 {d1 : List XN} {y : (List Int)} (h : r52 T.rf T.rb d1 = some y) : c52 T.rf d1 = some y := T.rf_of (f := 52) (d := d1) ((er52 T.rf T.rb d1).trans h)

/- tree.Depth -/
noncomputable def r51 (rf : T.RF) (rb : T.RB) (d1 : List XN) : Option Int :=
  bif (((d1.length : Nat) : Int)) == 0 then
    some 0
  else
    (c52 rf d1).bind fun (y1 : List Int) =>
    bif inb (IntKind.i64.wrap ((((d1.length : Nat) : Int)) - 1)) y1.length then
      (nth y1 (IntKind.i64.wrap ((((d1.length : Nat) : Int)) - 1)).toNat).bind fun (x2 : Int) =>
      some x2
    else
      none
theorem er51 (rf : T.RF) (rb : T.RB) (d1 : List XN) : T.stepF rf rb 51 d1 = r51 rf rb d1 := by kernel_rfl
theorem or51 {d1 : List XN} {y : Int} (h : r51 T.rf T.rb d1 = some y) : c51 T.rf d1 = some y := T.rf_of (f := 51) (d := d1) ((er51 T.rf T.rb d1).trans h)

/- tree.May loop 0 -/
noncomputable def b38 (rf : T.RF) (rb : T.RB) (d1 : List Bool) (d2 : List XN) (d3 : List XN) (d4 : Int) (d5 : Int) : Option ((List Bool × Bool) ⊕ (List Bool)) :=
  bif decide (d5 < d4) then
    bif inb d5 d3.length then
      (nth d3 d5.toNat).bind fun (x1 : XN) =>
      (c46 rf x1).bind fun (y2 : Bool) =>
      bif !y2 then
        some (.inl (d1, false))
      else
        (c47 rf x1).bind fun (y3 : List Int) =>
        (k41 rb d1 x1 y3 d2 d5 (((y3.length : Nat) : Int)) 0).bind fun (z4 : (List Bool × XN × List Int × Bool) ⊕ (List Bool × XN × List Int)) =>
        match z4 with
        | .inl u5 =>
          some (.inl (u5.1, u5.2.2.2))
        | .inr w6 =>
          k38 rb w6.1 d2 d3 d4 (IntKind.i64.wrap (d5 + 1))
    else
      none
  else
    some (.inr d1)
theorem eb38 (rf : T.RF) (rb : T.RB) (d1 : List Bool) (d2 : List XN) (d3 : List XN) (d4 : Int) (d5 : Int) : T.stepB rf rb 38 (d1, d2, d3, d4, d5) = b38 rf rb d1 d2 d3 d4 d5 := by kernel_rfl
theorem ob38 {d1 : List Bool} {d2 : List XN} {d3 : List XN} {d4 : Int} {d5 : Int} {y : ((List Bool × Bool) ⊕ (List Bool))} (h : b38 T.rf T.rb d1 d2 d3 d4 d5 = some y) : k38 T.rb d1 d2 d3 d4 d5 = some y := T.rb_of (κ := 38) (d := (d1, d2, d3, d4, d5)) ((eb38 T.rf T.rb d1 d2 d3 d4 d5).trans h)

/- tree.May loop 2 -/
noncomputable def b41 (rf : T.RF) (rb : T.RB) (d1 : List Bool) (d2 : XN) (d3 : List Int) (d4 : List XN) (d5 : Int) (d6 : Int) (d7 : Int) : Option ((List Bool × XN × List Int × Bool) ⊕ (List Bool × XN × List Int)) :=
  bif decide (d7 < d6) then
    bif inb d7 d3.length then
      (nth d3 d7.toNat).bind fun (x1 : Int) =>
      bif decide (x1 < 0) then
        some (.inl (d1, d2, d3, false))
      else
      bif decide (x1 ≥ d5) then
        some (.inl (d1, d2, d3, false))
      else
      bif inb x1 d1.length then
        (nth d1 x1.toNat).bind fun (x2 : Bool) =>
        bif x2 then
          some (.inl (d1, d2, d3, false))
        else
        bif inb x1 d1.length then
          bif Nat.blt x1.toNat d1.length then
            bif d2.1 == 27 then
              bif inb x1 d4.length then
                (nth d4 x1.toNat).bind fun (x3 : XN) =>
                bif !((x3.1 == 28) == true) then
                  some (.inl (setNth d1 x1.toNat true, d2, d3, false))
                else
                  k41 rb (setNth d1 x1.toNat true) d2 d3 d4 d5 d6 (IntKind.i64.wrap (d7 + 1))
              else
                none
            else
            bif d2.1 == 28 then
              bif d2.2.2.1 != (-1) then
                bif inb x1 d4.length then
                  (nth d4 x1.toNat).bind fun (x4 : XN) =>
                  bif !((x4.1 == 28) == (d7 == 0)) then
                    some (.inl (setNth d1 x1.toNat true, d2, d3, false))
                  else
                    k41 rb (setNth d1 x1.toNat true) d2 d3 d4 d5 d6 (IntKind.i64.wrap (d7 + 1))
                else
                  none
              else
              bif inb x1 d4.length then
                (nth d4 x1.toNat).bind fun (x5 : XN) =>
                bif !((x5.1 == 28) == false) then
                  some (.inl (setNth d1 x1.toNat true, d2, d3, false))
                else
                  k41 rb (setNth d1 x1.toNat true) d2 d3 d4 d5 d6 (IntKind.i64.wrap (d7 + 1))
              else
                none
            else
            bif inb x1 d4.length then
              (nth d4 x1.toNat).bind fun (x6 : XN) =>
              bif !((x6.1 == 28) == false) then
                some (.inl (setNth d1 x1.toNat true, d2, d3, false))
              else
                k41 rb (setNth d1 x1.toNat true) d2 d3 d4 d5 d6 (IntKind.i64.wrap (d7 + 1))
            else
              none
          else
            none
        else
          none
      else
        none
    else
      none
  else
    some (.inr (d1, d2, d3))
theorem eb41 (rf : T.RF) (rb : T.RB) (d1 : List Bool) (d2 : XN) (d3 : List Int) (d4 : List XN) (d5 : Int) (d6 : Int) (d7 : Int) : T.stepB rf rb 41 (d1, d2, d3, d4, d5, d6, d7) = b41 rf rb d1 d2 d3 d4 d5 d6 d7 := by kernel_rfl
theorem ob41 {d1 : List Bool} {d2 : XN} {d3 : List Int} {d4 : List XN} {d5 : Int} {d6 : Int} {d7 : Int} {y : ((List Bool × XN × List Int × Bool) ⊕ (List Bool × XN × List Int))} (h : b41 T.rf T.rb d1 d2 d3 d4 d5 d6 d7 = some y) : k41 T.rb d1 d2 d3 d4 d5 d6 d7 = some y := T.rb_of (κ := 41) (d := (d1, d2, d3, d4, d5, d6, d7)) ((eb41 T.rf T.rb d1 d2 d3 d4 d5 d6 d7).trans h)

/- tree.May -/
noncomputable def r45 (rf : T.RF) (rb : T.RB) (d1 : List XN) : Option Bool :=
  bif (((d1.length : Nat) : Int)) == 0 then
    some false
  else
  bif decide ((((d1.length : Nat) : Int)) > 5000) then
    some false
  else
  bif inb (IntKind.i64.wrap ((((d1.length : Nat) : Int)) - 1)) d1.length then
    (nth d1 (IntKind.i64.wrap ((((d1.length : Nat) : Int)) - 1)).toNat).bind fun (x1 : XN) =>
    bif x1.1 == 28 then
      some false
    else
    bif inb' (((d1.length : Nat) : Int)) most then
      bif inb' (((d1.length : Nat) : Int)) d1.length then
        (k38 rb (List.replicate d1.length false) d1 d1 (((d1.length : Nat) : Int)) 0).bind fun (z2 : (List Bool × Bool) ⊕ (List Bool)) =>
        match z2 with
        | .inl u3 =>
          some u3.2
        | .inr w4 =>
          bif inb' (IntKind.i64.wrap ((((d1.length : Nat) : Int)) - 1)) w4.length then
            (c49 rf (sub w4 (some (0, ((IntKind.i64.wrap ((((d1.length : Nat) : Int)) - 1)).toNat - 0)))) false).bind fun (y5 : Bool) =>
            bif !y5 then
              (c51 rf d1).bind fun (y6 : Int) =>
              some (decide (y6 ≤ 40))
            else
              some false
          else
            none
      else
        none
    else
      none
  else
    none
theorem er45 (rf : T.RF) (rb : T.RB) (d1 : List XN) : T.stepF rf rb 45 d1 = r45 rf rb d1 := by kernel_rfl
theorem or45 {d1 : List XN} {y : Bool} (h : r45 T.rf T.rb d1 = some y) : c45 T.rf d1 = some y := T.rf_of (f := 45) (d := d1) ((er45 T.rf T.rb d1).trans h)

/- lex.row -/
noncomputable def r57 (rf : T.RF) (rb : T.RB) (d1 : List UInt8) : Option (List UInt8) :=
  some (rowX d1)
theorem er57 (rf : T.RF) (rb : T.RB) (d1 : List UInt8) : T.stepF rf rb 57 d1 = r57 rf rb d1 := by kernel_rfl
theorem or57 {d1 : List UInt8} {y : (List UInt8)} (h : r57 T.rf T.rb d1 = some y) : c57 T.rf d1 = some y := T.rf_of (f := 57) (d := d1) ((er57 T.rf T.rb d1).trans h)

/- lex.isDigit -/
noncomputable def r58 (rf : T.RF) (rb : T.RB) (d1 : Int) : Option Bool :=
  bif decide (d1 ≥ 48) then
    some (decide (d1 ≤ 57))
  else
    some false
theorem er58 (rf : T.RF) (rb : T.RB) (d1 : Int) : T.stepF rf rb 58 d1 = r58 rf rb d1 := by kernel_rfl
theorem or58 {d1 : Int} {y : Bool} (h : r58 T.rf T.rb d1 = some y) : c58 T.rf d1 = some y := T.rf_of (f := 58) (d := d1) ((er58 T.rf T.rb d1).trans h)

/- cmp.isNaN[string] -/
noncomputable def r62 (rf : T.RF) (rb : T.RB) (d1 : List UInt8) : Option Bool :=
  some (!(d1 == d1))
theorem er62 (rf : T.RF) (rb : T.RB) (d1 : List UInt8) : T.stepF rf rb 62 d1 = r62 rf rb d1 := by kernel_rfl
theorem or62 {d1 : List UInt8} {y : Bool} (h : r62 T.rf T.rb d1 = some y) : c62 T.rf d1 = some y := T.rf_of (f := 62) (d := d1) ((er62 T.rf T.rb d1).trans h)

/- cmp.Less[string] -/
noncomputable def r61 (rf : T.RF) (rb : T.RB) (d1 : List UInt8) (d2 : List UInt8) : Option Bool :=
  (c62 rf d1).bind fun (y1 : Bool) =>
  bif y1 then
    (c62 rf d2).bind fun (y2 : Bool) =>
    bif !y2 then
      some true
    else
      some (ltB d1 d2)
  else
    some (ltB d1 d2)
theorem er61 (rf : T.RF) (rb : T.RB) (d1 : List UInt8) (d2 : List UInt8) : T.stepF rf rb 61 (d1, d2) = r61 rf rb d1 d2 := by kernel_rfl
theorem or61 {d1 : List UInt8} {d2 : List UInt8} {y : Bool} (h : r61 T.rf T.rb d1 d2 = some y) : c61 T.rf d1 d2 = some y := T.rf_of (f := 61) (d := (d1, d2)) ((er61 T.rf T.rb d1 d2).trans h)

/- slices.isNaN[string] -/
noncomputable def r63 (rf : T.RF) (rb : T.RB) (d1 : List UInt8) : Option Bool :=
  some (!(d1 == d1))
theorem er63 (rf : T.RF) (rb : T.RB) (d1 : List UInt8) : T.stepF rf rb 63 d1 = r63 rf rb d1 := by kernel_rfl
theorem or63 {d1 : List UInt8} {y : Bool} (h : r63 T.rf T.rb d1 = some y) : c63 T.rf d1 = some y := T.rf_of (f := 63) (d := d1) ((er63 T.rf T.rb d1).trans h)

/- slices.BinarySearch[[]string,string] loop 0 -/
noncomputable def b52 (rf : T.RF) (rb : T.RB) (d1 : List (List UInt8)) (d2 : List UInt8) (d3 : Int) (d4 : Int) : Option Int :=
  bif decide (d3 < d4) then
    bif inb (IntKind.i64.wrap (shrI IntKind.u64 (IntKind.u64.wrap (IntKind.i64.wrap (d3 + d4))) 1)) d1.length then
      (nth d1 (IntKind.i64.wrap (shrI IntKind.u64 (IntKind.u64.wrap (IntKind.i64.wrap (d3 + d4))) 1)).toNat).bind fun (x1 : List UInt8) =>
      (c61 rf x1 d2).bind fun (y2 : Bool) =>
      bif y2 then
        k52 rb d1 d2 (IntKind.i64.wrap ((IntKind.i64.wrap (shrI IntKind.u64 (IntKind.u64.wrap (IntKind.i64.wrap (d3 + d4))) 1)) + 1)) d4
      else
        k52 rb d1 d2 d3 (IntKind.i64.wrap (shrI IntKind.u64 (IntKind.u64.wrap (IntKind.i64.wrap (d3 + d4))) 1))
    else
      none
  else
    some d3
theorem eb52 (rf : T.RF) (rb : T.RB) (d1 : List (List UInt8)) (d2 : List UInt8) (d3 : Int) (d4 : Int) : T.stepB rf rb 52 (d1, d2, d3, d4) = b52 rf rb d1 d2 d3 d4 := by kernel_rfl
theorem ob52 {d1 : List (List UInt8)} {d2 : List UInt8} {d3 : Int} {d4 : Int} {y : Int} (h : b52 T.rf T.rb d1 d2 d3 d4 = some y) : k52 T.rb d1 d2 d3 d4 = some y := T.rb_of (κ := 52) (d := (d1, d2, d3, d4)) ((eb52 T.rf T.rb d1 d2 d3 d4).trans h)

/- slices.BinarySearch[[]string,string] -/
noncomputable def r60 (rf : T.RF) (rb : T.RB) (d1 : List (List UInt8)) (d2 : List UInt8) : Option (Int × Bool) :=
  (k52 rb d1 d2 0 (((d1.length : Nat) : Int))).bind fun (z1 : Int) =>
  bif decide (z1 < (((d1.length : Nat) : Int))) then
    bif inb z1 d1.length then
      (nth d1 z1.toNat).bind fun (x2 : List UInt8) =>
      bif x2 == d2 then
        some (z1, true)
      else
      bif inb z1 d1.length then
        (nth d1 z1.toNat).bind fun (x3 : List UInt8) =>
        (c63 rf x3).bind fun (y4 : Bool) =>
        bif y4 then
          (c63 rf d2).bind fun (y5 : Bool) =>
          some (z1, y5)
        else
          some (z1, false)
      else
        none
    else
      none
  else
    some (z1, false)
theorem er60 (rf : T.RF) (rb : T.RB) (d1 : List (List UInt8)) (d2 : List UInt8) : T.stepF rf rb 60 (d1, d2) = r60 rf rb d1 d2 := by kernel_rfl
theorem or60 {d1 : List (List UInt8)} {d2 : List UInt8} {y : (Int × Bool)} (h : r60 T.rf T.rb d1 d2 = some y) : c60 T.rf d1 d2 = some y := T.rf_of (f := 60) (d := (d1, d2)) ((er60 T.rf T.rb d1 d2).trans h)

/- lex.IsWord -/
noncomputable def r59 (rf : T.RF) (rb : T.RB) (d1 : List UInt8) : Option Bool :=
  (c60 rf wordsX d1).bind fun (y1 : Int × Bool) =>
  some y1.2
theorem er59 (rf : T.RF) (rb : T.RB) (d1 : List UInt8) : T.stepF rf rb 59 d1 = r59 rf rb d1 := by kernel_rfl
theorem or59 {d1 : List UInt8} {y : Bool} (h : r59 T.rf T.rb d1 = some y) : c59 T.rf d1 = some y := T.rf_of (f := 59) (d := d1) ((er59 T.rf T.rb d1).trans h)

/- lex.IsName -/
noncomputable def r56 (rf : T.RF) (rb : T.RB) (d1 : List UInt8) : Option Bool :=
  bif !(d1 == ([] : List UInt8)) then
    bif decide ((((d1.length : Nat) : Int)) ≤ 40) then
      (c57 rf d1).bind fun (y1 : List UInt8) =>
      bif y1 == d1 then
        bif inb 0 d1.length then
          (nth d1 0).bind fun (b2 : UInt8) =>
          (c58 rf (IntKind.i32.wrap (((b2.toNat : Nat) : Int)))).bind fun (y3 : Bool) =>
          bif !y3 then
            (c59 rf d1).bind fun (y4 : Bool) =>
            some (!y4)
          else
            some false
        else
          none
      else
        some false
    else
      some false
  else
    some false
theorem er56 (rf : T.RF) (rb : T.RB) (d1 : List UInt8) : T.stepF rf rb 56 d1 = r56 rf rb d1 := by kernel_rfl
theorem or56 {d1 : List UInt8} {y : Bool} (h : r56 T.rf T.rb d1 = some y) : c56 T.rf d1 = some y := T.rf_of (f := 56) (d := d1) ((er56 T.rf T.rb d1).trans h)

/- show.May$1 -/
noncomputable def r55 (rf : T.RF) (rb : T.RB) (d1 : XN) : Option Bool :=
  bif !(d1.2.2.2.2.2 == ([] : List UInt8)) then
    (c56 rf d1.2.2.2.2.2).bind fun (y1 : Bool) =>
    some (!y1)
  else
    some false
theorem er55 (rf : T.RF) (rb : T.RB) (d1 : XN) : T.stepF rf rb 55 d1 = r55 rf rb d1 := by kernel_rfl
theorem or55 {d1 : XN} {y : Bool} (h : r55 T.rf T.rb d1 = some y) : c55 T.rf d1 = some y := T.rf_of (f := 55) (d := d1) ((er55 T.rf T.rb d1).trans h)

/- slices.IndexFunc[bailment/api.Expr,bailment/api.Node] loop 0 -/
noncomputable def b51 (rf : T.RF) (rb : T.RB) (d1 : List XN) (d2 : Int) (d3 : Int) : Option (Int ⊕ Unit) :=
  bif decide (d3 < d2) then
    bif inb d3 d1.length then
      (nth d1 d3.toNat).bind fun (x1 : XN) =>
      (c55 rf x1).bind fun (y2 : Bool) =>
      bif y2 then
        some (.inl d3)
      else
        k51 rb d1 d2 (IntKind.i64.wrap (d3 + 1))
    else
      none
  else
    some (.inr ())
theorem eb51 (rf : T.RF) (rb : T.RB) (d1 : List XN) (d2 : Int) (d3 : Int) : T.stepB rf rb 51 (d1, d2, d3) = b51 rf rb d1 d2 d3 := by kernel_rfl
theorem ob51 {d1 : List XN} {d2 : Int} {d3 : Int} {y : (Int ⊕ Unit)} (h : b51 T.rf T.rb d1 d2 d3 = some y) : k51 T.rb d1 d2 d3 = some y := T.rb_of (κ := 51) (d := (d1, d2, d3)) ((eb51 T.rf T.rb d1 d2 d3).trans h)

/- slices.IndexFunc[bailment/api.Expr,bailment/api.Node] -/
noncomputable def r54 (rf : T.RF) (rb : T.RB) (d1 : List XN) : Option Int :=
  (k51 rb d1 (((d1.length : Nat) : Int)) 0).bind fun (z1 : Int ⊕ Unit) =>
  match z1 with
  | .inl u2 =>
    some u2
  | .inr w3 =>
    some (-1)
theorem er54 (rf : T.RF) (rb : T.RB) (d1 : List XN) : T.stepF rf rb 54 d1 = r54 rf rb d1 := by kernel_rfl
theorem or54 {d1 : List XN} {y : Int} (h : r54 T.rf T.rb d1 = some y) : c54 T.rf d1 = some y := T.rf_of (f := 54) (d := d1) ((er54 T.rf T.rb d1).trans h)

/- slices.ContainsFunc[bailment/api.Expr,bailment/api.Node] -/
noncomputable def r53 (rf : T.RF) (rb : T.RB) (d1 : List XN) : Option Bool :=
  (c54 rf d1).bind fun (y1 : Int) =>
  some (decide (y1 ≥ 0))
theorem er53 (rf : T.RF) (rb : T.RB) (d1 : List XN) : T.stepF rf rb 53 d1 = r53 rf rb d1 := by kernel_rfl
theorem or53 {d1 : List XN} {y : Bool} (h : r53 T.rf T.rb d1 = some y) : c53 T.rf d1 = some y := T.rf_of (f := 53) (d := d1) ((er53 T.rf T.rb d1).trans h)

/- show.May -/
noncomputable def r44 (rf : T.RF) (rb : T.RB) (d1 : List XN) : Option Bool :=
  (c45 rf d1).bind fun (y1 : Bool) =>
  bif y1 then
    (c53 rf d1).bind fun (y2 : Bool) =>
    some (!y2)
  else
    some false
theorem er44 (rf : T.RF) (rb : T.RB) (d1 : List XN) : T.stepF rf rb 44 d1 = r44 rf rb d1 := by kernel_rfl
theorem or44 {d1 : List XN} {y : Bool} (h : r44 T.rf T.rb d1 = some y) : c44 T.rf d1 = some y := T.rf_of (f := 44) (d := d1) ((er44 T.rf T.rb d1).trans h)

/- show.marks -/
noncomputable def r66 (rf : T.RF) (rb : T.RB) : Option (List UInt8 × Int × List UInt8 × Int × List UInt8 × Int × List UInt8 × Int × List UInt8 × Int × List UInt8 × Int × List UInt8 × Int × List UInt8 × Int × List UInt8 × Int × List UInt8 × Int × List UInt8 × Int × List UInt8 × Int × List UInt8 × Int × List UInt8 × Int × List UInt8 × Int × List UInt8 × Int × List UInt8 × Int × List UInt8 × Int × List UInt8 × Int × List UInt8 × Int × List UInt8 × Int × List UInt8 × Int × List UInt8 × Int × List UInt8 × Int × List UInt8 × Int × List UInt8 × Int × List UInt8 × XK) :=
  some (([] : List UInt8), (-1), ([] : List UInt8), 10, ([] : List UInt8), 10, ([] : List UInt8), 10, ([110, 111, 116] : List UInt8), 9, ([45] : List UInt8), 9, ([97, 110, 100] : List UInt8), 5, ([111, 114] : List UInt8), 4, ([120, 111, 114] : List UInt8), 4, ([61, 62] : List UInt8), 2, ([61] : List UInt8), 6, ([60, 62] : List UInt8), 6, ([60] : List UInt8), 6, ([60, 61] : List UInt8), 6, ([43] : List UInt8), 7, ([45] : List UInt8), 7, ([42] : List UInt8), 8, ([100, 105, 118] : List UInt8), 8, ([109, 111, 100] : List UInt8), 8, ([45, 62] : List UInt8), 1, ([115, 105, 110, 99, 101] : List UInt8), 3, ([112, 114, 101] : List UInt8), 9, ([111, 110, 99, 101] : List UInt8), 9, ([104, 105, 115, 116] : List UInt8), 9, ([112, 114, 101, 118] : List UInt8), 9, ([119, 105, 116, 104, 105, 110] : List UInt8), 9, ([105, 102] : List UInt8), 0, ([] : List UInt8), 10)
theorem er66 (rf : T.RF) (rb : T.RB) : T.stepF rf rb 66 () = r66 rf rb := by kernel_rfl
theorem or66 {y : (List UInt8 × Int × List UInt8 × Int × List UInt8 × Int × List UInt8 × Int × List UInt8 × Int × List UInt8 × Int × List UInt8 × Int × List UInt8 × Int × List UInt8 × Int × List UInt8 × Int × List UInt8 × Int × List UInt8 × Int × List UInt8 × Int × List UInt8 × Int × List UInt8 × Int × List UInt8 × Int × List UInt8 × Int × List UInt8 × Int × List UInt8 × Int × List UInt8 × Int × List UInt8 × Int × List UInt8 × Int × List UInt8 × Int × List UInt8 × Int × List UInt8 × Int × List UInt8 × Int × List UInt8 × XK)} (h : r66 T.rf T.rb = some y) : c66 T.rf = some y := T.rf_of (f := 66) (d := ()) ((er66 T.rf T.rb).trans h)

/- show.of -/
noncomputable def r65 (rf : T.RF) (rb : T.RB) (d1 : Int) : Option (List UInt8 × Int) :=
  bif decide (d1 < 0) then
    some (([] : List UInt8), (-1))
  else
  bif decide (d1 ≥ 28) then
    some (([] : List UInt8), (-1))
  else
    (c66 rf).bind fun (y1 : List UInt8 × Int × List UInt8 × Int × List UInt8 × Int × List UInt8 × Int × List UInt8 × Int × List UInt8 × Int × List UInt8 × Int × List UInt8 × Int × List UInt8 × Int × List UInt8 × Int × List UInt8 × Int × List UInt8 × Int × List UInt8 × Int × List UInt8 × Int × List UInt8 × Int × List UInt8 × Int × List UInt8 × Int × List UInt8 × Int × List UInt8 × Int × List UInt8 × Int × List UInt8 × Int × List UInt8 × Int × List UInt8 × Int × List UInt8 × Int × List UInt8 × Int × List UInt8 × Int × List UInt8 × XK) =>
    bif inb d1 28 then
      (nth [(y1.1, y1.2.1), (y1.2.2.1, y1.2.2.2.1), (y1.2.2.2.2.1, y1.2.2.2.2.2.1), (y1.2.2.2.2.2.2.1, y1.2.2.2.2.2.2.2.1), (y1.2.2.2.2.2.2.2.2.1, y1.2.2.2.2.2.2.2.2.2.1), (y1.2.2.2.2.2.2.2.2.2.2.1, y1.2.2.2.2.2.2.2.2.2.2.2.1), (y1.2.2.2.2.2.2.2.2.2.2.2.2.1, y1.2.2.2.2.2.2.2.2.2.2.2.2.2.1), (y1.2.2.2.2.2.2.2.2.2.2.2.2.2.2.1, y1.2.2.2.2.2.2.2.2.2.2.2.2.2.2.2.1), (y1.2.2.2.2.2.2.2.2.2.2.2.2.2.2.2.2.1, y1.2.2.2.2.2.2.2.2.2.2.2.2.2.2.2.2.2.1), (y1.2.2.2.2.2.2.2.2.2.2.2.2.2.2.2.2.2.2.1, y1.2.2.2.2.2.2.2.2.2.2.2.2.2.2.2.2.2.2.2.1), (y1.2.2.2.2.2.2.2.2.2.2.2.2.2.2.2.2.2.2.2.2.1, y1.2.2.2.2.2.2.2.2.2.2.2.2.2.2.2.2.2.2.2.2.2.1), (y1.2.2.2.2.2.2.2.2.2.2.2.2.2.2.2.2.2.2.2.2.2.2.1, y1.2.2.2.2.2.2.2.2.2.2.2.2.2.2.2.2.2.2.2.2.2.2.2.1), (y1.2.2.2.2.2.2.2.2.2.2.2.2.2.2.2.2.2.2.2.2.2.2.2.2.1, y1.2.2.2.2.2.2.2.2.2.2.2.2.2.2.2.2.2.2.2.2.2.2.2.2.2.1), (y1.2.2.2.2.2.2.2.2.2.2.2.2.2.2.2.2.2.2.2.2.2.2.2.2.2.2.1, y1.2.2.2.2.2.2.2.2.2.2.2.2.2.2.2.2.2.2.2.2.2.2.2.2.2.2.2.1), (y1.2.2.2.2.2.2.2.2.2.2.2.2.2.2.2.2.2.2.2.2.2.2.2.2.2.2.2.2.1, y1.2.2.2.2.2.2.2.2.2.2.2.2.2.2.2.2.2.2.2.2.2.2.2.2.2.2.2.2.2.1), (y1.2.2.2.2.2.2.2.2.2.2.2.2.2.2.2.2.2.2.2.2.2.2.2.2.2.2.2.2.2.2.1, y1.2.2.2.2.2.2.2.2.2.2.2.2.2.2.2.2.2.2.2.2.2.2.2.2.2.2.2.2.2.2.2.1), (y1.2.2.2.2.2.2.2.2.2.2.2.2.2.2.2.2.2.2.2.2.2.2.2.2.2.2.2.2.2.2.2.2.1, y1.2.2.2.2.2.2.2.2.2.2.2.2.2.2.2.2.2.2.2.2.2.2.2.2.2.2.2.2.2.2.2.2.2.1), (y1.2.2.2.2.2.2.2.2.2.2.2.2.2.2.2.2.2.2.2.2.2.2.2.2.2.2.2.2.2.2.2.2.2.2.1, y1.2.2.2.2.2.2.2.2.2.2.2.2.2.2.2.2.2.2.2.2.2.2.2.2.2.2.2.2.2.2.2.2.2.2.2.1), (y1.2.2.2.2.2.2.2.2.2.2.2.2.2.2.2.2.2.2.2.2.2.2.2.2.2.2.2.2.2.2.2.2.2.2.2.2.1, y1.2.2.2.2.2.2.2.2.2.2.2.2.2.2.2.2.2.2.2.2.2.2.2.2.2.2.2.2.2.2.2.2.2.2.2.2.2.1), (y1.2.2.2.2.2.2.2.2.2.2.2.2.2.2.2.2.2.2.2.2.2.2.2.2.2.2.2.2.2.2.2.2.2.2.2.2.2.2.1, y1.2.2.2.2.2.2.2.2.2.2.2.2.2.2.2.2.2.2.2.2.2.2.2.2.2.2.2.2.2.2.2.2.2.2.2.2.2.2.2.1), (y1.2.2.2.2.2.2.2.2.2.2.2.2.2.2.2.2.2.2.2.2.2.2.2.2.2.2.2.2.2.2.2.2.2.2.2.2.2.2.2.2.1, y1.2.2.2.2.2.2.2.2.2.2.2.2.2.2.2.2.2.2.2.2.2.2.2.2.2.2.2.2.2.2.2.2.2.2.2.2.2.2.2.2.2.1), (y1.2.2.2.2.2.2.2.2.2.2.2.2.2.2.2.2.2.2.2.2.2.2.2.2.2.2.2.2.2.2.2.2.2.2.2.2.2.2.2.2.2.2.1, y1.2.2.2.2.2.2.2.2.2.2.2.2.2.2.2.2.2.2.2.2.2.2.2.2.2.2.2.2.2.2.2.2.2.2.2.2.2.2.2.2.2.2.2.1), (y1.2.2.2.2.2.2.2.2.2.2.2.2.2.2.2.2.2.2.2.2.2.2.2.2.2.2.2.2.2.2.2.2.2.2.2.2.2.2.2.2.2.2.2.2.1, y1.2.2.2.2.2.2.2.2.2.2.2.2.2.2.2.2.2.2.2.2.2.2.2.2.2.2.2.2.2.2.2.2.2.2.2.2.2.2.2.2.2.2.2.2.2.1), (y1.2.2.2.2.2.2.2.2.2.2.2.2.2.2.2.2.2.2.2.2.2.2.2.2.2.2.2.2.2.2.2.2.2.2.2.2.2.2.2.2.2.2.2.2.2.2.1, y1.2.2.2.2.2.2.2.2.2.2.2.2.2.2.2.2.2.2.2.2.2.2.2.2.2.2.2.2.2.2.2.2.2.2.2.2.2.2.2.2.2.2.2.2.2.2.2.1), (y1.2.2.2.2.2.2.2.2.2.2.2.2.2.2.2.2.2.2.2.2.2.2.2.2.2.2.2.2.2.2.2.2.2.2.2.2.2.2.2.2.2.2.2.2.2.2.2.2.1, y1.2.2.2.2.2.2.2.2.2.2.2.2.2.2.2.2.2.2.2.2.2.2.2.2.2.2.2.2.2.2.2.2.2.2.2.2.2.2.2.2.2.2.2.2.2.2.2.2.2.1), (y1.2.2.2.2.2.2.2.2.2.2.2.2.2.2.2.2.2.2.2.2.2.2.2.2.2.2.2.2.2.2.2.2.2.2.2.2.2.2.2.2.2.2.2.2.2.2.2.2.2.2.1, y1.2.2.2.2.2.2.2.2.2.2.2.2.2.2.2.2.2.2.2.2.2.2.2.2.2.2.2.2.2.2.2.2.2.2.2.2.2.2.2.2.2.2.2.2.2.2.2.2.2.2.2.1), (y1.2.2.2.2.2.2.2.2.2.2.2.2.2.2.2.2.2.2.2.2.2.2.2.2.2.2.2.2.2.2.2.2.2.2.2.2.2.2.2.2.2.2.2.2.2.2.2.2.2.2.2.2.1, y1.2.2.2.2.2.2.2.2.2.2.2.2.2.2.2.2.2.2.2.2.2.2.2.2.2.2.2.2.2.2.2.2.2.2.2.2.2.2.2.2.2.2.2.2.2.2.2.2.2.2.2.2.2.1), y1.2.2.2.2.2.2.2.2.2.2.2.2.2.2.2.2.2.2.2.2.2.2.2.2.2.2.2.2.2.2.2.2.2.2.2.2.2.2.2.2.2.2.2.2.2.2.2.2.2.2.2.2.2.2] d1.toNat).bind fun (x2 : List UInt8 × Int) =>
      some x2
    else
      none
theorem er65 (rf : T.RF) (rb : T.RB) (d1 : Int) : T.stepF rf rb 65 d1 = r65 rf rb d1 := by kernel_rfl
theorem or65 {d1 : Int} {y : (List UInt8 × Int)} (h : r65 T.rf T.rb d1 = some y) : c65 T.rf d1 = some y := T.rf_of (f := 65) (d := d1) ((er65 T.rf T.rb d1).trans h)

/- strconv.Itoa -/
noncomputable def r67 (rf : T.RF) (rb : T.RB) (d1 : Int) : Option (List UInt8) :=
  bif fits64 d1 then
    some (itoaX d1)
  else
    none
theorem er67 (rf : T.RF) (rb : T.RB) (d1 : Int) : T.stepF rf rb 67 d1 = r67 rf rb d1 := by kernel_rfl
theorem or67 {d1 : Int} {y : (List UInt8)} (h : r67 T.rf T.rb d1 = some y) : c67 T.rf d1 = some y := T.rf_of (f := 67) (d := d1) ((er67 T.rf T.rb d1).trans h)

/- (*bailment/show.writer).put loop 0 -/
noncomputable def b54 (rf : T.RF) (rb : T.RB) (d1 : List XN) (d2 : List XK) (d3 : List (List UInt8)) (d4 : Int) (d5 : Int) : Option (List XN × List XK) :=
  bif decide (d5 < d4) then
    bif inb d5 d3.length then
      (nth d3 d5.toNat).bind fun (x1 : List UInt8) =>
      bif (Nat.ble (d2.length + 1) most) && true then
        k54 rb d1 (d2 ++ [(0, x1, 0)]) d3 d4 (IntKind.i64.wrap (d5 + 1))
      else
        none
    else
      none
  else
    some (d1, d2)
theorem eb54 (rf : T.RF) (rb : T.RB) (d1 : List XN) (d2 : List XK) (d3 : List (List UInt8)) (d4 : Int) (d5 : Int) : T.stepB rf rb 54 (d1, d2, d3, d4, d5) = b54 rf rb d1 d2 d3 d4 d5 := by kernel_rfl
theorem ob54 {d1 : List XN} {d2 : List XK} {d3 : List (List UInt8)} {d4 : Int} {d5 : Int} {y : (List XN × List XK)} (h : b54 T.rf T.rb d1 d2 d3 d4 d5 = some y) : k54 T.rb d1 d2 d3 d4 d5 = some y := T.rb_of (κ := 54) (d := (d1, d2, d3, d4, d5)) ((eb54 T.rf T.rb d1 d2 d3 d4 d5).trans h)

/- (*bailment/show.writer).put -/
noncomputable def r68 (rf : T.RF) (rb : T.RB) (d1 : List XN) (d2 : List XK) (d3 : List (List UInt8)) : Option (List XN × List XK) :=
  (k54 rb d1 d2 d3 (((d3.length : Nat) : Int)) 0).bind fun (z1 : List XN × List XK) =>
  some z1
theorem er68 (rf : T.RF) (rb : T.RB) (d1 : List XN) (d2 : List XK) (d3 : List (List UInt8)) : T.stepF rf rb 68 (d1, d2, d3) = r68 rf rb d1 d2 d3 := by kernel_rfl
theorem or68 {d1 : List XN} {d2 : List XK} {d3 : List (List UInt8)} {y : (List XN × List XK)} (h : r68 T.rf T.rb d1 d2 d3 = some y) : c68 T.rf d1 d2 d3 = some y := T.rf_of (f := 68) (d := (d1, d2, d3)) ((er68 T.rf T.rb d1 d2 d3).trans h)

/- internal/strconv.FormatBool -/
noncomputable def r70 (rf : T.RF) (rb : T.RB) (d1 : Bool) : Option (List UInt8) :=
  bif d1 then
    some ([116, 114, 117, 101] : List UInt8)
  else
    some ([102, 97, 108, 115, 101] : List UInt8)
theorem er70 (rf : T.RF) (rb : T.RB) (d1 : Bool) : T.stepF rf rb 70 d1 = r70 rf rb d1 := by kernel_rfl
theorem or70 {d1 : Bool} {y : (List UInt8)} (h : r70 T.rf T.rb d1 = some y) : c70 T.rf d1 = some y := T.rf_of (f := 70) (d := d1) ((er70 T.rf T.rb d1).trans h)

/- strconv.FormatBool -/
noncomputable def r69 (rf : T.RF) (rb : T.RB) (d1 : Bool) : Option (List UInt8) :=
  (c70 rf d1).bind fun (y1 : List UInt8) =>
  some y1
theorem er69 (rf : T.RF) (rb : T.RB) (d1 : Bool) : T.stepF rf rb 69 d1 = r69 rf rb d1 := by kernel_rfl
theorem or69 {d1 : Bool} {y : (List UInt8)} (h : r69 T.rf T.rb d1 = some y) : c69 T.rf d1 = some y := T.rf_of (f := 69) (d := d1) ((er69 T.rf T.rb d1).trans h)

/- (*bailment/show.writer).args -/
noncomputable def r71 (rf : T.RF) (rb : T.RB) (d1 : List XN) (d2 : List XK) (d3 : Int) : Option (List XN × List XK) :=
  bif inb d3 d1.length then
    (nth d1 d3.toNat).bind fun (x1 : XN) =>
    bif decide (x1.2.2.1 ≥ 0) then
      (c71 rf d1 d2 x1.2.2.1).bind fun (y2 : List XN × List XK) =>
      (c68 rf y2.1 y2.2 [([44] : List UInt8)]).bind fun (y3 : List XN × List XK) =>
      bif inb d3 y3.1.length then
        (nth y3.1 d3.toNat).bind fun (x4 : XN) =>
        (c64 rf y3.1 y3.2 x4.2.1).bind fun (y5 : List XN × List XK) =>
        some y5
      else
        none
    else
    bif inb d3 d1.length then
      (nth d1 d3.toNat).bind fun (x6 : XN) =>
      (c64 rf d1 d2 x6.2.1).bind fun (y7 : List XN × List XK) =>
      some y7
    else
      none
  else
    none
theorem er71 (rf : T.RF) (rb : T.RB) (d1 : List XN) (d2 : List XK) (d3 : Int) : T.stepF rf rb 71 (d1, d2, d3) = r71 rf rb d1 d2 d3 := by kernel_rfl
theorem or71 {d1 : List XN} {d2 : List XK} {d3 : Int} {y : (List XN × List XK)} (h : r71 T.rf T.rb d1 d2 d3 = some y) : c71 T.rf d1 d2 d3 = some y := T.rf_of (f := 71) (d := (d1, d2, d3)) ((er71 T.rf T.rb d1 d2 d3).trans h)

/- show.Level -/
noncomputable def r73 (rf : T.RF) (rb : T.RB) (d1 : Int) : Option Int :=
  (c65 rf d1).bind fun (y1 : List UInt8 × Int) =>
  some y1.2
theorem er73 (rf : T.RF) (rb : T.RB) (d1 : Int) : T.stepF rf rb 73 d1 = r73 rf rb d1 := by kernel_rfl
theorem or73 {d1 : Int} {y : Int} (h : r73 T.rf T.rb d1 = some y) : c73 T.rf d1 = some y := T.rf_of (f := 73) (d := d1) ((er73 T.rf T.rb d1).trans h)

/- (*bailment/show.writer).part -/
noncomputable def r72 (rf : T.RF) (rb : T.RB) (d1 : List XN) (d2 : List XK) (d3 : Int) (d4 : Int) : Option (List XN × List XK) :=
  bif inb d3 d1.length then
    (nth d1 d3.toNat).bind fun (x1 : XN) =>
    (c73 rf x1.1).bind fun (y2 : Int) =>
    bif decide (y2 ≥ d4) then
      (c64 rf d1 d2 d3).bind fun (y3 : List XN × List XK) =>
      some y3
    else
      (c68 rf d1 d2 [([40] : List UInt8)]).bind fun (y4 : List XN × List XK) =>
      (c64 rf y4.1 y4.2 d3).bind fun (y5 : List XN × List XK) =>
      (c68 rf y5.1 y5.2 [([41] : List UInt8)]).bind fun (y6 : List XN × List XK) =>
      some y6
  else
    none
theorem er72 (rf : T.RF) (rb : T.RB) (d1 : List XN) (d2 : List XK) (d3 : Int) (d4 : Int) : T.stepF rf rb 72 (d1, d2, d3, d4) = r72 rf rb d1 d2 d3 d4 := by kernel_rfl
theorem or72 {d1 : List XN} {d2 : List XK} {d3 : Int} {d4 : Int} {y : (List XN × List XK)} (h : r72 T.rf T.rb d1 d2 d3 d4 = some y) : c72 T.rf d1 d2 d3 d4 = some y := T.rf_of (f := 72) (d := (d1, d2, d3, d4)) ((er72 T.rf T.rb d1 d2 d3 d4).trans h)

/- (*bailment/show.writer).node -/
noncomputable def r64 (rf : T.RF) (rb : T.RB) (d1 : List XN) (d2 : List XK) (d3 : Int) : Option (List XN × List XK) :=
  bif inb d3 d1.length then
    (nth d1 d3.toNat).bind fun (x1 : XN) =>
    (c65 rf x1.1).bind fun (y2 : List UInt8 × Int) =>
    bif x1.1 == 1 then
      (c67 rf x1.2.2.2.2.1).bind fun (y3 : List UInt8) =>
      (c68 rf d1 d2 [y3]).bind fun (y4 : List XN × List XK) =>
      some y4
    else
    bif x1.1 == 2 then
      (c69 rf (x1.2.2.2.2.1 == 1)).bind fun (y5 : List UInt8) =>
      (c68 rf d1 d2 [y5]).bind fun (y6 : List XN × List XK) =>
      some y6
    else
    bif x1.1 == 3 then
      (c68 rf d1 d2 [x1.2.2.2.2.2]).bind fun (y7 : List XN × List XK) =>
      some y7
    else
    bif x1.1 == 27 then
      (c68 rf d1 d2 [x1.2.2.2.2.2, ([40] : List UInt8)]).bind fun (y8 : List XN × List XK) =>
      bif decide (x1.2.1 ≥ 0) then
        (c71 rf y8.1 y8.2 x1.2.1).bind fun (y9 : List XN × List XK) =>
        (c68 rf y9.1 y9.2 [([41] : List UInt8)]).bind fun (y10 : List XN × List XK) =>
        some y10
      else
        (c68 rf y8.1 y8.2 [([41] : List UInt8)]).bind fun (y11 : List XN × List XK) =>
        some y11
    else
    bif x1.1 == 26 then
      (c68 rf d1 d2 [y2.1]).bind fun (y12 : List XN × List XK) =>
      (c64 rf y12.1 y12.2 x1.2.1).bind fun (y13 : List XN × List XK) =>
      (c68 rf y13.1 y13.2 [([116, 104, 101, 110] : List UInt8)]).bind fun (y14 : List XN × List XK) =>
      (c64 rf y14.1 y14.2 x1.2.2.1).bind fun (y15 : List XN × List XK) =>
      (c68 rf y15.1 y15.2 [([101, 108, 115, 101] : List UInt8)]).bind fun (y16 : List XN × List XK) =>
      (c64 rf y16.1 y16.2 x1.2.2.2.1).bind fun (y17 : List XN × List XK) =>
      some y17
    else
    bif y2.2 == 9 then
      (c68 rf d1 d2 [y2.1]).bind fun (y18 : List XN × List XK) =>
      bif x1.1 == 25 then
        (c67 rf x1.2.2.2.2.1).bind fun (y19 : List UInt8) =>
        (c68 rf y18.1 y18.2 [y19]).bind fun (y20 : List XN × List XK) =>
        (c72 rf y20.1 y20.2 x1.2.1 9).bind fun (y21 : List XN × List XK) =>
        some y21
      else
        (c72 rf y18.1 y18.2 x1.2.1 9).bind fun (y22 : List XN × List XK) =>
        some y22
    else
    bif decide (y2.2 ≤ 2) then
      bif y2.2 == 6 then
        (c72 rf d1 d2 x1.2.1 y2.2).bind fun (y23 : List XN × List XK) =>
        (c68 rf y23.1 y23.2 [y2.1]).bind fun (y24 : List XN × List XK) =>
        (c72 rf y24.1 y24.2 x1.2.2.1 y2.2).bind fun (y25 : List XN × List XK) =>
        some y25
      else
        (c72 rf d1 d2 x1.2.1 (IntKind.i64.wrap (y2.2 + 1))).bind fun (y26 : List XN × List XK) =>
        (c68 rf y26.1 y26.2 [y2.1]).bind fun (y27 : List XN × List XK) =>
        (c72 rf y27.1 y27.2 x1.2.2.1 y2.2).bind fun (y28 : List XN × List XK) =>
        some y28
    else
    bif y2.2 == 6 then
      (c72 rf d1 d2 x1.2.1 (IntKind.i64.wrap (y2.2 + 1))).bind fun (y29 : List XN × List XK) =>
      (c68 rf y29.1 y29.2 [y2.1]).bind fun (y30 : List XN × List XK) =>
      (c72 rf y30.1 y30.2 x1.2.2.1 (IntKind.i64.wrap (y2.2 + 1))).bind fun (y31 : List XN × List XK) =>
      some y31
    else
      (c72 rf d1 d2 x1.2.1 y2.2).bind fun (y32 : List XN × List XK) =>
      (c68 rf y32.1 y32.2 [y2.1]).bind fun (y33 : List XN × List XK) =>
      (c72 rf y33.1 y33.2 x1.2.2.1 (IntKind.i64.wrap (y2.2 + 1))).bind fun (y34 : List XN × List XK) =>
      some y34
  else
    none
theorem er64 (rf : T.RF) (rb : T.RB) (d1 : List XN) (d2 : List XK) (d3 : Int) : T.stepF rf rb 64 (d1, d2, d3) = r64 rf rb d1 d2 d3 := by kernel_rfl
theorem or64 {d1 : List XN} {d2 : List XK} {d3 : Int} {y : (List XN × List XK)} (h : r64 T.rf T.rb d1 d2 d3 = some y) : c64 T.rf d1 d2 d3 = some y := T.rf_of (f := 64) (d := (d1, d2, d3)) ((er64 T.rf T.rb d1 d2 d3).trans h)

/- lex.Join -/
noncomputable def r74 (rf : T.RF) (rb : T.RB) (d1 : List XK) : Option (List UInt8) :=
  bif Nat.ble (joinX d1).length most then
    some (joinX d1)
  else
    none
theorem er74 (rf : T.RF) (rb : T.RB) (d1 : List XK) : T.stepF rf rb 74 d1 = r74 rf rb d1 := by kernel_rfl
theorem or74 {d1 : List XK} {y : (List UInt8)} (h : r74 T.rf T.rb d1 = some y) : c74 T.rf d1 = some y := T.rf_of (f := 74) (d := d1) ((er74 T.rf T.rb d1).trans h)

/- show.Show -/
noncomputable def r43 (rf : T.RF) (rb : T.RB) (d1 : List XN) : Option (List UInt8) :=
  (c44 rf d1).bind fun (y1 : Bool) =>
  bif !y1 then
    some ([] : List UInt8)
  else
    (c64 rf d1 [] (IntKind.i64.wrap ((((d1.length : Nat) : Int)) - 1))).bind fun (y2 : List XN × List XK) =>
    (c74 rf y2.2).bind fun (y3 : List UInt8) =>
    some y3
theorem er43 (rf : T.RF) (rb : T.RB) (d1 : List XN) : T.stepF rf rb 43 d1 = r43 rf rb d1 := by kernel_rfl
theorem or43 {d1 : List XN} {y : (List UInt8)} (h : r43 T.rf T.rb d1 = some y) : c43 T.rf d1 = some y := T.rf_of (f := 43) (d := d1) ((er43 T.rf T.rb d1).trans h)

/- show.Op -/
noncomputable def r75 (rf : T.RF) (rb : T.RB) (d1 : Int) : Option (List UInt8) :=
  (c65 rf d1).bind fun (y1 : List UInt8 × Int) =>
  some y1.1
theorem er75 (rf : T.RF) (rb : T.RB) (d1 : Int) : T.stepF rf rb 75 d1 = r75 rf rb d1 := by kernel_rfl
theorem or75 {d1 : Int} {y : (List UInt8)} (h : r75 T.rf T.rb d1 = some y) : c75 T.rf d1 = some y := T.rf_of (f := 75) (d := d1) ((er75 T.rf T.rb d1).trans h)

/- bailmentlaw05.live -/
noncomputable def r1 (rf : T.RF) (rb : T.RB) : Option Bool :=
  (c2 rf ([97, 32, 45, 32, 40, 98, 32, 45, 32, 99, 41, 32, 45, 62, 32, 105, 102, 32, 102, 40, 97, 44, 32, 50, 41, 32, 116, 104, 101, 110, 32, 110, 111, 116, 32, 40, 98, 32, 97, 110, 100, 32, 99, 41, 32, 101, 108, 115, 101, 32, 116, 114, 117, 101] : List UInt8)).bind fun (y1 : List XN × Int × Int) =>
  (c43 rf y1.1).bind fun (y2 : List UInt8) =>
  bif y2 == ([97, 32, 45, 32, 40, 32, 98, 32, 45, 32, 99, 32, 41, 32, 45, 62, 32, 40, 32, 105, 102, 32, 102, 32, 40, 32, 97, 32, 44, 32, 50, 32, 41, 32, 116, 104, 101, 110, 32, 110, 111, 116, 32, 40, 32, 98, 32, 97, 110, 100, 32, 99, 32, 41, 32, 101, 108, 115, 101, 32, 116, 114, 117, 101, 32, 41] : List UInt8) then
    (c44 rf y1.1).bind fun (y3 : Bool) =>
    bif y3 then
      (c75 rf 9).bind fun (y4 : List UInt8) =>
      bif y4 == ([61, 62] : List UInt8) then
        (c73 rf 26).bind fun (y5 : Int) =>
        bif y5 == 0 then
          (c73 rf 28).bind fun (y6 : Int) =>
          bif y6 == (-1) then
            (c43 rf [(3, (-1), (-1), (-1), 0, ([65] : List UInt8))]).bind fun (y7 : List UInt8) =>
            some (y7 == ([] : List UInt8))
          else
            some false
        else
          some false
      else
        some false
    else
      some false
  else
    some false
theorem er1 (rf : T.RF) (rb : T.RB) : T.stepF rf rb 1 () = r1 rf rb := by kernel_rfl
theorem or1 {y : Bool} (h : r1 T.rf T.rb = some y) : c1 T.rf = some y := T.rf_of (f := 1) (d := ()) ((er1 T.rf T.rb).trans h)

/- bailmentref03.bare -/
noncomputable def r79 (rf : T.RF) (rb : T.RB) (d1 : XN) : Option Bool :=
  (c29 rf d1).bind fun (y1 : List Int) =>
  bif d1.1 == 27 then
    bif d1.2.2.1 == (-1) then
      some (d1.2.2.2.1 == (-1))
    else
      some false
  else
  bif d1.1 == 28 then
    some (d1.2.2.2.1 == (-1))
  else
  bif decide ((((y1.length : Nat) : Int)) > 0) then
    bif decide ((((y1.length : Nat) : Int)) > 1) then
      bif decide ((((y1.length : Nat) : Int)) > 2) then
        some true
      else
        some (d1.2.2.2.1 == (-1))
    else
    bif d1.2.2.1 == (-1) then
      bif decide ((((y1.length : Nat) : Int)) > 2) then
        some true
      else
        some (d1.2.2.2.1 == (-1))
    else
      some false
  else
  bif d1.2.1 == (-1) then
    bif decide ((((y1.length : Nat) : Int)) > 1) then
      bif decide ((((y1.length : Nat) : Int)) > 2) then
        some true
      else
        some (d1.2.2.2.1 == (-1))
    else
    bif d1.2.2.1 == (-1) then
      bif decide ((((y1.length : Nat) : Int)) > 2) then
        some true
      else
        some (d1.2.2.2.1 == (-1))
    else
      some false
  else
    some false
theorem er79 (rf : T.RF) (rb : T.RB) (d1 : XN) : T.stepF rf rb 79 d1 = r79 rf rb d1 := by kernel_rfl
theorem or79 {d1 : XN} {y : Bool} (h : r79 T.rf T.rb d1 = some y) : c79 T.rf d1 = some y := T.rf_of (f := 79) (d := d1) ((er79 T.rf T.rb d1).trans h)

/- bailmentref03.plain -/
noncomputable def r80 (rf : T.RF) (rb : T.RB) (d1 : XN) : Option Bool :=
  bif d1.1 == 3 then
    bif !((!(d1.2.2.2.2.2 == ([] : List UInt8))) == true) then
      some false
    else
    bif d1.1 == 1 then
      bif decide (d1.2.2.2.2.1 ≥ 0) then
        some (decide (d1.2.2.2.2.1 ≤ 2147483647))
      else
        some false
    else
    bif d1.1 == 2 then
      bif d1.2.2.2.2.1 == 0 then
        some true
      else
        some (d1.2.2.2.2.1 == 1)
    else
    bif d1.1 == 25 then
      bif decide (d1.2.2.2.2.1 ≥ 0) then
        some (decide (d1.2.2.2.2.1 ≤ 1000))
      else
        some false
    else
      some (d1.2.2.2.2.1 == 0)
  else
  bif !((!(d1.2.2.2.2.2 == ([] : List UInt8))) == (d1.1 == 27)) then
    some false
  else
  bif d1.1 == 1 then
    bif decide (d1.2.2.2.2.1 ≥ 0) then
      some (decide (d1.2.2.2.2.1 ≤ 2147483647))
    else
      some false
  else
  bif d1.1 == 2 then
    bif d1.2.2.2.2.1 == 0 then
      some true
    else
      some (d1.2.2.2.2.1 == 1)
  else
  bif d1.1 == 25 then
    bif decide (d1.2.2.2.2.1 ≥ 0) then
      some (decide (d1.2.2.2.2.1 ≤ 1000))
    else
      some false
  else
    some (d1.2.2.2.2.1 == 0)
theorem er80 (rf : T.RF) (rb : T.RB) (d1 : XN) : T.stepF rf rb 80 d1 = r80 rf rb d1 := by kernel_rfl
theorem or80 {d1 : XN} {y : Bool} (h : r80 T.rf T.rb d1 = some y) : c80 T.rf d1 = some y := T.rf_of (f := 80) (d := d1) ((er80 T.rf T.rb d1).trans h)

/- bailmentref03.args loop 0 -/
noncomputable def b57 (rf : T.RF) (rb : T.RB) (d1 : XN) (d2 : List Int) (d3 : List XN) (d4 : Int) : Option ((XN × List Int × Bool) ⊕ (XN × List Int)) :=
  bif decide (d4 < (((d2.length : Nat) : Int))) then
    bif inb d4 d2.length then
      (nth d2 d4.toNat).bind fun (x1 : Int) =>
      bif inb x1 d3.length then
        (nth d3 x1.toNat).bind fun (x2 : XN) =>
        bif d1.1 == 27 then
          bif !((x2.1 == 28) == true) then
            some (.inl (d1, d2, false))
          else
            k57 rb d1 d2 d3 (IntKind.i64.wrap (d4 + 1))
        else
        bif d1.1 == 28 then
          bif (((d2.length : Nat) : Int)) == 2 then
            bif !((x2.1 == 28) == (d4 == 0)) then
              some (.inl (d1, d2, false))
            else
              k57 rb d1 d2 d3 (IntKind.i64.wrap (d4 + 1))
          else
          bif !((x2.1 == 28) == false) then
            some (.inl (d1, d2, false))
          else
            k57 rb d1 d2 d3 (IntKind.i64.wrap (d4 + 1))
        else
        bif !((x2.1 == 28) == false) then
          some (.inl (d1, d2, false))
        else
          k57 rb d1 d2 d3 (IntKind.i64.wrap (d4 + 1))
      else
        none
    else
      none
  else
    some (.inr (d1, d2))
theorem eb57 (rf : T.RF) (rb : T.RB) (d1 : XN) (d2 : List Int) (d3 : List XN) (d4 : Int) : T.stepB rf rb 57 (d1, d2, d3, d4) = b57 rf rb d1 d2 d3 d4 := by kernel_rfl
theorem ob57 {d1 : XN} {d2 : List Int} {d3 : List XN} {d4 : Int} {y : ((XN × List Int × Bool) ⊕ (XN × List Int))} (h : b57 T.rf T.rb d1 d2 d3 d4 = some y) : k57 T.rb d1 d2 d3 d4 = some y := T.rb_of (κ := 57) (d := (d1, d2, d3, d4)) ((eb57 T.rf T.rb d1 d2 d3 d4).trans h)

/- bailmentref03.args -/
noncomputable def r81 (rf : T.RF) (rb : T.RB) (d1 : List XN) (d2 : Int) : Option Bool :=
  bif inb d2 d1.length then
    (nth d1 d2.toNat).bind fun (x1 : XN) =>
    (c29 rf x1).bind fun (y2 : List Int) =>
    (k57 rb x1 y2 d1 0).bind fun (z3 : (XN × List Int × Bool) ⊕ (XN × List Int)) =>
    match z3 with
    | .inl u4 =>
      some u4.2.2
    | .inr w5 =>
      some true
  else
    none
theorem er81 (rf : T.RF) (rb : T.RB) (d1 : List XN) (d2 : Int) : T.stepF rf rb 81 (d1, d2) = r81 rf rb d1 d2 := by kernel_rfl
theorem or81 {d1 : List XN} {d2 : Int} {y : Bool} (h : r81 T.rf T.rb d1 d2 = some y) : c81 T.rf d1 d2 = some y := T.rf_of (f := 81) (d := (d1, d2)) ((er81 T.rf T.rb d1 d2).trans h)

/- bailmentref03.May loop 0 -/
noncomputable def b55 (rf : T.RF) (rb : T.RB) (d1 : List Int) (d2 : List XN) (d3 : Int) : Option ((List Int × Bool) ⊕ (List Int)) :=
  bif decide (d3 < (((d2.length : Nat) : Int))) then
    bif inb d3 d2.length then
      (nth d2 d3.toNat).bind fun (x1 : XN) =>
      bif decide (x1.1 < 1) then
        some (.inl (d1, false))
      else
      bif inb d3 d2.length then
        (nth d2 d3.toNat).bind fun (x2 : XN) =>
        bif decide (x2.1 > 28) then
          some (.inl (d1, false))
        else
        bif inb d3 d2.length then
          (nth d2 d3.toNat).bind fun (x3 : XN) =>
          (c79 rf x3).bind fun (y4 : Bool) =>
          bif !y4 then
            some (.inl (d1, false))
          else
          bif inb d3 d2.length then
            (nth d2 d3.toNat).bind fun (x5 : XN) =>
            (c80 rf x5).bind fun (y6 : Bool) =>
            bif !y6 then
              some (.inl (d1, false))
            else
            bif inb d3 d2.length then
              (nth d2 d3.toNat).bind fun (x7 : XN) =>
              (c29 rf x7).bind fun (y8 : List Int) =>
              (k56 rb d1 y8 d3 0).bind fun (z9 : (List Int × List Int × Bool) ⊕ (List Int × List Int)) =>
              match z9 with
              | .inl u10 =>
                some (.inl (u10.1, u10.2.2))
              | .inr w11 =>
                (c81 rf d2 d3).bind fun (y12 : Bool) =>
                bif !y12 then
                  some (.inl (w11.1, false))
                else
                  k55 rb w11.1 d2 (IntKind.i64.wrap (d3 + 1))
            else
              none
          else
            none
        else
          none
      else
        none
    else
      none
  else
    some (.inr d1)
theorem eb55 (rf : T.RF) (rb : T.RB) (d1 : List Int) (d2 : List XN) (d3 : Int) : T.stepB rf rb 55 (d1, d2, d3) = b55 rf rb d1 d2 d3 := by kernel_rfl
theorem ob55 {d1 : List Int} {d2 : List XN} {d3 : Int} {y : ((List Int × Bool) ⊕ (List Int))} (h : b55 T.rf T.rb d1 d2 d3 = some y) : k55 T.rb d1 d2 d3 = some y := T.rb_of (κ := 55) (d := (d1, d2, d3)) ((eb55 T.rf T.rb d1 d2 d3).trans h)

/- bailmentref03.May loop 2 -/
noncomputable def b56 (rf : T.RF) (rb : T.RB) (d1 : List Int) (d2 : List Int) (d3 : Int) (d4 : Int) : Option ((List Int × List Int × Bool) ⊕ (List Int × List Int)) :=
  bif decide (d4 < (((d2.length : Nat) : Int))) then
    bif inb d4 d2.length then
      (nth d2 d4.toNat).bind fun (x1 : Int) =>
      bif decide (x1 < 0) then
        some (.inl (d1, d2, false))
      else
      bif inb d4 d2.length then
        (nth d2 d4.toNat).bind fun (x2 : Int) =>
        bif decide (x2 ≥ d3) then
          some (.inl (d1, d2, false))
        else
        bif inb d4 d2.length then
          (nth d2 d4.toNat).bind fun (x3 : Int) =>
          bif inb x3 d1.length then
            (nth d1 x3.toNat).bind fun (x4 : Int) =>
            bif inb x3 d1.length then
              bif Nat.blt x3.toNat d1.length then
                k56 rb (setNth d1 x3.toNat (IntKind.i64.wrap (x4 + 1))) d2 d3 (IntKind.i64.wrap (d4 + 1))
              else
                none
            else
              none
          else
            none
        else
          none
      else
        none
    else
      none
  else
    some (.inr (d1, d2))
theorem eb56 (rf : T.RF) (rb : T.RB) (d1 : List Int) (d2 : List Int) (d3 : Int) (d4 : Int) : T.stepB rf rb 56 (d1, d2, d3, d4) = b56 rf rb d1 d2 d3 d4 := by kernel_rfl
theorem ob56 {d1 : List Int} {d2 : List Int} {d3 : Int} {d4 : Int} {y : ((List Int × List Int × Bool) ⊕ (List Int × List Int))} (h : b56 T.rf T.rb d1 d2 d3 d4 = some y) : k56 T.rb d1 d2 d3 d4 = some y := T.rb_of (κ := 56) (d := (d1, d2, d3, d4)) ((eb56 T.rf T.rb d1 d2 d3 d4).trans h)

/- bailmentref03.May loop 4 -/
noncomputable def b58 (rf : T.RF) (rb : T.RB) (d1 : List Int) (d2 : List XN) (d3 : Int) : Option ((List Int × Bool) ⊕ (List Int)) :=
  bif decide (d3 < (IntKind.i64.wrap ((((d2.length : Nat) : Int)) - 1))) then
    bif inb d3 d1.length then
      (nth d1 d3.toNat).bind fun (x1 : Int) =>
      bif x1 != 1 then
        some (.inl (d1, false))
      else
        k58 rb d1 d2 (IntKind.i64.wrap (d3 + 1))
    else
      none
  else
    some (.inr d1)
theorem eb58 (rf : T.RF) (rb : T.RB) (d1 : List Int) (d2 : List XN) (d3 : Int) : T.stepB rf rb 58 (d1, d2, d3) = b58 rf rb d1 d2 d3 := by kernel_rfl
theorem ob58 {d1 : List Int} {d2 : List XN} {d3 : Int} {y : ((List Int × Bool) ⊕ (List Int))} (h : b58 T.rf T.rb d1 d2 d3 = some y) : k58 T.rb d1 d2 d3 = some y := T.rb_of (κ := 58) (d := (d1, d2, d3)) ((eb58 T.rf T.rb d1 d2 d3).trans h)

/- bailmentref03.May -/
noncomputable def r78 (rf : T.RF) (rb : T.RB) (d1 : List XN) : Option Bool :=
  bif decide ((((d1.length : Nat) : Int)) < 1) then
    some false
  else
  bif decide ((((d1.length : Nat) : Int)) > 5000) then
    some false
  else
  bif inb' (((d1.length : Nat) : Int)) most then
    bif inb' (((d1.length : Nat) : Int)) d1.length then
      (k55 rb (List.replicate d1.length (0 : Int)) d1 0).bind fun (z1 : (List Int × Bool) ⊕ (List Int)) =>
      match z1 with
      | .inl u2 =>
        some u2.2
      | .inr w3 =>
        (k58 rb w3 d1 0).bind fun (z4 : (List Int × Bool) ⊕ (List Int)) =>
        match z4 with
        | .inl u5 =>
          some u5.2
        | .inr w6 =>
          bif inb (IntKind.i64.wrap ((((d1.length : Nat) : Int)) - 1)) d1.length then
            (nth d1 (IntKind.i64.wrap ((((d1.length : Nat) : Int)) - 1)).toNat).bind fun (x7 : XN) =>
            bif x7.1 != 28 then
              (c42 rf d1).bind fun (y8 : Int) =>
              some (decide (y8 ≤ 40))
            else
              some false
          else
            none
    else
      none
  else
    none
theorem er78 (rf : T.RF) (rb : T.RB) (d1 : List XN) : T.stepF rf rb 78 d1 = r78 rf rb d1 := by kernel_rfl
theorem or78 {d1 : List XN} {y : Bool} (h : r78 T.rf T.rb d1 = some y) : c78 T.rf d1 = some y := T.rf_of (f := 78) (d := d1) ((er78 T.rf T.rb d1).trans h)

/- bailmentref05.May loop 0 -/
noncomputable def b59 (rf : T.RF) (rb : T.RB) (d1 : List XN) (d2 : Int) : Option (Bool ⊕ Unit) :=
  bif decide (d2 < (((d1.length : Nat) : Int))) then
    bif inb d2 d1.length then
      (nth d1 d2.toNat).bind fun (x1 : XN) =>
      bif !(x1.2.2.2.2.2 == ([] : List UInt8)) then
        bif inb d2 d1.length then
          (nth d1 d2.toNat).bind fun (x2 : XN) =>
          (c11 rf x2.2.2.2.2.2).bind fun (y3 : Bool) =>
          bif !y3 then
            some (.inl false)
          else
            k59 rb d1 (IntKind.i64.wrap (d2 + 1))
        else
          none
      else
        k59 rb d1 (IntKind.i64.wrap (d2 + 1))
    else
      none
  else
    some (.inr ())
theorem eb59 (rf : T.RF) (rb : T.RB) (d1 : List XN) (d2 : Int) : T.stepB rf rb 59 (d1, d2) = b59 rf rb d1 d2 := by kernel_rfl
theorem ob59 {d1 : List XN} {d2 : Int} {y : (Bool ⊕ Unit)} (h : b59 T.rf T.rb d1 d2 = some y) : k59 T.rb d1 d2 = some y := T.rb_of (κ := 59) (d := (d1, d2)) ((eb59 T.rf T.rb d1 d2).trans h)

/- bailmentref05.May -/
noncomputable def r77 (rf : T.RF) (rb : T.RB) (d1 : List XN) : Option Bool :=
  (c78 rf d1).bind fun (y1 : Bool) =>
  bif !y1 then
    some false
  else
    (k59 rb d1 0).bind fun (z2 : Bool ⊕ Unit) =>
    match z2 with
    | .inl u3 =>
      some u3
    | .inr w4 =>
      some true
theorem er77 (rf : T.RF) (rb : T.RB) (d1 : List XN) : T.stepF rf rb 77 d1 = r77 rf rb d1 := by kernel_rfl
theorem or77 {d1 : List XN} {y : Bool} (h : r77 T.rf T.rb d1 = some y) : c77 T.rf d1 = some y := T.rf_of (f := 77) (d := d1) ((er77 T.rf T.rb d1).trans h)

/- bailmentref05.Digits -/
noncomputable def r83 (rf : T.RF) (rb : T.RB) (d1 : Int) : Option (List UInt8) :=
  bif decide (d1 ≥ 10) then
    (c83 rf (IntKind.i64.wrap (Int.tdiv d1 10))).bind fun (y1 : List UInt8) =>
    bif Nat.ble (y1.length + (strOf [IntKind.u8.wrap (IntKind.i64.wrap (48 + (Int.tmod d1 10)))]).length) most then
      some (y1 ++ (strOf [IntKind.u8.wrap (IntKind.i64.wrap (48 + (Int.tmod d1 10)))]))
    else
      none
  else
    some (strOf [IntKind.u8.wrap (IntKind.i64.wrap (48 + (Int.tmod d1 10)))])
theorem er83 (rf : T.RF) (rb : T.RB) (d1 : Int) : T.stepF rf rb 83 d1 = r83 rf rb d1 := by kernel_rfl
theorem or83 {d1 : Int} {y : (List UInt8)} (h : r83 T.rf T.rb d1 = some y) : c83 T.rf d1 = some y := T.rf_of (f := 83) (d := d1) ((er83 T.rf T.rb d1).trans h)

/- bailmentref05.call loop 0 -/
noncomputable def b61 (rf : T.RF) (rb : T.RB) (d1 : List (List UInt8)) (d2 : List XN) (d3 : Int) : Option (List (List UInt8)) :=
  bif decide (d3 ≥ 0) then
    bif inb d3 d2.length then
      (nth d2 d3.toNat).bind fun (x1 : XN) =>
      (c82 rf d2 x1.2.1).bind fun (y2 : List UInt8) =>
      bif (Nat.ble (d1.length + 1) most) && true then
        bif inb d3 d2.length then
          (nth d2 d3.toNat).bind fun (x3 : XN) =>
          k61 rb (d1 ++ [y2]) d2 x3.2.2.1
        else
          none
      else
        none
    else
      none
  else
    some d1
theorem eb61 (rf : T.RF) (rb : T.RB) (d1 : List (List UInt8)) (d2 : List XN) (d3 : Int) : T.stepB rf rb 61 (d1, d2, d3) = b61 rf rb d1 d2 d3 := by kernel_rfl
theorem ob61 {d1 : List (List UInt8)} {d2 : List XN} {d3 : Int} {y : (List (List UInt8))} (h : b61 T.rf T.rb d1 d2 d3 = some y) : k61 T.rb d1 d2 d3 = some y := T.rb_of (κ := 61) (d := (d1, d2, d3)) ((eb61 T.rf T.rb d1 d2 d3).trans h)

/- bailmentref05.call loop 2 -/
noncomputable def b62 (rf : T.RF) (rb : T.RB) (d1 : List (List UInt8)) (d2 : List UInt8) (d3 : Int) : Option (List (List UInt8) × List UInt8) :=
  bif decide (d3 ≥ 0) then
    bif Nat.ble (d2.length + 1) most then
      bif inb d3 d1.length then
        (nth d1 d3.toNat).bind fun (x1 : List UInt8) =>
        bif Nat.ble ((d2 ++ ([32] : List UInt8)).length + x1.length) most then
          bif decide (d3 > 0) then
            bif Nat.ble (((d2 ++ ([32] : List UInt8)) ++ x1).length + 2) most then
              k62 rb d1 (((d2 ++ ([32] : List UInt8)) ++ x1) ++ ([32, 44] : List UInt8)) (IntKind.i64.wrap (d3 - 1))
            else
              none
          else
            k62 rb d1 ((d2 ++ ([32] : List UInt8)) ++ x1) (IntKind.i64.wrap (d3 - 1))
        else
          none
      else
        none
    else
      none
  else
    some (d1, d2)
theorem eb62 (rf : T.RF) (rb : T.RB) (d1 : List (List UInt8)) (d2 : List UInt8) (d3 : Int) : T.stepB rf rb 62 (d1, d2, d3) = b62 rf rb d1 d2 d3 := by kernel_rfl
theorem ob62 {d1 : List (List UInt8)} {d2 : List UInt8} {d3 : Int} {y : (List (List UInt8) × List UInt8)} (h : b62 T.rf T.rb d1 d2 d3 = some y) : k62 T.rb d1 d2 d3 = some y := T.rb_of (κ := 62) (d := (d1, d2, d3)) ((eb62 T.rf T.rb d1 d2 d3).trans h)

/- bailmentref05.call -/
noncomputable def r84 (rf : T.RF) (rb : T.RB) (d1 : List XN) (d2 : Int) : Option (List UInt8) :=
  bif inb d2 d1.length then
    (nth d1 d2.toNat).bind fun (x1 : XN) =>
    bif decide (x1.2.1 < 0) then
      bif inb d2 d1.length then
        (nth d1 d2.toNat).bind fun (x2 : XN) =>
        bif Nat.ble (x2.2.2.2.2.2.length + 4) most then
          some (x2.2.2.2.2.2 ++ ([32, 40, 32, 41] : List UInt8))
        else
          none
      else
        none
    else
    bif inb d2 d1.length then
      (nth d1 d2.toNat).bind fun (x3 : XN) =>
      (k61 rb [] d1 x3.2.1).bind fun (z4 : List (List UInt8)) =>
      bif inb d2 d1.length then
        (nth d1 d2.toNat).bind fun (x5 : XN) =>
        bif Nat.ble (x5.2.2.2.2.2.length + 2) most then
          (k62 rb z4 (x5.2.2.2.2.2 ++ ([32, 40] : List UInt8)) (IntKind.i64.wrap ((((z4.length : Nat) : Int)) - 1))).bind fun (z6 : List (List UInt8) × List UInt8) =>
          bif Nat.ble (z6.2.length + 2) most then
            some (z6.2 ++ ([32, 41] : List UInt8))
          else
            none
        else
          none
      else
        none
    else
      none
  else
    none
theorem er84 (rf : T.RF) (rb : T.RB) (d1 : List XN) (d2 : Int) : T.stepF rf rb 84 (d1, d2) = r84 rf rb d1 d2 := by kernel_rfl
theorem or84 {d1 : List XN} {d2 : Int} {y : (List UInt8)} (h : r84 T.rf T.rb d1 d2 = some y) : c84 T.rf d1 d2 = some y := T.rf_of (f := 84) (d := (d1, d2)) ((er84 T.rf T.rb d1 d2).trans h)

/- bailmentref05.Level -/
noncomputable def r86 (rf : T.RF) (rb : T.RB) (d1 : Int) : Option Int :=
  bif decide (d1 < 0) then
    some (-1)
  else
  bif decide (d1 ≥ 28) then
    some (-1)
  else
  bif inb d1 28 then
    (nth [(-1), 10, 10, 10, 9, 9, 5, 4, 4, 2, 6, 6, 6, 6, 7, 7, 8, 8, 8, 1, 3, 9, 9, 9, 9, 9, 0, 10] d1.toNat).bind fun (x1 : Int) =>
    some x1
  else
    none
theorem er86 (rf : T.RF) (rb : T.RB) (d1 : Int) : T.stepF rf rb 86 d1 = r86 rf rb d1 := by kernel_rfl
theorem or86 {d1 : Int} {y : Int} (h : r86 T.rf T.rb d1 = some y) : c86 T.rf d1 = some y := T.rf_of (f := 86) (d := d1) ((er86 T.rf T.rb d1).trans h)

/- bailmentref05.part -/
noncomputable def r85 (rf : T.RF) (rb : T.RB) (d1 : List XN) (d2 : Int) (d3 : Int) : Option (List UInt8) :=
  (c82 rf d1 d2).bind fun (y1 : List UInt8) =>
  bif inb d2 d1.length then
    (nth d1 d2.toNat).bind fun (x2 : XN) =>
    (c86 rf x2.1).bind fun (y3 : Int) =>
    bif decide (y3 < d3) then
      bif Nat.ble (2 + y1.length) most then
        bif Nat.ble ((([40, 32] : List UInt8) ++ y1).length + 2) most then
          some ((([40, 32] : List UInt8) ++ y1) ++ ([32, 41] : List UInt8))
        else
          none
      else
        none
    else
      some y1
  else
    none
theorem er85 (rf : T.RF) (rb : T.RB) (d1 : List XN) (d2 : Int) (d3 : Int) : T.stepF rf rb 85 (d1, d2, d3) = r85 rf rb d1 d2 d3 := by kernel_rfl
theorem or85 {d1 : List XN} {d2 : Int} {d3 : Int} {y : (List UInt8)} (h : r85 T.rf T.rb d1 d2 d3 = some y) : c85 T.rf d1 d2 d3 = some y := T.rf_of (f := 85) (d := (d1, d2, d3)) ((er85 T.rf T.rb d1 d2 d3).trans h)

/- bailmentref05.Op -/
noncomputable def r87 (rf : T.RF) (rb : T.RB) (d1 : Int) : Option (List UInt8) :=
  bif decide (d1 < 0) then
    some ([] : List UInt8)
  else
  bif decide (d1 ≥ 27) then
    some ([] : List UInt8)
  else
  bif inb d1 27 then
    (nth [([] : List UInt8), ([] : List UInt8), ([] : List UInt8), ([] : List UInt8), ([110, 111, 116] : List UInt8), ([45] : List UInt8), ([97, 110, 100] : List UInt8), ([111, 114] : List UInt8), ([120, 111, 114] : List UInt8), ([61, 62] : List UInt8), ([61] : List UInt8), ([60, 62] : List UInt8), ([60] : List UInt8), ([60, 61] : List UInt8), ([43] : List UInt8), ([45] : List UInt8), ([42] : List UInt8), ([100, 105, 118] : List UInt8), ([109, 111, 100] : List UInt8), ([45, 62] : List UInt8), ([115, 105, 110, 99, 101] : List UInt8), ([112, 114, 101] : List UInt8), ([111, 110, 99, 101] : List UInt8), ([104, 105, 115, 116] : List UInt8), ([112, 114, 101, 118] : List UInt8), ([119, 105, 116, 104, 105, 110] : List UInt8), ([105, 102] : List UInt8)] d1.toNat).bind fun (x1 : List UInt8) =>
    some x1
  else
    none
theorem er87 (rf : T.RF) (rb : T.RB) (d1 : Int) : T.stepF rf rb 87 d1 = r87 rf rb d1 := by kernel_rfl
theorem or87 {d1 : Int} {y : (List UInt8)} (h : r87 T.rf T.rb d1 = some y) : c87 T.rf d1 = some y := T.rf_of (f := 87) (d := d1) ((er87 T.rf T.rb d1).trans h)

/- bailmentref05.node -/
noncomputable def r82 (rf : T.RF) (rb : T.RB) (d1 : List XN) (d2 : Int) : Option (List UInt8) :=
  bif inb d2 d1.length then
    (nth d1 d2.toNat).bind fun (x1 : XN) =>
    bif x1.1 == 1 then
      (c83 rf x1.2.2.2.2.1).bind fun (y2 : List UInt8) =>
      some y2
    else
    bif x1.1 == 2 then
      bif x1.2.2.2.2.1 == 1 then
        some ([116, 114, 117, 101] : List UInt8)
      else
        some ([102, 97, 108, 115, 101] : List UInt8)
    else
    bif x1.1 == 3 then
      some x1.2.2.2.2.2
    else
    bif x1.1 == 27 then
      (c84 rf d1 d2).bind fun (y3 : List UInt8) =>
      some y3
    else
    bif x1.1 == 26 then
      (c82 rf d1 x1.2.1).bind fun (y4 : List UInt8) =>
      bif Nat.ble (3 + y4.length) most then
        bif Nat.ble ((([105, 102, 32] : List UInt8) ++ y4).length + 6) most then
          (c82 rf d1 x1.2.2.1).bind fun (y5 : List UInt8) =>
          bif Nat.ble (((([105, 102, 32] : List UInt8) ++ y4) ++ ([32, 116, 104, 101, 110, 32] : List UInt8)).length + y5.length) most then
            bif Nat.ble ((((([105, 102, 32] : List UInt8) ++ y4) ++ ([32, 116, 104, 101, 110, 32] : List UInt8)) ++ y5).length + 6) most then
              (c82 rf d1 x1.2.2.2.1).bind fun (y6 : List UInt8) =>
              bif Nat.ble (((((([105, 102, 32] : List UInt8) ++ y4) ++ ([32, 116, 104, 101, 110, 32] : List UInt8)) ++ y5) ++ ([32, 101, 108, 115, 101, 32] : List UInt8)).length + y6.length) most then
                some (((((([105, 102, 32] : List UInt8) ++ y4) ++ ([32, 116, 104, 101, 110, 32] : List UInt8)) ++ y5) ++ ([32, 101, 108, 115, 101, 32] : List UInt8)) ++ y6)
              else
                none
            else
              none
          else
            none
        else
          none
      else
        none
    else
    bif x1.1 == 25 then
      (c83 rf x1.2.2.2.2.1).bind fun (y7 : List UInt8) =>
      bif Nat.ble (7 + y7.length) most then
        bif Nat.ble ((([119, 105, 116, 104, 105, 110, 32] : List UInt8) ++ y7).length + 1) most then
          (c85 rf d1 x1.2.1 9).bind fun (y8 : List UInt8) =>
          bif Nat.ble (((([119, 105, 116, 104, 105, 110, 32] : List UInt8) ++ y7) ++ ([32] : List UInt8)).length + y8.length) most then
            some (((([119, 105, 116, 104, 105, 110, 32] : List UInt8) ++ y7) ++ ([32] : List UInt8)) ++ y8)
          else
            none
        else
          none
      else
        none
    else
      (c86 rf x1.1).bind fun (y9 : Int) =>
      bif y9 == 9 then
        (c87 rf x1.1).bind fun (y10 : List UInt8) =>
        bif Nat.ble (y10.length + 1) most then
          (c85 rf d1 x1.2.1 9).bind fun (y11 : List UInt8) =>
          bif Nat.ble ((y10 ++ ([32] : List UInt8)).length + y11.length) most then
            some ((y10 ++ ([32] : List UInt8)) ++ y11)
          else
            none
        else
          none
      else
      bif decide (y9 ≤ 2) then
        bif y9 == 6 then
          (c85 rf d1 x1.2.1 7).bind fun (y12 : List UInt8) =>
          bif Nat.ble (y12.length + 1) most then
            (c87 rf x1.1).bind fun (y13 : List UInt8) =>
            bif Nat.ble ((y12 ++ ([32] : List UInt8)).length + y13.length) most then
              bif Nat.ble (((y12 ++ ([32] : List UInt8)) ++ y13).length + 1) most then
                (c85 rf d1 x1.2.2.1 y9).bind fun (y14 : List UInt8) =>
                bif Nat.ble ((((y12 ++ ([32] : List UInt8)) ++ y13) ++ ([32] : List UInt8)).length + y14.length) most then
                  some ((((y12 ++ ([32] : List UInt8)) ++ y13) ++ ([32] : List UInt8)) ++ y14)
                else
                  none
              else
                none
            else
              none
          else
            none
        else
          (c85 rf d1 x1.2.1 (IntKind.i64.wrap (y9 + 1))).bind fun (y15 : List UInt8) =>
          bif Nat.ble (y15.length + 1) most then
            (c87 rf x1.1).bind fun (y16 : List UInt8) =>
            bif Nat.ble ((y15 ++ ([32] : List UInt8)).length + y16.length) most then
              bif Nat.ble (((y15 ++ ([32] : List UInt8)) ++ y16).length + 1) most then
                (c85 rf d1 x1.2.2.1 y9).bind fun (y17 : List UInt8) =>
                bif Nat.ble ((((y15 ++ ([32] : List UInt8)) ++ y16) ++ ([32] : List UInt8)).length + y17.length) most then
                  some ((((y15 ++ ([32] : List UInt8)) ++ y16) ++ ([32] : List UInt8)) ++ y17)
                else
                  none
              else
                none
            else
              none
          else
            none
      else
      bif y9 == 6 then
        (c85 rf d1 x1.2.1 7).bind fun (y18 : List UInt8) =>
        bif Nat.ble (y18.length + 1) most then
          (c87 rf x1.1).bind fun (y19 : List UInt8) =>
          bif Nat.ble ((y18 ++ ([32] : List UInt8)).length + y19.length) most then
            bif Nat.ble (((y18 ++ ([32] : List UInt8)) ++ y19).length + 1) most then
              (c85 rf d1 x1.2.2.1 (IntKind.i64.wrap (y9 + 1))).bind fun (y20 : List UInt8) =>
              bif Nat.ble ((((y18 ++ ([32] : List UInt8)) ++ y19) ++ ([32] : List UInt8)).length + y20.length) most then
                some ((((y18 ++ ([32] : List UInt8)) ++ y19) ++ ([32] : List UInt8)) ++ y20)
              else
                none
            else
              none
          else
            none
        else
          none
      else
        (c85 rf d1 x1.2.1 y9).bind fun (y21 : List UInt8) =>
        bif Nat.ble (y21.length + 1) most then
          (c87 rf x1.1).bind fun (y22 : List UInt8) =>
          bif Nat.ble ((y21 ++ ([32] : List UInt8)).length + y22.length) most then
            bif Nat.ble (((y21 ++ ([32] : List UInt8)) ++ y22).length + 1) most then
              (c85 rf d1 x1.2.2.1 (IntKind.i64.wrap (y9 + 1))).bind fun (y23 : List UInt8) =>
              bif Nat.ble ((((y21 ++ ([32] : List UInt8)) ++ y22) ++ ([32] : List UInt8)).length + y23.length) most then
                some ((((y21 ++ ([32] : List UInt8)) ++ y22) ++ ([32] : List UInt8)) ++ y23)
              else
                none
            else
              none
          else
            none
        else
          none
  else
    none
theorem er82 (rf : T.RF) (rb : T.RB) (d1 : List XN) (d2 : Int) : T.stepF rf rb 82 (d1, d2) = r82 rf rb d1 d2 := by kernel_rfl
theorem or82 {d1 : List XN} {d2 : Int} {y : (List UInt8)} (h : r82 T.rf T.rb d1 d2 = some y) : c82 T.rf d1 d2 = some y := T.rf_of (f := 82) (d := (d1, d2)) ((er82 T.rf T.rb d1 d2).trans h)

/- bailmentref05.Show -/
noncomputable def r76 (rf : T.RF) (rb : T.RB) (d1 : List XN) : Option (List UInt8) :=
  (c77 rf d1).bind fun (y1 : Bool) =>
  bif !y1 then
    some ([] : List UInt8)
  else
    (c82 rf d1 (IntKind.i64.wrap ((((d1.length : Nat) : Int)) - 1))).bind fun (y2 : List UInt8) =>
    some y2
theorem er76 (rf : T.RF) (rb : T.RB) (d1 : List XN) : T.stepF rf rb 76 d1 = r76 rf rb d1 := by kernel_rfl
theorem or76 {d1 : List XN} {y : (List UInt8)} (h : r76 T.rf T.rb d1 = some y) : c76 T.rf d1 = some y := T.rf_of (f := 76) (d := d1) ((er76 T.rf T.rb d1).trans h)

/- bailmentlaw05.ShowWrites -/
noncomputable def r0 (rf : T.RF) (rb : T.RB) (d1 : List XN) (d2 : Int) : Option Bool :=
  bif decide ((((d1.length : Nat) : Int)) > 300) then
    (c1 rf).bind fun (y1 : Bool) =>
    some y1
  else
    (c43 rf d1).bind fun (y2 : List UInt8) =>
    (c76 rf d1).bind fun (y3 : List UInt8) =>
    bif y2 == y3 then
      (c44 rf d1).bind fun (y4 : Bool) =>
      (c77 rf d1).bind fun (y5 : Bool) =>
      bif y4 == y5 then
        (c75 rf d2).bind fun (y6 : List UInt8) =>
        (c87 rf d2).bind fun (y7 : List UInt8) =>
        bif y6 == y7 then
          (c73 rf d2).bind fun (y8 : Int) =>
          (c86 rf d2).bind fun (y9 : Int) =>
          bif y8 == y9 then
            (c1 rf).bind fun (y10 : Bool) =>
            some y10
          else
            some false
        else
          some false
      else
        some false
    else
      some false
theorem er0 (rf : T.RF) (rb : T.RB) (d1 : List XN) (d2 : Int) : T.stepF rf rb 0 (d1, d2) = r0 rf rb d1 d2 := by kernel_rfl
theorem or0 {d1 : List XN} {d2 : Int} {y : Bool} (h : r0 T.rf T.rb d1 d2 = some y) : c0 T.rf d1 d2 = some y := T.rf_of (f := 0) (d := (d1, d2)) ((er0 T.rf T.rb d1 d2).trans h)

/- bailmentref03.order loop 0 -/
noncomputable def b64 (rf : T.RF) (rb : T.RB) (d1 : List XN) (d2 : List Int) (d3 : List Int) (d4 : List XN) (d5 : Int) : Option (List Int × List XN × List Int) :=
  bif decide (d5 < (((d2.length : Nat) : Int))) then
    bif inb d5 d2.length then
      (nth d2 d5.toNat).bind fun (x1 : Int) =>
      (c91 rf d1 d4 x1).bind fun (y2 : List XN) =>
      bif (Nat.ble (d3.length + 1) most) && true then
        k64 rb y2 d2 (d3 ++ [IntKind.i64.wrap ((((y2.length : Nat) : Int)) - 1)]) d4 (IntKind.i64.wrap (d5 + 1))
      else
        none
    else
      none
  else
    some (d2, d1, d3)
theorem eb64 (rf : T.RF) (rb : T.RB) (d1 : List XN) (d2 : List Int) (d3 : List Int) (d4 : List XN) (d5 : Int) : T.stepB rf rb 64 (d1, d2, d3, d4, d5) = b64 rf rb d1 d2 d3 d4 d5 := by kernel_rfl
theorem ob64 {d1 : List XN} {d2 : List Int} {d3 : List Int} {d4 : List XN} {d5 : Int} {y : (List Int × List XN × List Int)} (h : b64 T.rf T.rb d1 d2 d3 d4 d5 = some y) : k64 T.rb d1 d2 d3 d4 d5 = some y := T.rb_of (κ := 64) (d := (d1, d2, d3, d4, d5)) ((eb64 T.rf T.rb d1 d2 d3 d4 d5).trans h)

/- bailmentref03.order -/
noncomputable def r91 (rf : T.RF) (rb : T.RB) (d1 : List XN) (d2 : List XN) (d3 : Int) : Option (List XN) :=
  bif inb d3 d2.length then
    (nth d2 d3.toNat).bind fun (x1 : XN) =>
    (c29 rf x1).bind fun (y2 : List Int) =>
    (k64 rb d1 y2 [] d2 0).bind fun (z3 : List Int × List XN × List Int) =>
    bif inb d3 d2.length then
      (nth d2 d3.toNat).bind fun (x4 : XN) =>
      (c32 rf x4 z3.2.2).bind fun (y5 : XN) =>
      bif (Nat.ble (z3.2.1.length + 1) most) && true then
        some (z3.2.1 ++ [y5])
      else
        none
    else
      none
  else
    none
theorem er91 (rf : T.RF) (rb : T.RB) (d1 : List XN) (d2 : List XN) (d3 : Int) : T.stepF rf rb 91 (d1, d2, d3) = r91 rf rb d1 d2 d3 := by kernel_rfl
theorem or91 {d1 : List XN} {d2 : List XN} {d3 : Int} {y : (List XN)} (h : r91 T.rf T.rb d1 d2 d3 = some y) : c91 T.rf d1 d2 d3 = some y := T.rf_of (f := 91) (d := (d1, d2, d3)) ((er91 T.rf T.rb d1 d2 d3).trans h)

/- bailmentref03.Sub -/
noncomputable def r90 (rf : T.RF) (rb : T.RB) (d1 : List XN) (d2 : Int) : Option (List XN) :=
  (c78 rf d1).bind fun (y1 : Bool) =>
  bif !y1 then
    some []
  else
  bif decide (d2 < 0) then
    some []
  else
  bif decide (d2 ≥ (((d1.length : Nat) : Int))) then
    some []
  else
    (c91 rf [] d1 d2).bind fun (y2 : List XN) =>
    some y2
theorem er90 (rf : T.RF) (rb : T.RB) (d1 : List XN) (d2 : Int) : T.stepF rf rb 90 (d1, d2) = r90 rf rb d1 d2 := by kernel_rfl
theorem or90 {d1 : List XN} {d2 : Int} {y : (List XN)} (h : r90 T.rf T.rb d1 d2 = some y) : c90 T.rf d1 d2 = some y := T.rf_of (f := 90) (d := (d1, d2)) ((er90 T.rf T.rb d1 d2).trans h)

/- bailmentref03.Norm -/
noncomputable def r89 (rf : T.RF) (rb : T.RB) (d1 : List XN) : Option (List XN) :=
  (c90 rf d1 (IntKind.i64.wrap ((((d1.length : Nat) : Int)) - 1))).bind fun (y1 : List XN) =>
  some y1
theorem er89 (rf : T.RF) (rb : T.RB) (d1 : List XN) : T.stepF rf rb 89 d1 = r89 rf rb d1 := by kernel_rfl
theorem or89 {d1 : List XN} {y : (List XN)} (h : r89 T.rf T.rb d1 = some y) : c89 T.rf d1 = some y := T.rf_of (f := 89) (d := d1) ((er89 T.rf T.rb d1).trans h)

/- bailmentref03.Same loop 0 -/
noncomputable def b65 (rf : T.RF) (rb : T.RB) (d1 : List XN) (d2 : List XN) (d3 : Int) : Option (Bool ⊕ Unit) :=
  bif decide (d3 < (((d1.length : Nat) : Int))) then
    bif inb d3 d1.length then
      (nth d1 d3.toNat).bind fun (x1 : XN) =>
      bif inb d3 d2.length then
        (nth d2 d3.toNat).bind fun (x2 : XN) =>
        bif !((x1.1 == x2.1) && ((x1.2.1 == x2.2.1) && ((x1.2.2.1 == x2.2.2.1) && ((x1.2.2.2.1 == x2.2.2.2.1) && ((x1.2.2.2.2.1 == x2.2.2.2.2.1) && (x1.2.2.2.2.2 == x2.2.2.2.2.2)))))) then
          some (.inl false)
        else
          k65 rb d1 d2 (IntKind.i64.wrap (d3 + 1))
      else
        none
    else
      none
  else
    some (.inr ())
theorem eb65 (rf : T.RF) (rb : T.RB) (d1 : List XN) (d2 : List XN) (d3 : Int) : T.stepB rf rb 65 (d1, d2, d3) = b65 rf rb d1 d2 d3 := by kernel_rfl
theorem ob65 {d1 : List XN} {d2 : List XN} {d3 : Int} {y : (Bool ⊕ Unit)} (h : b65 T.rf T.rb d1 d2 d3 = some y) : k65 T.rb d1 d2 d3 = some y := T.rb_of (κ := 65) (d := (d1, d2, d3)) ((eb65 T.rf T.rb d1 d2 d3).trans h)

/- bailmentref03.Same -/
noncomputable def r92 (rf : T.RF) (rb : T.RB) (d1 : List XN) (d2 : List XN) : Option Bool :=
  bif (((d1.length : Nat) : Int)) != (((d2.length : Nat) : Int)) then
    some false
  else
    (k65 rb d1 d2 0).bind fun (z1 : Bool ⊕ Unit) =>
    match z1 with
    | .inl u2 =>
      some u2
    | .inr w3 =>
      some true
theorem er92 (rf : T.RF) (rb : T.RB) (d1 : List XN) (d2 : List XN) : T.stepF rf rb 92 (d1, d2) = r92 rf rb d1 d2 := by kernel_rfl
theorem or92 {d1 : List XN} {d2 : List XN} {y : Bool} (h : r92 T.rf T.rb d1 d2 = some y) : c92 T.rf d1 d2 = some y := T.rf_of (f := 92) (d := (d1, d2)) ((er92 T.rf T.rb d1 d2).trans h)

/- bailmentlaw05.ShowBack -/
noncomputable def r88 (rf : T.RF) (rb : T.RB) (d1 : List XN) : Option Bool :=
  bif decide ((((d1.length : Nat) : Int)) > 300) then
    (c1 rf).bind fun (y1 : Bool) =>
    some y1
  else
    (c43 rf d1).bind fun (y2 : List UInt8) =>
    (c44 rf d1).bind fun (y3 : Bool) =>
    bif !y3 then
      bif y2 == ([] : List UInt8) then
        (c1 rf).bind fun (y4 : Bool) =>
        some y4
      else
        some false
    else
      (c2 rf y2).bind fun (y5 : List XN × Int × Int) =>
      bif y5.2.1 == 0 then
        (c89 rf d1).bind fun (y6 : List XN) =>
        (c92 rf y5.1 y6).bind fun (y7 : Bool) =>
        bif y7 then
          (c1 rf).bind fun (y8 : Bool) =>
          some y8
        else
          some false
      else
        some false
theorem er88 (rf : T.RF) (rb : T.RB) (d1 : List XN) : T.stepF rf rb 88 d1 = r88 rf rb d1 := by kernel_rfl
theorem or88 {d1 : List XN} {y : Bool} (h : r88 T.rf T.rb d1 = some y) : c88 T.rf d1 = some y := T.rf_of (f := 88) (d := d1) ((er88 T.rf T.rb d1).trans h)

/- bailmentlaw05.ShowAgain -/
noncomputable def r93 (rf : T.RF) (rb : T.RB) (d1 : List UInt8) : Option Bool :=
  bif decide ((((d1.length : Nat) : Int)) > 1000) then
    (c1 rf).bind fun (y1 : Bool) =>
    some y1
  else
    (c2 rf d1).bind fun (y2 : List XN × Int × Int) =>
    bif y2.2.1 != 0 then
      (c1 rf).bind fun (y3 : Bool) =>
      some y3
    else
      (c43 rf y2.1).bind fun (y4 : List UInt8) =>
      (c2 rf y4).bind fun (y5 : List XN × Int × Int) =>
      bif y5.2.1 == 0 then
        (c43 rf y5.1).bind fun (y6 : List UInt8) =>
        bif y6 == y4 then
          (c89 rf y2.1).bind fun (y7 : List XN) =>
          (c92 rf y5.1 y7).bind fun (y8 : Bool) =>
          bif y8 then
            (c1 rf).bind fun (y9 : Bool) =>
            some y9
          else
            some false
        else
          some false
      else
        some false
theorem er93 (rf : T.RF) (rb : T.RB) (d1 : List UInt8) : T.stepF rf rb 93 d1 = r93 rf rb d1 := by kernel_rfl
theorem or93 {d1 : List UInt8} {y : Bool} (h : r93 T.rf T.rb d1 = some y) : c93 T.rf d1 = some y := T.rf_of (f := 93) (d := d1) ((er93 T.rf T.rb d1).trans h)

/- bailmentlaw05.ShowOrder -/
noncomputable def r94 (rf : T.RF) (rb : T.RB) (d1 : List XN) : Option Bool :=
  bif decide ((((d1.length : Nat) : Int)) > 300) then
    (c1 rf).bind fun (y1 : Bool) =>
    some y1
  else
    (c78 rf d1).bind fun (y2 : Bool) =>
    bif !y2 then
      (c1 rf).bind fun (y3 : Bool) =>
      some y3
    else
      (c43 rf d1).bind fun (y4 : List UInt8) =>
      (c89 rf d1).bind fun (y5 : List XN) =>
      (c43 rf y5).bind fun (y6 : List UInt8) =>
      bif y4 == y6 then
        (c1 rf).bind fun (y7 : Bool) =>
        some y7
      else
        some false
theorem er94 (rf : T.RF) (rb : T.RB) (d1 : List XN) : T.stepF rf rb 94 d1 = r94 rf rb d1 := by kernel_rfl
theorem or94 {d1 : List XN} {y : Bool} (h : r94 T.rf T.rb d1 = some y) : c94 T.rf d1 = some y := T.rf_of (f := 94) (d := d1) ((er94 T.rf T.rb d1).trans h)

/- bailmentlaw05.ShowApart -/
noncomputable def r95 (rf : T.RF) (rb : T.RB) (d1 : List XN) (d2 : List XN) : Option Bool :=
  bif decide ((((d1.length : Nat) : Int)) > 200) then
    (c1 rf).bind fun (y1 : Bool) =>
    some y1
  else
  bif decide ((((d2.length : Nat) : Int)) > 200) then
    (c1 rf).bind fun (y2 : Bool) =>
    some y2
  else
    (c44 rf d1).bind fun (y3 : Bool) =>
    bif !y3 then
      (c1 rf).bind fun (y4 : Bool) =>
      some y4
    else
      (c44 rf d2).bind fun (y5 : Bool) =>
      bif !y5 then
        (c1 rf).bind fun (y6 : Bool) =>
        some y6
      else
        (c43 rf d1).bind fun (y7 : List UInt8) =>
        (c43 rf d2).bind fun (y8 : List UInt8) =>
        (c89 rf d1).bind fun (y9 : List XN) =>
        (c89 rf d2).bind fun (y10 : List XN) =>
        (c92 rf y9 y10).bind fun (y11 : Bool) =>
        bif (y7 == y8) == y11 then
          (c1 rf).bind fun (y12 : Bool) =>
          some y12
        else
          some false
theorem er95 (rf : T.RF) (rb : T.RB) (d1 : List XN) (d2 : List XN) : T.stepF rf rb 95 (d1, d2) = r95 rf rb d1 d2 := by kernel_rfl
theorem or95 {d1 : List XN} {d2 : List XN} {y : Bool} (h : r95 T.rf T.rb d1 d2 = some y) : c95 T.rf d1 d2 = some y := T.rf_of (f := 95) (d := (d1, d2)) ((er95 T.rf T.rb d1 d2).trans h)

theorem place_len : tabs.placeL.length = 66 := rfl
end Go.Proofs.YtoippcahbninnaaGreatDoor.R
