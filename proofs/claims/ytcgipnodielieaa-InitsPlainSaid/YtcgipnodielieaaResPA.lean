/-
  OUR OWN, PRINTED BY A PROGRAM OF OURS (table2.py): the table of the functions, and what each comes to.
-/
import Derived.Test.YtcgipnodielieaaBmRun
import Derived.Test.YtcgipnodielieaaProg
import Derived.KernelRfl
namespace Go.Proofs.Ytcgipnodielieaa.R
open Go Go.Bm Go.Proofs
set_option linter.unusedVariables false
set_option linter.unusedSimpArgs false
set_option maxRecDepth 100000

noncomputable def tabs : Tabs := {
  tabL := [(3, .leaf (.int .i64 0)),
  (4, .leaf (.bool false)),
  (5, .leaf (.int .u8 0)),
  (9, .leaf (.str [])),
  (23, .slice (.prod (.int .i64) (.prod (.int .i64) (.prod (.int .i64) (.prod (.int .i64) (.prod (.int .i64) .str))))) 40),
  (25, .leaf (.int .i64 0)),
  (29, .slice (.prod .bool (.prod .str (.prod (.list (.prod .str (.int .i64))) (.prod .str (.prod (.int .i64) (.prod (.list (.prod .str (.int .i64))) (.prod (.list (.prod .str (.list (.prod (.int .i64) (.prod (.int .i64) (.prod (.int .i64) (.prod (.int .i64) (.prod (.int .i64) .str)))))))) (.list (.prod (.int .i64) (.prod .str (.prod (.int .i64) (.prod (.list (.prod (.int .i64) (.prod (.int .i64) (.prod (.int .i64) (.prod (.int .i64) (.prod (.int .i64) .str)))))) (.prod (.list (.prod (.int .i64) (.prod (.int .i64) (.prod (.int .i64) (.prod (.int .i64) (.prod (.int .i64) .str)))))) (.list (.list (.prod (.int .i64) (.prod (.int .i64) (.prod (.int .i64) (.prod (.int .i64) (.prod (.int .i64) .str)))))))))))))))))))) 59),
  (31, .struct [(0, 1, false), (1, 1, false), (2, 1, false)] [.nils, .str [], .str []]),
  (34, .struct [(0, 1, false), (1, 1, false)] [.int .i64 0, .int .i64 0]),
  (38, .slice (.list (.prod (.int .i64) (.prod (.int .i64) (.prod (.int .i64) (.prod (.int .i64) (.prod (.int .i64) .str)))))) 23),
  (40, .struct [(0, 1, false), (1, 1, false), (2, 1, false), (3, 1, false), (4, 1, false), (5, 1, false)] [.int .i64 0, .int .i64 0, .int .i64 0, .int .i64 0, .int .i64 0, .str []]),
  (48, .slice .bool 4),
  (49, .slice (.int .i64) 3),
  (53, .slice (.prod .str (.int .i64)) 55),
  (55, .struct [(0, 1, false), (1, 1, false)] [.str [], .int .i64 0]),
  (56, .slice (.prod .str (.list (.prod (.int .i64) (.prod (.int .i64) (.prod (.int .i64) (.prod (.int .i64) (.prod (.int .i64) .str))))))) 61),
  (57, .slice (.prod (.int .i64) (.prod .str (.prod (.int .i64) (.prod (.list (.prod (.int .i64) (.prod (.int .i64) (.prod (.int .i64) (.prod (.int .i64) (.prod (.int .i64) .str)))))) (.prod (.list (.prod (.int .i64) (.prod (.int .i64) (.prod (.int .i64) (.prod (.int .i64) (.prod (.int .i64) .str)))))) (.list (.list (.prod (.int .i64) (.prod (.int .i64) (.prod (.int .i64) (.prod (.int .i64) (.prod (.int .i64) .str)))))))))))) 63),
  (59, .struct [(0, 1, false), (1, 1, false), (2, 1, false), (3, 2, true), (5, 1, false), (6, 1, false), (7, 1, false)] [.bool false, .str [], .nils, .str [], .int .i64 0, .nils, .nils, .nils]),
  (61, .struct [(0, 1, false), (1, 1, false)] [.str [], .nils]),
  (63, .struct [(0, 1, false), (1, 1, false), (2, 1, false), (3, 1, false), (4, 1, false), (5, 1, false)] [.int .i64 0, .str [], .int .i64 0, .nils, .nils, .nils]),
  (72, .slice (.prod (.int .i64) (.prod .str (.int .i64))) 78),
  (78, .struct [(0, 1, false), (1, 1, false), (2, 1, false)] [.int .i64 0, .str [], .int .i64 0]),
  (81, .struct [(0, 1, false), (1, 1, false), (2, 2, true)] [.nils, .int .i64 0, .int .i64 0, .int .i64 0]),
  (94, .struct [(0, 1, false), (1, 1, false), (2, 1, false), (3, 2, true)] [.nils, .int .i64 0, .int .i64 0, .int .i64 0, .int .i64 0]),
  (110, .leaf (.nilp)),
  (111, .slice .unit 110),
  (112, .slice .str 9)]
  eqtL := [34, 40]
  keysL := [(3, [0]), (4, [84]), (5, [88]), (6, [89]), (7, [90]), (8, [94]), (9, [1]), (10, [43]), (11, [78]), (12, [85]), (13, [76]), (14, [86]), (15, [79]), (16, [42]), (17, [27]), (18, [91]), (19, [92]), (20, [2]), (21, [53]), (22, [44]), (23, [52]), (24, [46]), (25, [83]), (26, [77]), (27, [87]), (28, [80]), (29, [81]), (30, [29]), (31, [82]), (32, [28]), (33, [30]), (34, [32]), (35, [93]), (36, [3]), (37, [14]), (38, [54, 60]), (39, [56, 67]), (40, [58]), (41, [66]), (42, [62]), (43, [59]), (44, [55, 61]), (45, [57, 64]), (46, [45]), (47, [48]), (48, [50]), (49, [31]), (50, [4]), (51, [15]), (52, [25]), (53, [65]), (54, [69]), (55, [68]), (56, [74]), (57, [75]), (58, [63]), (59, [47]), (60, [49]), (61, [51]), (62, [5]), (63, [6]), (64, [7]), (65, [8]), (66, [12]), (67, [16]), (68, [34]), (69, [41]), (70, [70]), (71, [71]), (72, [72]), (73, [9]), (74, [11]), (75, [13]), (76, [17]), (77, [35]), (78, [73]), (79, [10]), (80, [18]), (81, [19]), (82, [20]), (83, [21]), (84, [22]), (85, [23]), (86, [24]), (87, [26]), (88, [33]), (89, [38]), (90, [39]), (91, [37]), (92, [40]), (93, [36])]
  kinL := [⟨[], [.one (.pl (.list (.prod (.int .i64) (.prod (.int .i64) (.prod (.int .i64) (.prod (.int .i64) (.prod (.int .i64) .str)))))))]⟩,
  ⟨[], []⟩,
  ⟨[], [.one (.pl .str)]⟩,
  ⟨[], [.one (.pl .str)]⟩,
  ⟨[], [.one (.pl .str), .one (.pl (.int .i64))]⟩,
  ⟨[], [.one (.pl (.int .u8))]⟩,
  ⟨[], [.one (.pl .str)]⟩,
  ⟨[], [.one (.pl (.int .u8))]⟩,
  ⟨[], [.one (.pl .str), .one (.pl (.int .i64))]⟩,
  ⟨[], [.one (.pl .str)]⟩,
  ⟨[], []⟩,
  ⟨[], [.one (.pl .str)]⟩,
  ⟨[], [.one (.pl .str)]⟩,
  ⟨[], []⟩,
  ⟨[], [.one (.pl (.list (.prod (.int .i64) (.prod .str (.int .i64))))), .one (.pl (.int .i64))]⟩,
  ⟨[(true, .box [.pl (.prod (.list (.prod (.int .i64) (.prod .str (.int .i64)))) (.prod (.int .i64) (.prod (.int .i64) (.prod (.int .i64) (.int .i64)))))])], [.one (.ptr 0 0)]⟩,
  ⟨[(true, .box [.pl (.prod (.list (.prod (.int .i64) (.prod .str (.int .i64)))) (.prod (.int .i64) (.prod (.int .i64) (.prod (.int .i64) (.int .i64)))))])], [.one (.ptr 0 0)]⟩,
  ⟨[(true, .box [.pl (.prod (.list (.prod (.int .i64) (.prod .str (.int .i64)))) (.prod (.int .i64) (.prod (.int .i64) (.prod (.int .i64) (.int .i64)))))])], [.one (.ptr 0 0)]⟩,
  ⟨[(true, .box [.pl (.prod (.list (.prod (.int .i64) (.prod .str (.int .i64)))) (.prod (.int .i64) (.prod (.int .i64) (.prod (.int .i64) (.int .i64)))))])], [.one (.ptr 0 0)]⟩,
  ⟨[(true, .box [.pl (.prod (.list (.prod (.int .i64) (.prod .str (.int .i64)))) (.prod (.int .i64) (.prod (.int .i64) (.prod (.int .i64) (.int .i64)))))])], [.one (.ptr 0 0)]⟩,
  ⟨[(true, .box [.pl (.prod (.list (.prod (.int .i64) (.prod .str (.int .i64)))) (.prod (.int .i64) (.prod (.int .i64) (.prod (.int .i64) (.int .i64)))))])], [.one (.ptr 0 0)]⟩,
  ⟨[(true, .box [.pl (.prod (.list (.prod (.int .i64) (.prod .str (.int .i64)))) (.prod (.int .i64) (.prod (.int .i64) (.prod (.int .i64) (.int .i64)))))])], [.one (.ptr 0 0)]⟩,
  ⟨[(true, .box [.pl (.prod (.list (.prod (.int .i64) (.prod .str (.int .i64)))) (.prod (.int .i64) (.prod (.int .i64) (.prod (.int .i64) (.int .i64)))))])], [.one (.ptr 0 0)]⟩,
  ⟨[(true, .box [.pl (.prod (.list (.prod (.int .i64) (.prod .str (.int .i64)))) (.prod (.int .i64) (.prod (.int .i64) (.prod (.int .i64) (.int .i64)))))])], [.one (.ptr 0 0)]⟩,
  ⟨[(true, .box [.pl (.prod (.list (.prod (.int .i64) (.prod .str (.int .i64)))) (.prod (.int .i64) (.prod (.int .i64) (.prod (.int .i64) (.int .i64)))))])], [.one (.ptr 0 0), .one (.pl (.int .i64))]⟩,
  ⟨[], [.one (.pl (.list (.prod (.int .i64) (.prod .str (.int .i64))))), .one (.pl (.int .i64))]⟩,
  ⟨[(true, .box [.pl (.prod (.list (.prod (.int .i64) (.prod .str (.int .i64)))) (.prod (.int .i64) (.prod (.int .i64) (.prod (.int .i64) (.int .i64)))))])], [.one (.ptr 0 0), .agg [.pl (.prod (.int .i64) (.prod .str (.int .i64)))]]⟩,
  ⟨[], [.one (.pl (.int .i64)), .one (.pl (.int .i64)), .one (.pl .str), .one (.pl (.list (.list (.prod (.int .i64) (.prod (.int .i64) (.prod (.int .i64) (.prod (.int .i64) (.prod (.int .i64) .str))))))))]⟩,
  ⟨[], [.one (.pl (.int .i64)), .one (.pl (.int .i64)), .one (.pl .str)]⟩,
  ⟨[], [.agg [.pl (.prod (.int .i64) (.prod (.int .i64) (.prod (.int .i64) (.prod (.int .i64) (.prod (.int .i64) .str)))))]]⟩,
  ⟨[(true, .arr (.prod (.int .i64) (.prod (.int .i64) (.prod (.int .i64) (.prod (.int .i64) (.prod (.int .i64) .str))))))], [.one (.sl 0), .one (.pl (.list (.prod (.int .i64) (.prod (.int .i64) (.prod (.int .i64) (.prod (.int .i64) (.prod (.int .i64) .str)))))))]⟩,
  ⟨[], [.agg [.pl (.prod (.int .i64) (.prod (.int .i64) (.prod (.int .i64) (.prod (.int .i64) (.prod (.int .i64) .str)))))], .one (.pl (.int .i64))]⟩,
  ⟨[], [.agg [.pl (.prod (.int .i64) (.prod (.int .i64) (.prod (.int .i64) (.prod (.int .i64) (.prod (.int .i64) .str)))))], .one (.pl (.list (.int .i64)))]⟩,
  ⟨[(true, .box [.pl (.prod (.list (.prod (.int .i64) (.prod .str (.int .i64)))) (.prod (.int .i64) (.prod (.int .i64) (.prod (.int .i64) (.int .i64)))))])], [.one (.ptr 0 0), .one (.pl .str)]⟩,
  ⟨[(true, .box [.pl (.prod (.list (.prod (.int .i64) (.prod .str (.int .i64)))) (.prod (.int .i64) (.prod (.int .i64) (.prod (.int .i64) (.int .i64)))))])], [.one (.ptr 0 0), .one (.pl .str)]⟩,
  ⟨[(true, .box [.pl (.prod (.list (.prod (.int .i64) (.prod .str (.int .i64)))) (.prod (.int .i64) (.prod (.int .i64) (.prod (.int .i64) (.int .i64)))))])], [.one (.ptr 0 0), .one (.pl .str)]⟩,
  ⟨[(true, .box [.pl (.prod (.list (.prod (.int .i64) (.prod .str (.int .i64)))) (.prod (.int .i64) (.prod (.int .i64) (.prod (.int .i64) (.int .i64)))))])], [.one (.ptr 0 0)]⟩,
  ⟨[(true, .box [.pl (.prod (.list (.prod (.int .i64) (.prod .str (.int .i64)))) (.prod (.int .i64) (.prod (.int .i64) (.prod (.int .i64) (.int .i64)))))])], [.one (.ptr 0 0), .one (.pl .str)]⟩,
  ⟨[], [.one (.pl .str)]⟩,
  ⟨[(true, .box [.pl (.prod (.list (.prod (.int .i64) (.prod .str (.int .i64)))) (.prod (.int .i64) (.prod (.int .i64) (.prod (.int .i64) (.int .i64)))))])], [.one (.ptr 0 0)]⟩,
  ⟨[(true, .box [.pl (.prod (.list (.prod (.int .i64) (.prod .str (.int .i64)))) (.prod (.int .i64) (.prod (.int .i64) (.prod (.int .i64) (.int .i64)))))])], [.one (.ptr 0 0)]⟩,
  ⟨[(true, .box [.pl (.prod (.list (.prod (.int .i64) (.prod .str (.int .i64)))) (.prod (.int .i64) (.prod (.int .i64) (.prod (.int .i64) (.int .i64)))))])], [.one (.ptr 0 0), .one (.pl (.int .i64)), .one (.pl (.list (.prod (.int .i64) (.prod (.int .i64) (.prod (.int .i64) (.prod (.int .i64) (.prod (.int .i64) .str))))))), .one (.pl (.list (.prod (.int .i64) (.prod (.int .i64) (.prod (.int .i64) (.prod (.int .i64) (.prod (.int .i64) .str)))))))]⟩,
  ⟨[], [.one (.pl (.list (.prod (.int .i64) (.prod (.int .i64) (.prod (.int .i64) (.prod (.int .i64) (.prod (.int .i64) .str)))))))]⟩,
  ⟨[], [.one (.pl (.list (.prod (.int .i64) (.prod (.int .i64) (.prod (.int .i64) (.prod (.int .i64) (.prod (.int .i64) .str)))))))]⟩,
  ⟨[], [.one (.pl (.list (.prod (.int .i64) (.prod (.int .i64) (.prod (.int .i64) (.prod (.int .i64) (.prod (.int .i64) .str)))))))]⟩,
  ⟨[], [.agg [.pl (.prod (.int .i64) (.prod (.int .i64) (.prod (.int .i64) (.prod (.int .i64) (.prod (.int .i64) .str)))))]]⟩,
  ⟨[], [.agg [.pl (.prod (.int .i64) (.prod (.int .i64) (.prod (.int .i64) (.prod (.int .i64) (.prod (.int .i64) .str)))))]]⟩,
  ⟨[], [.agg [.pl (.prod (.int .i64) (.prod (.int .i64) (.prod (.int .i64) (.prod (.int .i64) (.prod (.int .i64) .str)))))], .one (.pl (.list (.int .i64)))]⟩,
  ⟨[], [.one (.pl (.list .bool)), .one (.pl .bool)]⟩,
  ⟨[], [.one (.pl (.list .bool)), .one (.pl .bool)]⟩,
  ⟨[], [.one (.pl (.list (.prod (.int .i64) (.prod (.int .i64) (.prod (.int .i64) (.prod (.int .i64) (.prod (.int .i64) .str)))))))]⟩,
  ⟨[], [.one (.pl (.list (.prod (.int .i64) (.prod (.int .i64) (.prod (.int .i64) (.prod (.int .i64) (.prod (.int .i64) .str)))))))]⟩,
  ⟨[(true, .box [.sl 1]), (true, .arr .bool)], [.one (.pl (.list (.int .i64))), .one (.ptr 0 0)]⟩,
  ⟨[], [.one (.pl .str)]⟩,
  ⟨[(true, .box [.sl 1, .pl (.int .i64), .pl (.int .i64), .pl (.int .i64)]), (true, .arr (.prod (.int .i64) (.prod .str (.int .i64))))], [.one (.ptr 0 0), .one (.pl .str)]⟩,
  ⟨[(true, .box [.sl 1, .pl (.int .i64), .pl (.int .i64), .pl (.int .i64)]), (true, .arr (.prod (.int .i64) (.prod .str (.int .i64))))], [.one (.ptr 0 0)]⟩,
  ⟨[(true, .box [.sl 1, .pl (.int .i64), .pl (.int .i64), .pl (.int .i64)]), (true, .arr (.prod (.int .i64) (.prod .str (.int .i64))))], [.one (.ptr 0 0), .one (.pl (.int .i64))]⟩,
  ⟨[(true, .box [.sl 1, .pl (.int .i64), .pl (.int .i64), .pl (.int .i64)]), (true, .arr (.prod (.int .i64) (.prod .str (.int .i64))))], [.one (.ptr 0 0), .one (.pl (.int .i64))]⟩,
  ⟨[(true, .box [.pl (.prod (.list (.prod (.int .i64) (.prod .str (.int .i64)))) (.prod (.int .i64) (.prod (.int .i64) (.int .i64))))])], [.one (.ptr 0 0)]⟩,
  ⟨[(true, .box [.pl (.prod (.list (.prod (.int .i64) (.prod .str (.int .i64)))) (.prod (.int .i64) (.prod (.int .i64) (.int .i64))))])], [.one (.ptr 0 0), .one (.pl .str)]⟩,
  ⟨[(true, .box [.pl (.prod (.list (.prod (.int .i64) (.prod .str (.int .i64)))) (.prod (.int .i64) (.prod (.int .i64) (.int .i64))))])], [.one (.ptr 0 0), .one (.pl .str)]⟩,
  ⟨[(true, .box [.pl (.prod (.list (.prod (.int .i64) (.prod .str (.int .i64)))) (.prod (.int .i64) (.prod (.int .i64) (.int .i64))))])], [.one (.ptr 0 0)]⟩,
  ⟨[(true, .box [.pl (.prod (.list (.prod (.int .i64) (.prod .str (.int .i64)))) (.prod (.int .i64) (.prod (.int .i64) (.int .i64))))])], [.one (.ptr 0 0)]⟩,
  ⟨[(true, .box [.pl (.prod (.list (.prod (.int .i64) (.prod .str (.int .i64)))) (.prod (.int .i64) (.prod (.int .i64) (.int .i64))))])], [.one (.ptr 0 0)]⟩,
  ⟨[(true, .box [.pl (.prod (.list (.prod (.int .i64) (.prod .str (.int .i64)))) (.prod (.int .i64) (.prod (.int .i64) (.int .i64))))])], [.one (.ptr 0 0), .one (.pl (.int .i64))]⟩,
  ⟨[(true, .box [.pl (.prod (.list (.prod (.int .i64) (.prod .str (.int .i64)))) (.prod (.int .i64) (.prod (.int .i64) (.int .i64))))])], [.one (.ptr 0 0)]⟩,
  ⟨[(true, .box [.pl (.prod (.list (.prod (.int .i64) (.prod .str (.int .i64)))) (.prod (.int .i64) (.prod (.int .i64) (.int .i64))))])], [.one (.ptr 0 0), .one (.pl .str)]⟩,
  ⟨[(true, .box [.pl (.prod (.list (.prod (.int .i64) (.prod .str (.int .i64)))) (.prod (.int .i64) (.prod (.int .i64) (.int .i64))))])], [.one (.ptr 0 0), .one (.pl (.int .i64))]⟩,
  ⟨[(true, .box [.pl (.prod (.list (.prod (.int .i64) (.prod .str (.int .i64)))) (.prod (.int .i64) (.prod (.int .i64) (.int .i64))))])], [.one (.ptr 0 0)]⟩,
  ⟨[(true, .box [.pl (.prod (.list (.prod (.int .i64) (.prod .str (.int .i64)))) (.prod (.int .i64) (.prod (.int .i64) (.int .i64))))])], [.one (.ptr 0 0)]⟩,
  ⟨[(true, .box [.pl (.prod (.list (.prod (.int .i64) (.prod .str (.int .i64)))) (.prod (.int .i64) (.prod (.int .i64) (.int .i64))))])], [.one (.ptr 0 0)]⟩,
  ⟨[(true, .box [.pl (.prod (.list (.prod (.int .i64) (.prod .str (.int .i64)))) (.prod (.int .i64) (.prod (.int .i64) (.int .i64))))])], [.one (.ptr 0 0)]⟩,
  ⟨[(true, .box [.pl (.prod (.list (.prod (.int .i64) (.prod .str (.int .i64)))) (.prod (.int .i64) (.prod (.int .i64) (.int .i64))))])], [.one (.ptr 0 0)]⟩,
  ⟨[(true, .box [.pl (.prod (.list (.prod (.int .i64) (.prod .str (.int .i64)))) (.prod (.int .i64) (.prod (.int .i64) (.int .i64))))])], [.one (.ptr 0 0)]⟩,
  ⟨[(true, .box [.pl (.prod (.list (.prod (.int .i64) (.prod .str (.int .i64)))) (.prod (.int .i64) (.prod (.int .i64) (.int .i64))))])], [.one (.ptr 0 0)]⟩,
  ⟨[(true, .box [.pl (.prod (.list (.prod (.int .i64) (.prod .str (.int .i64)))) (.prod (.int .i64) (.prod (.int .i64) (.int .i64))))])], [.one (.ptr 0 0)]⟩,
  ⟨[], [.agg [.pl (.prod (.list (.prod .bool (.prod .str (.prod (.list (.prod .str (.int .i64))) (.prod .str (.prod (.int .i64) (.prod (.list (.prod .str (.int .i64))) (.prod (.list (.prod .str (.list (.prod (.int .i64) (.prod (.int .i64) (.prod (.int .i64) (.prod (.int .i64) (.prod (.int .i64) .str)))))))) (.list (.prod (.int .i64) (.prod .str (.prod (.int .i64) (.prod (.list (.prod (.int .i64) (.prod (.int .i64) (.prod (.int .i64) (.prod (.int .i64) (.prod (.int .i64) .str)))))) (.prod (.list (.prod (.int .i64) (.prod (.int .i64) (.prod (.int .i64) (.prod (.int .i64) (.prod (.int .i64) .str)))))) (.list (.list (.prod (.int .i64) (.prod (.int .i64) (.prod (.int .i64) (.prod (.int .i64) (.prod (.int .i64) .str))))))))))))))))))))) (.prod .str .str))]]⟩,
  ⟨[], [.agg [.pl (.prod .bool (.prod .str (.prod (.list (.prod .str (.int .i64))) (.prod .str (.prod (.int .i64) (.prod (.list (.prod .str (.int .i64))) (.prod (.list (.prod .str (.list (.prod (.int .i64) (.prod (.int .i64) (.prod (.int .i64) (.prod (.int .i64) (.prod (.int .i64) .str)))))))) (.list (.prod (.int .i64) (.prod .str (.prod (.int .i64) (.prod (.list (.prod (.int .i64) (.prod (.int .i64) (.prod (.int .i64) (.prod (.int .i64) (.prod (.int .i64) .str)))))) (.prod (.list (.prod (.int .i64) (.prod (.int .i64) (.prod (.int .i64) (.prod (.int .i64) (.prod (.int .i64) .str)))))) (.list (.list (.prod (.int .i64) (.prod (.int .i64) (.prod (.int .i64) (.prod (.int .i64) (.prod (.int .i64) .str))))))))))))))))))))]]⟩,
  ⟨[], [.one (.pl (.list (.prod (.int .i64) (.prod (.int .i64) (.prod (.int .i64) (.prod (.int .i64) (.prod (.int .i64) .str)))))))]⟩,
  ⟨[], [.one (.pl (.list (.prod (.int .i64) (.prod (.int .i64) (.prod (.int .i64) (.prod (.int .i64) (.prod (.int .i64) .str)))))))]⟩,
  ⟨[], [.agg [.pl (.prod (.int .i64) (.prod (.int .i64) (.prod (.int .i64) (.prod (.int .i64) (.prod (.int .i64) .str)))))]]⟩,
  ⟨[], [.agg [.pl (.prod (.int .i64) (.prod (.int .i64) (.prod (.int .i64) (.prod (.int .i64) (.prod (.int .i64) .str)))))]]⟩,
  ⟨[], [.one (.pl (.list (.prod (.int .i64) (.prod (.int .i64) (.prod (.int .i64) (.prod (.int .i64) (.prod (.int .i64) .str))))))), .one (.pl (.int .i64))]⟩,
  ⟨[(true, .arr (.int .i64))], [.one (.pl (.list (.prod (.int .i64) (.prod (.int .i64) (.prod (.int .i64) (.prod (.int .i64) (.prod (.int .i64) .str))))))), .one (.pl (.int .i64)), .one (.sl 0)]⟩,
  ⟨[], [.agg [.pl (.prod (.list (.prod .bool (.prod .str (.prod (.list (.prod .str (.int .i64))) (.prod .str (.prod (.int .i64) (.prod (.list (.prod .str (.int .i64))) (.prod (.list (.prod .str (.list (.prod (.int .i64) (.prod (.int .i64) (.prod (.int .i64) (.prod (.int .i64) (.prod (.int .i64) .str)))))))) (.list (.prod (.int .i64) (.prod .str (.prod (.int .i64) (.prod (.list (.prod (.int .i64) (.prod (.int .i64) (.prod (.int .i64) (.prod (.int .i64) (.prod (.int .i64) .str)))))) (.prod (.list (.prod (.int .i64) (.prod (.int .i64) (.prod (.int .i64) (.prod (.int .i64) (.prod (.int .i64) .str)))))) (.list (.list (.prod (.int .i64) (.prod (.int .i64) (.prod (.int .i64) (.prod (.int .i64) (.prod (.int .i64) .str))))))))))))))))))))) (.prod .str .str))]]⟩,
  ⟨[], [.agg [.pl (.prod (.list (.prod .bool (.prod .str (.prod (.list (.prod .str (.int .i64))) (.prod .str (.prod (.int .i64) (.prod (.list (.prod .str (.int .i64))) (.prod (.list (.prod .str (.list (.prod (.int .i64) (.prod (.int .i64) (.prod (.int .i64) (.prod (.int .i64) (.prod (.int .i64) .str)))))))) (.list (.prod (.int .i64) (.prod .str (.prod (.int .i64) (.prod (.list (.prod (.int .i64) (.prod (.int .i64) (.prod (.int .i64) (.prod (.int .i64) (.prod (.int .i64) .str)))))) (.prod (.list (.prod (.int .i64) (.prod (.int .i64) (.prod (.int .i64) (.prod (.int .i64) (.prod (.int .i64) .str)))))) (.list (.list (.prod (.int .i64) (.prod (.int .i64) (.prod (.int .i64) (.prod (.int .i64) (.prod (.int .i64) .str))))))))))))))))))))) (.prod .str .str))]]⟩,
  ⟨[], [.agg [.pl (.prod (.list (.prod .bool (.prod .str (.prod (.list (.prod .str (.int .i64))) (.prod .str (.prod (.int .i64) (.prod (.list (.prod .str (.int .i64))) (.prod (.list (.prod .str (.list (.prod (.int .i64) (.prod (.int .i64) (.prod (.int .i64) (.prod (.int .i64) (.prod (.int .i64) .str)))))))) (.list (.prod (.int .i64) (.prod .str (.prod (.int .i64) (.prod (.list (.prod (.int .i64) (.prod (.int .i64) (.prod (.int .i64) (.prod (.int .i64) (.prod (.int .i64) .str)))))) (.prod (.list (.prod (.int .i64) (.prod (.int .i64) (.prod (.int .i64) (.prod (.int .i64) (.prod (.int .i64) .str)))))) (.list (.list (.prod (.int .i64) (.prod (.int .i64) (.prod (.int .i64) (.prod (.int .i64) (.prod (.int .i64) .str))))))))))))))))))))) (.prod .str .str))]]⟩,
  ⟨[], [.one (.pl (.list (.prod (.int .i64) (.prod (.int .i64) (.prod (.int .i64) (.prod (.int .i64) (.prod (.int .i64) .str)))))))]⟩,
  ⟨[], [.one (.pl (.list (.prod (.int .i64) (.prod (.int .i64) (.prod (.int .i64) (.prod (.int .i64) (.prod (.int .i64) .str)))))))]⟩,
  ⟨[], [.one (.pl (.list (.prod (.int .i64) (.prod (.int .i64) (.prod (.int .i64) (.prod (.int .i64) (.prod (.int .i64) .str)))))))]⟩,
  ⟨[], [.one (.pl (.list (.prod (.int .i64) (.prod (.int .i64) (.prod (.int .i64) (.prod (.int .i64) (.prod (.int .i64) .str)))))))]⟩,
  ⟨[], [.one (.pl (.list (.prod (.int .i64) (.prod (.int .i64) (.prod (.int .i64) (.prod (.int .i64) (.prod (.int .i64) .str)))))))]⟩,
  ⟨[], [.one (.pl (.list (.prod (.int .i64) (.prod (.int .i64) (.prod (.int .i64) (.prod (.int .i64) (.prod (.int .i64) .str))))))), .one (.pl (.int .i64))]⟩,
  ⟨[(true, .arr (.prod (.int .i64) (.prod (.int .i64) (.prod (.int .i64) (.prod (.int .i64) (.prod (.int .i64) .str))))))], [.one (.pl (.list (.prod (.int .i64) (.prod (.int .i64) (.prod (.int .i64) (.prod (.int .i64) (.prod (.int .i64) .str))))))), .one (.pl (.int .i64)), .one (.sl 0)]⟩,
  ⟨[], [.one (.pl (.list (.prod (.int .i64) (.prod (.int .i64) (.prod (.int .i64) (.prod (.int .i64) (.prod (.int .i64) .str))))))), .one (.pl (.list (.prod (.int .i64) (.prod (.int .i64) (.prod (.int .i64) (.prod (.int .i64) (.prod (.int .i64) .str)))))))]⟩]
  koutsL := [[⟨[], [.one (.pl .bool)]⟩],
  [⟨[], [.one (.pl .bool)]⟩],
  [⟨[], [.one (.pl (.list (.prod (.int .i64) (.prod (.int .i64) (.prod (.int .i64) (.prod (.int .i64) (.prod (.int .i64) .str))))))), .agg [.pl (.prod (.int .i64) (.int .i64))]]⟩],
  [⟨[(true, .arr (.prod (.int .i64) (.prod .str (.int .i64))))], [.one (.sl 0), .agg [.pl (.prod (.int .i64) (.int .i64))]]⟩],
  [⟨[], [.agg [.pl (.prod (.int .i64) (.prod .str (.int .i64)))], .one (.pl (.int .i64))]⟩],
  [⟨[], [.one (.pl .bool)]⟩],
  [⟨[], [.one (.pl (.int .i64))]⟩],
  [⟨[], [.one (.pl .bool)]⟩],
  [⟨[], [.agg [.pl (.prod (.int .i64) (.prod .str (.int .i64)))], .one (.pl (.int .i64))]⟩],
  [⟨[], [.one (.pl .bool)]⟩],
  [⟨[(true, .arr .str)], [.one (.sl 0)]⟩],
  [⟨[], [.one (.pl .bool)]⟩],
  [⟨[], [.one (.pl .str)]⟩],
  [⟨[(true, .arr .str)], [.one (.sl 0)]⟩],
  [⟨[], [.one (.pl (.list (.prod (.int .i64) (.prod (.int .i64) (.prod (.int .i64) (.prod (.int .i64) (.prod (.int .i64) .str))))))), .one (.pl (.int .i64)), .agg [.pl (.prod (.int .i64) (.int .i64))]]⟩],
  [⟨[(true, .box [.pl (.prod (.list (.prod (.int .i64) (.prod .str (.int .i64)))) (.prod (.int .i64) (.prod (.int .i64) (.prod (.int .i64) (.int .i64)))))]), (true, .arr (.prod (.int .i64) (.prod (.int .i64) (.prod (.int .i64) (.prod (.int .i64) (.prod (.int .i64) .str))))))], [.one (.sl 1)]⟩],
  [⟨[(true, .box [.pl (.prod (.list (.prod (.int .i64) (.prod .str (.int .i64)))) (.prod (.int .i64) (.prod (.int .i64) (.prod (.int .i64) (.int .i64)))))]), (true, .arr (.prod (.int .i64) (.prod (.int .i64) (.prod (.int .i64) (.prod (.int .i64) (.prod (.int .i64) .str))))))], [.one (.sl 1)]⟩],
  [⟨[(true, .box [.pl (.prod (.list (.prod (.int .i64) (.prod .str (.int .i64)))) (.prod (.int .i64) (.prod (.int .i64) (.prod (.int .i64) (.int .i64)))))]), (true, .arr (.prod (.int .i64) (.prod (.int .i64) (.prod (.int .i64) (.prod (.int .i64) (.prod (.int .i64) .str))))))], [.one (.sl 1)]⟩],
  [⟨[(true, .box [.pl (.prod (.list (.prod (.int .i64) (.prod .str (.int .i64)))) (.prod (.int .i64) (.prod (.int .i64) (.prod (.int .i64) (.int .i64)))))]), (true, .arr (.prod (.int .i64) (.prod (.int .i64) (.prod (.int .i64) (.prod (.int .i64) (.prod (.int .i64) .str))))))], [.one (.sl 1)]⟩],
  [⟨[(true, .box [.pl (.prod (.list (.prod (.int .i64) (.prod .str (.int .i64)))) (.prod (.int .i64) (.prod (.int .i64) (.prod (.int .i64) (.int .i64)))))]), (true, .arr (.prod (.int .i64) (.prod (.int .i64) (.prod (.int .i64) (.prod (.int .i64) (.prod (.int .i64) .str))))))], [.one (.sl 1)]⟩],
  [⟨[(true, .box [.pl (.prod (.list (.prod (.int .i64) (.prod .str (.int .i64)))) (.prod (.int .i64) (.prod (.int .i64) (.prod (.int .i64) (.int .i64)))))]), (true, .arr (.prod (.int .i64) (.prod (.int .i64) (.prod (.int .i64) (.prod (.int .i64) (.prod (.int .i64) .str))))))], [.one (.sl 1)]⟩],
  [⟨[(true, .box [.pl (.prod (.list (.prod (.int .i64) (.prod .str (.int .i64)))) (.prod (.int .i64) (.prod (.int .i64) (.prod (.int .i64) (.int .i64)))))]), (true, .arr (.prod (.int .i64) (.prod (.int .i64) (.prod (.int .i64) (.prod (.int .i64) (.prod (.int .i64) .str))))))], [.one (.sl 1)]⟩],
  [⟨[(true, .box [.pl (.prod (.list (.prod (.int .i64) (.prod .str (.int .i64)))) (.prod (.int .i64) (.prod (.int .i64) (.prod (.int .i64) (.int .i64)))))]), (true, .arr (.prod (.int .i64) (.prod (.int .i64) (.prod (.int .i64) (.prod (.int .i64) (.prod (.int .i64) .str))))))], [.one (.sl 1)]⟩],
  [⟨[(true, .box [.pl (.prod (.list (.prod (.int .i64) (.prod .str (.int .i64)))) (.prod (.int .i64) (.prod (.int .i64) (.prod (.int .i64) (.int .i64)))))]), (true, .arr (.prod (.int .i64) (.prod (.int .i64) (.prod (.int .i64) (.prod (.int .i64) (.prod (.int .i64) .str))))))], [.one (.sl 1)]⟩],
  [⟨[(true, .box [.pl (.prod (.list (.prod (.int .i64) (.prod .str (.int .i64)))) (.prod (.int .i64) (.prod (.int .i64) (.prod (.int .i64) (.int .i64)))))]), (true, .arr (.prod (.int .i64) (.prod (.int .i64) (.prod (.int .i64) (.prod (.int .i64) (.prod (.int .i64) .str))))))], [.one (.sl 1)]⟩],
  [⟨[], [.one (.pl (.int .i64))]⟩],
  [⟨[(true, .box [.pl (.prod (.list (.prod (.int .i64) (.prod .str (.int .i64)))) (.prod (.int .i64) (.prod (.int .i64) (.prod (.int .i64) (.int .i64)))))]), (true, .arr (.prod (.int .i64) (.prod (.int .i64) (.prod (.int .i64) (.prod (.int .i64) (.prod (.int .i64) .str))))))], [.one (.sl 1)]⟩],
  [⟨[(true, .arr (.prod (.int .i64) (.prod (.int .i64) (.prod (.int .i64) (.prod (.int .i64) (.prod (.int .i64) .str))))))], [.one (.sl 0)]⟩],
  [⟨[], [.agg [.pl (.prod (.int .i64) (.prod (.int .i64) (.prod (.int .i64) (.prod (.int .i64) (.prod (.int .i64) .str)))))]]⟩],
  [⟨[(true, .arr (.int .i64))], [.one (.sl 0)]⟩],
  [⟨[(true, .gone), (true, .arr (.prod (.int .i64) (.prod (.int .i64) (.prod (.int .i64) (.prod (.int .i64) (.prod (.int .i64) .str))))))], [.one (.sl 1)]⟩],
  [⟨[], [.agg [.pl (.prod (.int .i64) (.prod (.int .i64) (.prod (.int .i64) (.prod (.int .i64) (.prod (.int .i64) .str)))))]]⟩],
  [⟨[], [.agg [.pl (.prod (.int .i64) (.prod (.int .i64) (.prod (.int .i64) (.prod (.int .i64) (.prod (.int .i64) .str)))))]]⟩],
  [⟨[(true, .box [.pl (.prod (.list (.prod (.int .i64) (.prod .str (.int .i64)))) (.prod (.int .i64) (.prod (.int .i64) (.prod (.int .i64) (.int .i64)))))]), (true, .arr (.prod (.int .i64) (.prod (.int .i64) (.prod (.int .i64) (.prod (.int .i64) (.prod (.int .i64) .str))))))], [.one (.sl 1)]⟩],
  [⟨[(true, .box [.pl (.prod (.list (.prod (.int .i64) (.prod .str (.int .i64)))) (.prod (.int .i64) (.prod (.int .i64) (.prod (.int .i64) (.int .i64)))))])], [.one (.pl .bool)]⟩],
  [⟨[(true, .box [.pl (.prod (.list (.prod (.int .i64) (.prod .str (.int .i64)))) (.prod (.int .i64) (.prod (.int .i64) (.prod (.int .i64) (.int .i64)))))])], [.one (.pl .bool)]⟩],
  [⟨[(true, .box [.pl (.prod (.list (.prod (.int .i64) (.prod .str (.int .i64)))) (.prod (.int .i64) (.prod (.int .i64) (.prod (.int .i64) (.int .i64)))))]), (true, .arr (.list (.prod (.int .i64) (.prod (.int .i64) (.prod (.int .i64) (.prod (.int .i64) (.prod (.int .i64) .str)))))))], [.one (.sl 1)]⟩],
  [⟨[(true, .box [.pl (.prod (.list (.prod (.int .i64) (.prod .str (.int .i64)))) (.prod (.int .i64) (.prod (.int .i64) (.prod (.int .i64) (.int .i64)))))])], []⟩],
  [⟨[], [.one (.pl (.int .i64))]⟩],
  [⟨[(true, .box [.pl (.prod (.list (.prod (.int .i64) (.prod .str (.int .i64)))) (.prod (.int .i64) (.prod (.int .i64) (.prod (.int .i64) (.int .i64)))))]), (true, .arr (.prod (.int .i64) (.prod (.int .i64) (.prod (.int .i64) (.prod (.int .i64) (.prod (.int .i64) .str))))))], [.one (.sl 1)]⟩],
  [⟨[(true, .box [.pl (.prod (.list (.prod (.int .i64) (.prod .str (.int .i64)))) (.prod (.int .i64) (.prod (.int .i64) (.prod (.int .i64) (.int .i64)))))]), (true, .arr (.prod (.int .i64) (.prod (.int .i64) (.prod (.int .i64) (.prod (.int .i64) (.prod (.int .i64) .str))))))], [.one (.sl 1)]⟩],
  [⟨[(true, .box [.pl (.prod (.list (.prod (.int .i64) (.prod .str (.int .i64)))) (.prod (.int .i64) (.prod (.int .i64) (.prod (.int .i64) (.int .i64)))))]), (true, .arr (.prod (.int .i64) (.prod (.int .i64) (.prod (.int .i64) (.prod (.int .i64) (.prod (.int .i64) .str))))))], [.one (.sl 1)]⟩],
  [⟨[], [.one (.pl (.int .i64))]⟩],
  [⟨[], [.one (.pl (.int .i64)), .one (.pl (.int .i64))]⟩],
  [⟨[], [.one (.pl .bool)]⟩],
  [⟨[], [.one (.pl .bool)]⟩],
  [⟨[(true, .arr (.int .i64))], [.one (.sl 0)]⟩],
  [⟨[], [.agg [.pl (.prod (.int .i64) (.prod (.int .i64) (.prod (.int .i64) (.prod (.int .i64) (.prod (.int .i64) .str)))))]]⟩],
  [⟨[], [.one (.pl .bool)]⟩],
  [⟨[], [.one (.pl (.int .i64))]⟩],
  [⟨[], [.one (.pl (.int .i64))]⟩],
  [⟨[(true, .arr (.int .i64))], [.one (.sl 0)]⟩],
  [⟨[(true, .box [.sl 1]), (true, .arr .bool)], [.one (.pl .bool)]⟩],
  [⟨[], [.agg [.pl (.prod (.list (.prod .bool (.prod .str (.prod (.list (.prod .str (.int .i64))) (.prod .str (.prod (.int .i64) (.prod (.list (.prod .str (.int .i64))) (.prod (.list (.prod .str (.list (.prod (.int .i64) (.prod (.int .i64) (.prod (.int .i64) (.prod (.int .i64) (.prod (.int .i64) .str)))))))) (.list (.prod (.int .i64) (.prod .str (.prod (.int .i64) (.prod (.list (.prod (.int .i64) (.prod (.int .i64) (.prod (.int .i64) (.prod (.int .i64) (.prod (.int .i64) .str)))))) (.prod (.list (.prod (.int .i64) (.prod (.int .i64) (.prod (.int .i64) (.prod (.int .i64) (.prod (.int .i64) .str)))))) (.list (.list (.prod (.int .i64) (.prod (.int .i64) (.prod (.int .i64) (.prod (.int .i64) (.prod (.int .i64) .str))))))))))))))))))))) (.prod .str .str))], .agg [.pl (.prod (.int .i64) (.int .i64))]]⟩],
  [⟨[(true, .box [.sl 1, .pl (.int .i64), .pl (.int .i64), .pl (.int .i64)]), (true, .arr (.prod (.int .i64) (.prod .str (.int .i64))))], [.one (.pl .bool)]⟩],
  [⟨[(true, .box [.sl 1, .pl (.int .i64), .pl (.int .i64), .pl (.int .i64)]), (true, .arr (.prod (.int .i64) (.prod .str (.int .i64))))], [.one (.pl .bool)]⟩],
  [⟨[(true, .box [.pl (.prod (.list (.prod (.int .i64) (.prod .str (.int .i64)))) (.prod (.int .i64) (.prod (.int .i64) (.int .i64))))]), (true, .gone)], []⟩],
  [⟨[(true, .box [.pl (.prod (.list (.prod (.int .i64) (.prod .str (.int .i64)))) (.prod (.int .i64) (.prod (.int .i64) (.int .i64))))]), (true, .gone)], []⟩],
  [⟨[(true, .box [.pl (.prod (.list (.prod (.int .i64) (.prod .str (.int .i64)))) (.prod (.int .i64) (.prod (.int .i64) (.int .i64))))])], [.agg [.pl (.prod .bool (.prod .str (.prod (.list (.prod .str (.int .i64))) (.prod .str (.prod (.int .i64) (.prod (.list (.prod .str (.int .i64))) (.prod (.list (.prod .str (.list (.prod (.int .i64) (.prod (.int .i64) (.prod (.int .i64) (.prod (.int .i64) (.prod (.int .i64) .str)))))))) (.list (.prod (.int .i64) (.prod .str (.prod (.int .i64) (.prod (.list (.prod (.int .i64) (.prod (.int .i64) (.prod (.int .i64) (.prod (.int .i64) (.prod (.int .i64) .str)))))) (.prod (.list (.prod (.int .i64) (.prod (.int .i64) (.prod (.int .i64) (.prod (.int .i64) (.prod (.int .i64) .str)))))) (.list (.list (.prod (.int .i64) (.prod (.int .i64) (.prod (.int .i64) (.prod (.int .i64) (.prod (.int .i64) .str))))))))))))))))))))]]⟩],
  [⟨[(true, .box [.pl (.prod (.list (.prod (.int .i64) (.prod .str (.int .i64)))) (.prod (.int .i64) (.prod (.int .i64) (.int .i64))))])], [.one (.pl .bool)]⟩],
  [⟨[(true, .box [.pl (.prod (.list (.prod (.int .i64) (.prod .str (.int .i64)))) (.prod (.int .i64) (.prod (.int .i64) (.int .i64))))])], [.one (.pl .bool)]⟩],
  [⟨[(true, .box [.pl (.prod (.list (.prod (.int .i64) (.prod .str (.int .i64)))) (.prod (.int .i64) (.prod (.int .i64) (.int .i64))))])], [.one (.pl .bool)]⟩],
  [⟨[(true, .box [.pl (.prod (.list (.prod (.int .i64) (.prod .str (.int .i64)))) (.prod (.int .i64) (.prod (.int .i64) (.int .i64))))])], [.one (.pl .str)]⟩],
  [⟨[(true, .box [.pl (.prod (.list (.prod (.int .i64) (.prod .str (.int .i64)))) (.prod (.int .i64) (.prod (.int .i64) (.int .i64))))])], [.one (.pl .bool)]⟩],
  [⟨[(true, .box [.pl (.prod (.list (.prod (.int .i64) (.prod .str (.int .i64)))) (.prod (.int .i64) (.prod (.int .i64) (.int .i64))))])], []⟩],
  [⟨[(true, .box [.pl (.prod (.list (.prod (.int .i64) (.prod .str (.int .i64)))) (.prod (.int .i64) (.prod (.int .i64) (.int .i64))))]), (true, .arr (.prod .str (.int .i64)))], [.one (.sl 1)]⟩],
  [⟨[(true, .box [.pl (.prod (.list (.prod (.int .i64) (.prod .str (.int .i64)))) (.prod (.int .i64) (.prod (.int .i64) (.int .i64))))])], []⟩],
  [⟨[(true, .box [.pl (.prod (.list (.prod (.int .i64) (.prod .str (.int .i64)))) (.prod (.int .i64) (.prod (.int .i64) (.int .i64))))])], []⟩],
  [⟨[(true, .box [.pl (.prod (.list (.prod (.int .i64) (.prod .str (.int .i64)))) (.prod (.int .i64) (.prod (.int .i64) (.int .i64))))])], [.agg [.pl (.prod .str (.int .i64))]]⟩],
  [⟨[(true, .box [.pl (.prod (.list (.prod (.int .i64) (.prod .str (.int .i64)))) (.prod (.int .i64) (.prod (.int .i64) (.int .i64))))]), (true, .arr (.prod (.int .i64) (.prod .str (.prod (.int .i64) (.prod (.list (.prod (.int .i64) (.prod (.int .i64) (.prod (.int .i64) (.prod (.int .i64) (.prod (.int .i64) .str)))))) (.prod (.list (.prod (.int .i64) (.prod (.int .i64) (.prod (.int .i64) (.prod (.int .i64) (.prod (.int .i64) .str)))))) (.list (.list (.prod (.int .i64) (.prod (.int .i64) (.prod (.int .i64) (.prod (.int .i64) (.prod (.int .i64) .str)))))))))))))], [.one (.sl 1)]⟩],
  [⟨[(true, .box [.pl (.prod (.list (.prod (.int .i64) (.prod .str (.int .i64)))) (.prod (.int .i64) (.prod (.int .i64) (.int .i64))))])], [.one (.pl .bool)]⟩],
  [⟨[(true, .box [.pl (.prod (.list (.prod (.int .i64) (.prod .str (.int .i64)))) (.prod (.int .i64) (.prod (.int .i64) (.int .i64))))])], [.agg [.pl (.prod (.int .i64) (.prod .str (.prod (.int .i64) (.prod (.list (.prod (.int .i64) (.prod (.int .i64) (.prod (.int .i64) (.prod (.int .i64) (.prod (.int .i64) .str)))))) (.prod (.list (.prod (.int .i64) (.prod (.int .i64) (.prod (.int .i64) (.prod (.int .i64) (.prod (.int .i64) .str)))))) (.list (.list (.prod (.int .i64) (.prod (.int .i64) (.prod (.int .i64) (.prod (.int .i64) (.prod (.int .i64) .str))))))))))))], .one (.pl .bool)]⟩],
  [⟨[(true, .box [.pl (.prod (.list (.prod (.int .i64) (.prod .str (.int .i64)))) (.prod (.int .i64) (.prod (.int .i64) (.int .i64))))])], [.one (.pl (.list (.prod (.int .i64) (.prod (.int .i64) (.prod (.int .i64) (.prod (.int .i64) (.prod (.int .i64) .str)))))))]⟩],
  [⟨[(true, .box [.pl (.prod (.list (.prod (.int .i64) (.prod .str (.int .i64)))) (.prod (.int .i64) (.prod (.int .i64) (.int .i64))))]), (true, .arr (.list (.prod (.int .i64) (.prod (.int .i64) (.prod (.int .i64) (.prod (.int .i64) (.prod (.int .i64) .str)))))))], [.one (.sl 1)]⟩],
  [⟨[(true, .box [.pl (.prod (.list (.prod (.int .i64) (.prod .str (.int .i64)))) (.prod (.int .i64) (.prod (.int .i64) (.int .i64))))]), (true, .arr (.prod .str (.int .i64)))], [.one (.sl 1)]⟩],
  [⟨[(true, .box [.pl (.prod (.list (.prod (.int .i64) (.prod .str (.int .i64)))) (.prod (.int .i64) (.prod (.int .i64) (.int .i64))))]), (true, .arr (.prod .str (.list (.prod (.int .i64) (.prod (.int .i64) (.prod (.int .i64) (.prod (.int .i64) (.prod (.int .i64) .str))))))))], [.one (.sl 1)]⟩],
  [⟨[], [.agg [.pl (.prod (.int .i64) (.int .i64))]]⟩],
  [⟨[], [.one (.pl (.int .i64))]⟩],
  [⟨[], [.one (.pl (.int .i64)), .one (.pl (.int .i64))]⟩],
  [⟨[], [.one (.pl .bool)]⟩],
  [⟨[], [.one (.pl .bool)]⟩],
  [⟨[], [.one (.pl .bool)]⟩],
  [⟨[], [.one (.pl .bool)]⟩],
  [⟨[(true, .arr (.int .i64))], [.one (.pl (.int .i64)), .one (.pl (.int .i64))]⟩],
  [⟨[], [.one (.pl .bool)]⟩],
  [⟨[], [.one (.pl .bool)]⟩],
  [⟨[], [.agg [.pl (.prod (.int .i64) (.int .i64))]]⟩],
  [⟨[], [.one (.pl (.int .i64))]⟩],
  [⟨[], [.one (.pl .bool)]⟩],
  [⟨[], [.one (.pl .bool)]⟩],
  [⟨[], [.one (.pl .bool)]⟩],
  [⟨[(true, .arr (.prod (.int .i64) (.prod (.int .i64) (.prod (.int .i64) (.prod (.int .i64) (.prod (.int .i64) .str))))))], [.one (.sl 0)]⟩],
  [⟨[(true, .arr (.prod (.int .i64) (.prod (.int .i64) (.prod (.int .i64) (.prod (.int .i64) (.prod (.int .i64) .str))))))], [.one (.sl 0)]⟩],
  [⟨[(true, .gone), (true, .arr (.prod (.int .i64) (.prod (.int .i64) (.prod (.int .i64) (.prod (.int .i64) (.prod (.int .i64) .str))))))], [.one (.sl 1)]⟩],
  [⟨[], [.one (.pl .bool)]⟩]]
  bkL := [noBlk,
  noBlk,
  ⟨[0, 6], ⟨[], [.one (.pl .str), .one (.pl (.int .i64))]⟩, [0, 1, 4, 5], [(.norm, [6], ⟨[], [.one (.pl (.int .i64))]⟩)]⟩,
  ⟨[0, 3, 4], ⟨[], [.one (.pl .str), .one (.pl (.int .i64)), .one (.pl (.int .i64))]⟩, [2], [(.norm, [3], ⟨[], [.one (.pl (.int .i64))]⟩)]⟩,
  ⟨[0, 6], ⟨[], [.one (.pl .str), .one (.pl (.int .i64))]⟩, [0, 1, 4, 5], [(.norm, [6], ⟨[], [.one (.pl (.int .i64))]⟩)]⟩,
  ⟨[0, 3, 4], ⟨[(true, .arr .str)], [.one (.pl .str), .one (.sl 0), .one (.pl (.int .i64))]⟩, [], [(.ret, [2], ⟨[(true, .arr .str)], [.one (.pl .bool)]⟩), (.norm, [], ⟨[(true, .arr .str)], []⟩)]⟩,
  ⟨[0, 3], ⟨[], [.one (.pl .str), .one (.pl (.int .i64))]⟩, [], [(.ret, [2], ⟨[], [.one (.pl .bool)]⟩), (.norm, [], ⟨[], []⟩)]⟩,
  ⟨[0, 3, 4], ⟨[(true, .arr .str)], [.one (.pl .str), .one (.sl 0), .one (.pl (.int .i64))]⟩, [], [(.ret, [2], ⟨[(true, .arr .str)], [.one (.pl .str)]⟩), (.norm, [], ⟨[(true, .arr .str)], []⟩)]⟩,
  ⟨[0, 3, 4, 5], ⟨[(true, .box [.pl (.prod (.int .i64) (.int .i64))]), (false, .arr (.prod (.int .i64) (.prod .str (.int .i64))))], [.one (.pl .str), .one (.ptr 0 0), .one (.sl 1), .one (.pl (.int .i64))]⟩, [3], [(.ret, [2], ⟨[(true, .box [.pl (.prod (.int .i64) (.int .i64))]), (true, .gone), (true, .arr (.prod (.int .i64) (.prod .str (.int .i64))))], [.one (.sl 2)]⟩), (.norm, [4], ⟨[(true, .box [.pl (.prod (.int .i64) (.int .i64))]), (true, .gone), (true, .arr (.prod (.int .i64) (.prod .str (.int .i64))))], [.one (.sl 2)]⟩)]⟩,
  ⟨[0, 5], ⟨[], [.one (.pl .str), .one (.pl (.int .i64))]⟩, [0, 2, 3, 4], [(.norm, [5], ⟨[], [.one (.pl (.int .i64))]⟩)]⟩,
  noBlk,
  noBlk,
  noBlk,
  ⟨[0, 1, 5, 6], ⟨[(false, .arr (.prod (.int .i64) (.prod (.int .i64) (.prod (.int .i64) (.prod (.int .i64) (.prod (.int .i64) .str))))))], [.one (.sl 0), .one (.pl (.list (.prod (.int .i64) (.prod (.int .i64) (.prod (.int .i64) (.prod (.int .i64) (.prod (.int .i64) .str))))))), .one (.pl (.int .i64)), .one (.pl (.int .i64))]⟩, [4], [(.norm, [0], ⟨[(true, .gone), (true, .arr (.prod (.int .i64) (.prod (.int .i64) (.prod (.int .i64) (.prod (.int .i64) (.prod (.int .i64) .str))))))], [.one (.sl 1)]⟩)]⟩,
  ⟨[0, 3, 11, 12, 13, 14], ⟨[(false, .arr (.prod (.int .i64) (.prod (.int .i64) (.prod (.int .i64) (.prod (.int .i64) (.prod (.int .i64) .str)))))), (false, .arr (.int .i64))], [.one (.pl (.int .i64)), .one (.pl (.list (.list (.prod (.int .i64) (.prod (.int .i64) (.prod (.int .i64) (.prod (.int .i64) (.prod (.int .i64) .str)))))))), .one (.sl 0), .one (.sl 1), .one (.pl (.int .i64)), .one (.pl (.int .i64))]⟩, [0, 9], [(.ret, [8], ⟨[(true, .gone), (true, .gone), (true, .arr (.prod (.int .i64) (.prod (.int .i64) (.prod (.int .i64) (.prod (.int .i64) (.prod (.int .i64) .str))))))], [.one (.sl 2)]⟩), (.norm, [11, 12, 13], ⟨[(true, .gone), (true, .gone), (true, .arr (.prod (.int .i64) (.prod (.int .i64) (.prod (.int .i64) (.prod (.int .i64) (.prod (.int .i64) .str)))))), (true, .arr (.int .i64))], [.one (.sl 2), .one (.sl 3), .one (.pl (.int .i64))]⟩)]⟩,
  noBlk,
  ⟨[0, 3], ⟨[(true, .box [.pl (.prod (.list (.prod (.int .i64) (.prod .str (.int .i64)))) (.prod (.int .i64) (.prod (.int .i64) (.prod (.int .i64) (.int .i64)))))]), (false, .arr (.list (.prod (.int .i64) (.prod (.int .i64) (.prod (.int .i64) (.prod (.int .i64) (.prod (.int .i64) .str)))))))], [.one (.ptr 0 0), .one (.sl 1)]⟩, [], [(.ret, [2], ⟨[(true, .box [.pl (.prod (.list (.prod (.int .i64) (.prod .str (.int .i64)))) (.prod (.int .i64) (.prod (.int .i64) (.prod (.int .i64) (.int .i64)))))]), (true, .gone), (true, .arr (.list (.prod (.int .i64) (.prod (.int .i64) (.prod (.int .i64) (.prod (.int .i64) (.prod (.int .i64) .str)))))))], [.one (.sl 2)]⟩), (.norm, [], ⟨[(true, .box [.pl (.prod (.list (.prod (.int .i64) (.prod .str (.int .i64)))) (.prod (.int .i64) (.prod (.int .i64) (.prod (.int .i64) (.int .i64)))))]), (true, .gone)], []⟩)]⟩,
  noBlk,
  ⟨[0, 3], ⟨[(true, .box [.pl (.prod (.list (.prod (.int .i64) (.prod .str (.int .i64)))) (.prod (.int .i64) (.prod (.int .i64) (.prod (.int .i64) (.int .i64)))))]), (false, .arr (.prod (.int .i64) (.prod (.int .i64) (.prod (.int .i64) (.prod (.int .i64) (.prod (.int .i64) .str))))))], [.one (.ptr 0 0), .one (.sl 1)]⟩, [2], [(.norm, [3], ⟨[(true, .box [.pl (.prod (.list (.prod (.int .i64) (.prod .str (.int .i64)))) (.prod (.int .i64) (.prod (.int .i64) (.prod (.int .i64) (.int .i64)))))]), (true, .gone), (true, .arr (.prod (.int .i64) (.prod (.int .i64) (.prod (.int .i64) (.prod (.int .i64) (.prod (.int .i64) .str))))))], [.one (.sl 2)]⟩)]⟩,
  noBlk,
  ⟨[0, 3], ⟨[(true, .box [.pl (.prod (.list (.prod (.int .i64) (.prod .str (.int .i64)))) (.prod (.int .i64) (.prod (.int .i64) (.prod (.int .i64) (.int .i64)))))]), (false, .arr (.prod (.int .i64) (.prod (.int .i64) (.prod (.int .i64) (.prod (.int .i64) (.prod (.int .i64) .str))))))], [.one (.ptr 0 0), .one (.sl 1)]⟩, [2], [(.norm, [3], ⟨[(true, .box [.pl (.prod (.list (.prod (.int .i64) (.prod .str (.int .i64)))) (.prod (.int .i64) (.prod (.int .i64) (.prod (.int .i64) (.int .i64)))))]), (true, .gone), (true, .arr (.prod (.int .i64) (.prod (.int .i64) (.prod (.int .i64) (.prod (.int .i64) (.prod (.int .i64) .str))))))], [.one (.sl 2)]⟩)]⟩,
  noBlk,
  ⟨[0, 3], ⟨[(true, .box [.pl (.prod (.list (.prod (.int .i64) (.prod .str (.int .i64)))) (.prod (.int .i64) (.prod (.int .i64) (.prod (.int .i64) (.int .i64)))))]), (false, .arr (.prod (.int .i64) (.prod (.int .i64) (.prod (.int .i64) (.prod (.int .i64) (.prod (.int .i64) .str))))))], [.one (.ptr 0 0), .one (.sl 1)]⟩, [2], [(.norm, [3], ⟨[(true, .box [.pl (.prod (.list (.prod (.int .i64) (.prod .str (.int .i64)))) (.prod (.int .i64) (.prod (.int .i64) (.prod (.int .i64) (.int .i64)))))]), (true, .gone), (true, .arr (.prod (.int .i64) (.prod (.int .i64) (.prod (.int .i64) (.prod (.int .i64) (.prod (.int .i64) .str))))))], [.one (.sl 2)]⟩)]⟩,
  noBlk,
  ⟨[0, 3], ⟨[(true, .box [.pl (.prod (.list (.prod (.int .i64) (.prod .str (.int .i64)))) (.prod (.int .i64) (.prod (.int .i64) (.prod (.int .i64) (.int .i64)))))]), (false, .arr (.prod (.int .i64) (.prod (.int .i64) (.prod (.int .i64) (.prod (.int .i64) (.prod (.int .i64) .str))))))], [.one (.ptr 0 0), .one (.sl 1)]⟩, [2], [(.norm, [3], ⟨[(true, .box [.pl (.prod (.list (.prod (.int .i64) (.prod .str (.int .i64)))) (.prod (.int .i64) (.prod (.int .i64) (.prod (.int .i64) (.int .i64)))))]), (true, .gone), (true, .arr (.prod (.int .i64) (.prod (.int .i64) (.prod (.int .i64) (.prod (.int .i64) (.prod (.int .i64) .str))))))], [.one (.sl 2)]⟩)]⟩,
  noBlk,
  ⟨[0, 3], ⟨[(true, .box [.pl (.prod (.list (.prod (.int .i64) (.prod .str (.int .i64)))) (.prod (.int .i64) (.prod (.int .i64) (.prod (.int .i64) (.int .i64)))))]), (false, .arr (.prod (.int .i64) (.prod (.int .i64) (.prod (.int .i64) (.prod (.int .i64) (.prod (.int .i64) .str))))))], [.one (.ptr 0 0), .one (.sl 1)]⟩, [2], [(.norm, [3], ⟨[(true, .box [.pl (.prod (.list (.prod (.int .i64) (.prod .str (.int .i64)))) (.prod (.int .i64) (.prod (.int .i64) (.prod (.int .i64) (.int .i64)))))]), (true, .gone), (true, .arr (.prod (.int .i64) (.prod (.int .i64) (.prod (.int .i64) (.prod (.int .i64) (.prod (.int .i64) .str))))))], [.one (.sl 2)]⟩)]⟩,
  noBlk,
  noBlk,
  noBlk,
  noBlk,
  noBlk,
  noBlk,
  noBlk,
  ⟨[0, 3, 4], ⟨[(true, .arr (.int .i64))], [.one (.pl (.list (.prod (.int .i64) (.prod (.int .i64) (.prod (.int .i64) (.prod (.int .i64) (.prod (.int .i64) .str))))))), .one (.sl 0), .one (.pl (.int .i64))]⟩, [0, 2, 3], [(.norm, [], ⟨[(true, .arr (.int .i64))], []⟩)]⟩,
  ⟨[3, 4, 5, 6], ⟨[(true, .arr (.int .i64)), (true, .arr (.int .i64))], [.one (.sl 0), .one (.pl (.int .i64)), .one (.sl 1), .one (.pl (.int .i64))]⟩, [0, 3, 4], [(.norm, [], ⟨[(true, .arr (.int .i64)), (true, .arr (.int .i64))], []⟩)]⟩,
  noBlk,
  ⟨[0, 1, 6], ⟨[(true, .box [.pl (.prod (.int .i64) (.int .i64))])], [.one (.pl (.list (.prod (.int .i64) (.prod .str (.int .i64))))), .one (.pl (.int .i64)), .one (.ptr 0 0)]⟩, [6], [(.ret, [4, 5], ⟨[(true, .box [.pl (.prod (.int .i64) (.int .i64))]), (true, .arr (.prod (.int .i64) (.prod (.int .i64) (.prod (.int .i64) (.prod (.int .i64) (.prod (.int .i64) .str))))))], [.one (.sl 1), .one (.pl (.int .i64))]⟩), (.ret, [4, 5], ⟨[(true, .box [.pl (.prod (.int .i64) (.int .i64))])], [.one (.pl (.list (.prod (.int .i64) (.prod (.int .i64) (.prod (.int .i64) (.prod (.int .i64) (.prod (.int .i64) .str))))))), .one (.pl (.int .i64))]⟩)]⟩,
  ⟨[0, 3, 30, 31, 32], ⟨[(true, .arr .bool)], [.one (.pl (.list (.prod (.int .i64) (.prod (.int .i64) (.prod (.int .i64) (.prod (.int .i64) (.prod (.int .i64) .str))))))), .one (.sl 0), .one (.pl (.list (.prod (.int .i64) (.prod (.int .i64) (.prod (.int .i64) (.prod (.int .i64) (.prod (.int .i64) .str))))))), .one (.pl (.int .i64)), .one (.pl (.int .i64))]⟩, [0, 3], [(.ret, [2], ⟨[(true, .arr .bool)], [.one (.pl .bool)]⟩), (.norm, [], ⟨[(true, .arr .bool)], []⟩)]⟩,
  ⟨[1, 3], ⟨[(true, .box [.pl (.prod (.int .i64) (.prod (.int .i64) (.prod (.int .i64) (.prod (.int .i64) (.prod (.int .i64) .str)))))])], [.one (.ptr 0 0), .one (.pl (.int .i64))]⟩, [], [(.ret, [2], ⟨[(true, .box [.pl (.prod (.int .i64) (.prod (.int .i64) (.prod (.int .i64) (.prod (.int .i64) (.prod (.int .i64) .str)))))])], [.one (.pl .bool)]⟩)]⟩,
  ⟨[1, 3, 4], ⟨[(true, .box [.pl (.prod (.int .i64) (.prod (.int .i64) (.prod (.int .i64) (.prod (.int .i64) (.prod (.int .i64) .str)))))]), (true, .box [.pl (.prod (.int .i64) (.prod (.int .i64) (.prod (.int .i64) (.prod (.int .i64) (.prod (.int .i64) .str)))))])], [.one (.ptr 0 0), .one (.pl (.int .i64)), .one (.ptr 1 0)]⟩, [], [(.ret, [2], ⟨[(true, .box [.pl (.prod (.int .i64) (.prod (.int .i64) (.prod (.int .i64) (.prod (.int .i64) (.prod (.int .i64) .str)))))]), (true, .box [.pl (.prod (.int .i64) (.prod (.int .i64) (.prod (.int .i64) (.prod (.int .i64) (.prod (.int .i64) .str)))))])], [.one (.pl .bool)]⟩)]⟩,
  ⟨[0, 3, 4, 5, 41, 42, 43], ⟨[(true, .arr .bool), (true, .box [.pl (.prod (.int .i64) (.prod (.int .i64) (.prod (.int .i64) (.prod (.int .i64) (.prod (.int .i64) .str)))))]), (true, .arr (.int .i64))], [.one (.pl (.list (.prod (.int .i64) (.prod (.int .i64) (.prod (.int .i64) (.prod (.int .i64) (.prod (.int .i64) .str))))))), .one (.sl 0), .one (.pl (.int .i64)), .one (.ptr 1 0), .one (.sl 2), .one (.pl (.int .i64)), .one (.pl (.int .i64))]⟩, [0, 3, 30, 31, 32], [(.ret, [2], ⟨[(true, .arr .bool), (true, .box [.pl (.prod (.int .i64) (.prod (.int .i64) (.prod (.int .i64) (.prod (.int .i64) (.prod (.int .i64) .str)))))]), (true, .arr (.int .i64))], [.one (.pl .bool)]⟩), (.norm, [], ⟨[(true, .arr .bool), (true, .box [.pl (.prod (.int .i64) (.prod (.int .i64) (.prod (.int .i64) (.prod (.int .i64) (.prod (.int .i64) .str)))))]), (true, .arr (.int .i64))], []⟩)]⟩,
  ⟨[0, 1, 7, 8], ⟨[], [.one (.pl (.list .bool)), .one (.pl .bool), .one (.pl (.int .i64)), .one (.pl (.int .i64))]⟩, [], [(.ret, [4], ⟨[], [.one (.pl (.int .i64))]⟩), (.norm, [], ⟨[], []⟩)]⟩,
  noBlk,
  noBlk,
  noBlk,
  noBlk,
  noBlk,
  noBlk,
  ⟨[3, 11, 12, 13], ⟨[(true, .arr (.int .i64))], [.one (.sl 0), .one (.pl (.list (.prod (.int .i64) (.prod (.int .i64) (.prod (.int .i64) (.prod (.int .i64) (.prod (.int .i64) .str))))))), .one (.pl (.int .i64)), .one (.pl (.int .i64))]⟩, [2, 3], [(.norm, [], ⟨[(true, .arr (.int .i64))], []⟩)]⟩,
  ⟨[3, 4, 19, 20, 21], ⟨[(true, .arr (.int .i64)), (true, .arr (.int .i64))], [.one (.sl 0), .one (.pl (.int .i64)), .one (.sl 1), .one (.pl (.int .i64)), .one (.pl (.int .i64))]⟩, [3, 4, 11, 12, 13], [(.norm, [], ⟨[(true, .arr (.int .i64)), (true, .arr (.int .i64))], []⟩)]⟩,
  noBlk,
  ⟨[1, 6, 7, 8], ⟨[(true, .box [.sl 1]), (true, .arr .bool)], [.one (.ptr 0 0), .one (.pl (.list (.int .i64))), .one (.pl (.int .i64)), .one (.pl (.int .i64))]⟩, [], [(.ret, [3], ⟨[(true, .box [.sl 1]), (true, .arr .bool)], [.one (.pl .bool)]⟩), (.norm, [], ⟨[(true, .box [.sl 1]), (true, .arr .bool)], []⟩)]⟩,
  noBlk,
  noBlk,
  ⟨[4, 5, 16, 17, 18], ⟨[(true, .box [.sl 1]), (true, .arr .bool)], [.one (.ptr 0 0), .one (.fn 23 [] [some 0]), .one (.pl (.list (.prod (.int .i64) (.prod (.int .i64) (.prod (.int .i64) (.prod (.int .i64) (.prod (.int .i64) .str))))))), .one (.pl (.int .i64)), .one (.pl (.int .i64))]⟩, [0, 4], [(.ret, [2, 3], ⟨[(true, .box [.sl 1]), (true, .arr .bool)], [.one (.pl (.int .i64)), .one (.pl (.int .i64))]⟩), (.norm, [], ⟨[(true, .box [.sl 1]), (true, .arr .bool)], []⟩)]⟩,
  noBlk,
  noBlk,
  noBlk,
  ⟨[0, 3], ⟨[(true, .box [.pl (.prod (.list (.prod (.int .i64) (.prod .str (.int .i64)))) (.prod (.int .i64) (.prod (.int .i64) (.int .i64))))]), (false, .arr (.prod .str (.int .i64)))], [.one (.ptr 0 0), .one (.sl 1)]⟩, [], [(.ret, [2], ⟨[(true, .box [.pl (.prod (.list (.prod (.int .i64) (.prod .str (.int .i64)))) (.prod (.int .i64) (.prod (.int .i64) (.int .i64))))]), (true, .gone), (true, .arr (.prod .str (.int .i64)))], [.one (.sl 2)]⟩), (.norm, [], ⟨[(true, .box [.pl (.prod (.list (.prod (.int .i64) (.prod .str (.int .i64)))) (.prod (.int .i64) (.prod (.int .i64) (.int .i64))))]), (true, .gone)], []⟩)]⟩,
  noBlk,
  ⟨[0, 3, 4, 5], ⟨[(true, .box [.pl (.prod (.list (.prod (.int .i64) (.prod .str (.int .i64)))) (.prod (.int .i64) (.prod (.int .i64) (.int .i64))))]), (true, .box [.pl (.prod (.int .i64) (.int .i64))])], [.one (.ptr 0 0), .one (.pl (.list (.prod (.int .i64) (.prod (.int .i64) (.prod (.int .i64) (.prod (.int .i64) (.prod (.int .i64) .str))))))), .one (.pl (.int .i64)), .one (.ptr 1 0)]⟩, [], [(.ret, [2], ⟨[(true, .box [.pl (.prod (.list (.prod (.int .i64) (.prod .str (.int .i64)))) (.prod (.int .i64) (.prod (.int .i64) (.int .i64))))]), (true, .box [.pl (.prod (.int .i64) (.int .i64))])], [.one (.pl (.list (.prod (.int .i64) (.prod (.int .i64) (.prod (.int .i64) (.prod (.int .i64) (.prod (.int .i64) .str)))))))]⟩)]⟩,
  noBlk,
  ⟨[0, 3], ⟨[(true, .box [.pl (.prod (.list (.prod (.int .i64) (.prod .str (.int .i64)))) (.prod (.int .i64) (.prod (.int .i64) (.int .i64))))]), (false, .arr (.list (.prod (.int .i64) (.prod (.int .i64) (.prod (.int .i64) (.prod (.int .i64) (.prod (.int .i64) .str)))))))], [.one (.ptr 0 0), .one (.sl 1)]⟩, [], [(.ret, [2], ⟨[(true, .box [.pl (.prod (.list (.prod (.int .i64) (.prod .str (.int .i64)))) (.prod (.int .i64) (.prod (.int .i64) (.int .i64))))]), (true, .gone), (true, .arr (.list (.prod (.int .i64) (.prod (.int .i64) (.prod (.int .i64) (.prod (.int .i64) (.prod (.int .i64) .str)))))))], [.one (.sl 2)]⟩), (.norm, [], ⟨[(true, .box [.pl (.prod (.list (.prod (.int .i64) (.prod .str (.int .i64)))) (.prod (.int .i64) (.prod (.int .i64) (.int .i64))))]), (true, .gone)], []⟩)]⟩,
  ⟨[0, 3], ⟨[(true, .box [.pl (.prod (.list (.prod (.int .i64) (.prod .str (.int .i64)))) (.prod (.int .i64) (.prod (.int .i64) (.int .i64))))]), (false, .arr (.prod (.int .i64) (.prod .str (.prod (.int .i64) (.prod (.list (.prod (.int .i64) (.prod (.int .i64) (.prod (.int .i64) (.prod (.int .i64) (.prod (.int .i64) .str)))))) (.prod (.list (.prod (.int .i64) (.prod (.int .i64) (.prod (.int .i64) (.prod (.int .i64) (.prod (.int .i64) .str)))))) (.list (.list (.prod (.int .i64) (.prod (.int .i64) (.prod (.int .i64) (.prod (.int .i64) (.prod (.int .i64) .str)))))))))))))], [.one (.ptr 0 0), .one (.sl 1)]⟩, [0, 2], [(.norm, [3], ⟨[(true, .box [.pl (.prod (.list (.prod (.int .i64) (.prod .str (.int .i64)))) (.prod (.int .i64) (.prod (.int .i64) (.int .i64))))]), (true, .gone), (true, .arr (.prod (.int .i64) (.prod .str (.prod (.int .i64) (.prod (.list (.prod (.int .i64) (.prod (.int .i64) (.prod (.int .i64) (.prod (.int .i64) (.prod (.int .i64) .str)))))) (.prod (.list (.prod (.int .i64) (.prod (.int .i64) (.prod (.int .i64) (.prod (.int .i64) (.prod (.int .i64) .str)))))) (.list (.list (.prod (.int .i64) (.prod (.int .i64) (.prod (.int .i64) (.prod (.int .i64) (.prod (.int .i64) .str)))))))))))))], [.one (.sl 2)]⟩)]⟩,
  noBlk,
  ⟨[0, 3], ⟨[(true, .box [.pl (.prod (.list (.prod (.int .i64) (.prod .str (.int .i64)))) (.prod (.int .i64) (.prod (.int .i64) (.int .i64))))]), (false, .arr (.prod .str (.int .i64)))], [.one (.ptr 0 0), .one (.sl 1)]⟩, [], [(.ret, [2], ⟨[(true, .box [.pl (.prod (.list (.prod (.int .i64) (.prod .str (.int .i64)))) (.prod (.int .i64) (.prod (.int .i64) (.int .i64))))]), (true, .gone), (true, .arr (.prod .str (.int .i64)))], [.one (.sl 2)]⟩), (.norm, [], ⟨[(true, .box [.pl (.prod (.list (.prod (.int .i64) (.prod .str (.int .i64)))) (.prod (.int .i64) (.prod (.int .i64) (.int .i64))))]), (true, .gone)], []⟩)]⟩,
  noBlk,
  ⟨[0, 3], ⟨[(true, .box [.pl (.prod (.list (.prod (.int .i64) (.prod .str (.int .i64)))) (.prod (.int .i64) (.prod (.int .i64) (.int .i64))))]), (false, .arr (.prod .str (.list (.prod (.int .i64) (.prod (.int .i64) (.prod (.int .i64) (.prod (.int .i64) (.prod (.int .i64) .str))))))))], [.one (.ptr 0 0), .one (.sl 1)]⟩, [0, 2], [(.norm, [3], ⟨[(true, .box [.pl (.prod (.list (.prod (.int .i64) (.prod .str (.int .i64)))) (.prod (.int .i64) (.prod (.int .i64) (.int .i64))))]), (true, .gone), (true, .arr (.prod .str (.list (.prod (.int .i64) (.prod (.int .i64) (.prod (.int .i64) (.prod (.int .i64) (.prod (.int .i64) .str))))))))], [.one (.sl 2)]⟩)]⟩,
  noBlk,
  noBlk,
  noBlk,
  noBlk,
  noBlk,
  noBlk,
  noBlk,
  noBlk,
  noBlk,
  noBlk,
  noBlk,
  noBlk,
  noBlk,
  noBlk,
  ⟨[6, 7], ⟨[(true, .box [.pl (.prod (.list (.prod (.int .i64) (.prod .str (.int .i64)))) (.prod (.int .i64) (.prod (.int .i64) (.int .i64))))]), (true, .box [.sl 2, .pl .str, .pl .str]), (false, .arr (.prod .bool (.prod .str (.prod (.list (.prod .str (.int .i64))) (.prod .str (.prod (.int .i64) (.prod (.list (.prod .str (.int .i64))) (.prod (.list (.prod .str (.list (.prod (.int .i64) (.prod (.int .i64) (.prod (.int .i64) (.prod (.int .i64) (.prod (.int .i64) .str)))))))) (.list (.prod (.int .i64) (.prod .str (.prod (.int .i64) (.prod (.list (.prod (.int .i64) (.prod (.int .i64) (.prod (.int .i64) (.prod (.int .i64) (.prod (.int .i64) .str)))))) (.prod (.list (.prod (.int .i64) (.prod (.int .i64) (.prod (.int .i64) (.prod (.int .i64) (.prod (.int .i64) .str)))))) (.list (.list (.prod (.int .i64) (.prod (.int .i64) (.prod (.int .i64) (.prod (.int .i64) (.prod (.int .i64) .str)))))))))))))))))))))], [.one (.ptr 0 0), .one (.ptr 1 0)]⟩, [2, 3, 6, 7], [(.norm, [], ⟨[(true, .box [.pl (.prod (.list (.prod (.int .i64) (.prod .str (.int .i64)))) (.prod (.int .i64) (.prod (.int .i64) (.int .i64))))]), (true, .box [.sl 3, .pl .str, .pl .str]), (true, .gone), (true, .arr (.prod .bool (.prod .str (.prod (.list (.prod .str (.int .i64))) (.prod .str (.prod (.int .i64) (.prod (.list (.prod .str (.int .i64))) (.prod (.list (.prod .str (.list (.prod (.int .i64) (.prod (.int .i64) (.prod (.int .i64) (.prod (.int .i64) (.prod (.int .i64) .str)))))))) (.list (.prod (.int .i64) (.prod .str (.prod (.int .i64) (.prod (.list (.prod (.int .i64) (.prod (.int .i64) (.prod (.int .i64) (.prod (.int .i64) (.prod (.int .i64) .str)))))) (.prod (.list (.prod (.int .i64) (.prod (.int .i64) (.prod (.int .i64) (.prod (.int .i64) (.prod (.int .i64) .str)))))) (.list (.list (.prod (.int .i64) (.prod (.int .i64) (.prod (.int .i64) (.prod (.int .i64) (.prod (.int .i64) .str)))))))))))))))))))))], []⟩)]⟩,
  ⟨[2, 3, 6, 7], ⟨[(true, .box [.sl 4, .pl .str, .pl .str]), (true, .box [.pl (.prod (.int .i64) (.int .i64))]), (true, .box [.pl (.prod (.list (.prod (.int .i64) (.prod .str (.int .i64)))) (.prod (.int .i64) (.prod (.int .i64) (.int .i64))))]), (true, .box [.sl 5, .pl .str, .pl .str]), (true, .arr (.prod .bool (.prod .str (.prod (.list (.prod .str (.int .i64))) (.prod .str (.prod (.int .i64) (.prod (.list (.prod .str (.int .i64))) (.prod (.list (.prod .str (.list (.prod (.int .i64) (.prod (.int .i64) (.prod (.int .i64) (.prod (.int .i64) (.prod (.int .i64) .str)))))))) (.list (.prod (.int .i64) (.prod .str (.prod (.int .i64) (.prod (.list (.prod (.int .i64) (.prod (.int .i64) (.prod (.int .i64) (.prod (.int .i64) (.prod (.int .i64) .str)))))) (.prod (.list (.prod (.int .i64) (.prod (.int .i64) (.prod (.int .i64) (.prod (.int .i64) (.prod (.int .i64) .str)))))) (.list (.list (.prod (.int .i64) (.prod (.int .i64) (.prod (.int .i64) (.prod (.int .i64) (.prod (.int .i64) .str))))))))))))))))))))), (true, .arr (.prod .bool (.prod .str (.prod (.list (.prod .str (.int .i64))) (.prod .str (.prod (.int .i64) (.prod (.list (.prod .str (.int .i64))) (.prod (.list (.prod .str (.list (.prod (.int .i64) (.prod (.int .i64) (.prod (.int .i64) (.prod (.int .i64) (.prod (.int .i64) .str)))))))) (.list (.prod (.int .i64) (.prod .str (.prod (.int .i64) (.prod (.list (.prod (.int .i64) (.prod (.int .i64) (.prod (.int .i64) (.prod (.int .i64) (.prod (.int .i64) .str)))))) (.prod (.list (.prod (.int .i64) (.prod (.int .i64) (.prod (.int .i64) (.prod (.int .i64) (.prod (.int .i64) .str)))))) (.list (.list (.prod (.int .i64) (.prod (.int .i64) (.prod (.int .i64) (.prod (.int .i64) (.prod (.int .i64) .str)))))))))))))))))))))], [.one (.ptr 0 0), .one (.ptr 1 0), .one (.ptr 2 0), .one (.ptr 3 0)]⟩, [2, 3], [(.ret, [], ⟨[(true, .box [.sl 6, .pl .str, .pl .str]), (true, .box [.pl (.prod (.int .i64) (.int .i64))]), (true, .box [.pl (.prod (.list (.prod (.int .i64) (.prod .str (.int .i64)))) (.prod (.int .i64) (.prod (.int .i64) (.int .i64))))]), (true, .box [.sl 5, .pl .str, .pl .str]), (true, .arr (.prod .bool (.prod .str (.prod (.list (.prod .str (.int .i64))) (.prod .str (.prod (.int .i64) (.prod (.list (.prod .str (.int .i64))) (.prod (.list (.prod .str (.list (.prod (.int .i64) (.prod (.int .i64) (.prod (.int .i64) (.prod (.int .i64) (.prod (.int .i64) .str)))))))) (.list (.prod (.int .i64) (.prod .str (.prod (.int .i64) (.prod (.list (.prod (.int .i64) (.prod (.int .i64) (.prod (.int .i64) (.prod (.int .i64) (.prod (.int .i64) .str)))))) (.prod (.list (.prod (.int .i64) (.prod (.int .i64) (.prod (.int .i64) (.prod (.int .i64) (.prod (.int .i64) .str)))))) (.list (.list (.prod (.int .i64) (.prod (.int .i64) (.prod (.int .i64) (.prod (.int .i64) (.prod (.int .i64) .str))))))))))))))))))))), (true, .arr (.prod .bool (.prod .str (.prod (.list (.prod .str (.int .i64))) (.prod .str (.prod (.int .i64) (.prod (.list (.prod .str (.int .i64))) (.prod (.list (.prod .str (.list (.prod (.int .i64) (.prod (.int .i64) (.prod (.int .i64) (.prod (.int .i64) (.prod (.int .i64) .str)))))))) (.list (.prod (.int .i64) (.prod .str (.prod (.int .i64) (.prod (.list (.prod (.int .i64) (.prod (.int .i64) (.prod (.int .i64) (.prod (.int .i64) (.prod (.int .i64) .str)))))) (.prod (.list (.prod (.int .i64) (.prod (.int .i64) (.prod (.int .i64) (.prod (.int .i64) (.prod (.int .i64) .str)))))) (.list (.list (.prod (.int .i64) (.prod (.int .i64) (.prod (.int .i64) (.prod (.int .i64) (.prod (.int .i64) .str))))))))))))))))))))), (true, .arr (.prod .bool (.prod .str (.prod (.list (.prod .str (.int .i64))) (.prod .str (.prod (.int .i64) (.prod (.list (.prod .str (.int .i64))) (.prod (.list (.prod .str (.list (.prod (.int .i64) (.prod (.int .i64) (.prod (.int .i64) (.prod (.int .i64) (.prod (.int .i64) .str)))))))) (.list (.prod (.int .i64) (.prod .str (.prod (.int .i64) (.prod (.list (.prod (.int .i64) (.prod (.int .i64) (.prod (.int .i64) (.prod (.int .i64) (.prod (.int .i64) .str)))))) (.prod (.list (.prod (.int .i64) (.prod (.int .i64) (.prod (.int .i64) (.prod (.int .i64) (.prod (.int .i64) .str)))))) (.list (.list (.prod (.int .i64) (.prod (.int .i64) (.prod (.int .i64) (.prod (.int .i64) (.prod (.int .i64) .str)))))))))))))))))))))], []⟩), (.ret, [], ⟨[(true, .box [.sl 5, .pl .str, .pl .str]), (true, .box [.pl (.prod (.int .i64) (.int .i64))]), (true, .box [.pl (.prod (.list (.prod (.int .i64) (.prod .str (.int .i64)))) (.prod (.int .i64) (.prod (.int .i64) (.int .i64))))]), (true, .box [.sl 5, .pl .str, .pl .str]), (true, .arr (.prod .bool (.prod .str (.prod (.list (.prod .str (.int .i64))) (.prod .str (.prod (.int .i64) (.prod (.list (.prod .str (.int .i64))) (.prod (.list (.prod .str (.list (.prod (.int .i64) (.prod (.int .i64) (.prod (.int .i64) (.prod (.int .i64) (.prod (.int .i64) .str)))))))) (.list (.prod (.int .i64) (.prod .str (.prod (.int .i64) (.prod (.list (.prod (.int .i64) (.prod (.int .i64) (.prod (.int .i64) (.prod (.int .i64) (.prod (.int .i64) .str)))))) (.prod (.list (.prod (.int .i64) (.prod (.int .i64) (.prod (.int .i64) (.prod (.int .i64) (.prod (.int .i64) .str)))))) (.list (.list (.prod (.int .i64) (.prod (.int .i64) (.prod (.int .i64) (.prod (.int .i64) (.prod (.int .i64) .str))))))))))))))))))))), (true, .arr (.prod .bool (.prod .str (.prod (.list (.prod .str (.int .i64))) (.prod .str (.prod (.int .i64) (.prod (.list (.prod .str (.int .i64))) (.prod (.list (.prod .str (.list (.prod (.int .i64) (.prod (.int .i64) (.prod (.int .i64) (.prod (.int .i64) (.prod (.int .i64) .str)))))))) (.list (.prod (.int .i64) (.prod .str (.prod (.int .i64) (.prod (.list (.prod (.int .i64) (.prod (.int .i64) (.prod (.int .i64) (.prod (.int .i64) (.prod (.int .i64) .str)))))) (.prod (.list (.prod (.int .i64) (.prod (.int .i64) (.prod (.int .i64) (.prod (.int .i64) (.prod (.int .i64) .str)))))) (.list (.list (.prod (.int .i64) (.prod (.int .i64) (.prod (.int .i64) (.prod (.int .i64) (.prod (.int .i64) .str)))))))))))))))))))))], []⟩)]⟩,
  ⟨[2, 7, 8, 9], ⟨[(true, .box [.pl (.prod (.int .i64) (.int .i64))])], [.one (.ptr 0 0), .one (.pl (.list (.prod .bool (.prod .str (.prod (.list (.prod .str (.int .i64))) (.prod .str (.prod (.int .i64) (.prod (.list (.prod .str (.int .i64))) (.prod (.list (.prod .str (.list (.prod (.int .i64) (.prod (.int .i64) (.prod (.int .i64) (.prod (.int .i64) (.prod (.int .i64) .str)))))))) (.list (.prod (.int .i64) (.prod .str (.prod (.int .i64) (.prod (.list (.prod (.int .i64) (.prod (.int .i64) (.prod (.int .i64) (.prod (.int .i64) (.prod (.int .i64) .str)))))) (.prod (.list (.prod (.int .i64) (.prod (.int .i64) (.prod (.int .i64) (.prod (.int .i64) (.prod (.int .i64) .str)))))) (.list (.list (.prod (.int .i64) (.prod (.int .i64) (.prod (.int .i64) (.prod (.int .i64) (.prod (.int .i64) .str)))))))))))))))))))))), .one (.pl (.int .i64)), .one (.pl (.int .i64))]⟩, [2], [(.ret, [], ⟨[(true, .box [.pl (.prod (.int .i64) (.int .i64))])], []⟩), (.norm, [], ⟨[(true, .box [.pl (.prod (.int .i64) (.int .i64))])], []⟩)]⟩,
  noBlk,
  noBlk,
  noBlk,
  noBlk,
  noBlk,
  ⟨[3, 13, 14, 15], ⟨[(false, .arr (.list (.prod (.int .i64) (.prod (.int .i64) (.prod (.int .i64) (.prod (.int .i64) (.prod (.int .i64) .str)))))))], [.one (.sl 0), .one (.pl (.list (.prod .str (.list (.prod (.int .i64) (.prod (.int .i64) (.prod (.int .i64) (.prod (.int .i64) (.prod (.int .i64) .str))))))))), .one (.pl (.int .i64)), .one (.pl (.int .i64))]⟩, [1, 2], [(.norm, [3], ⟨[(true, .gone), (true, .arr (.list (.prod (.int .i64) (.prod (.int .i64) (.prod (.int .i64) (.prod (.int .i64) (.prod (.int .i64) .str)))))))], [.one (.sl 1)]⟩)]⟩,
  ⟨[3, 33, 34, 35], ⟨[(false, .arr (.list (.prod (.int .i64) (.prod (.int .i64) (.prod (.int .i64) (.prod (.int .i64) (.prod (.int .i64) .str)))))))], [.one (.sl 0), .one (.pl (.list (.prod (.int .i64) (.prod .str (.prod (.int .i64) (.prod (.list (.prod (.int .i64) (.prod (.int .i64) (.prod (.int .i64) (.prod (.int .i64) (.prod (.int .i64) .str)))))) (.prod (.list (.prod (.int .i64) (.prod (.int .i64) (.prod (.int .i64) (.prod (.int .i64) (.prod (.int .i64) .str)))))) (.list (.list (.prod (.int .i64) (.prod (.int .i64) (.prod (.int .i64) (.prod (.int .i64) (.prod (.int .i64) .str)))))))))))))), .one (.pl (.int .i64)), .one (.pl (.int .i64))]⟩, [2], [(.norm, [3], ⟨[(true, .gone), (true, .arr (.list (.prod (.int .i64) (.prod (.int .i64) (.prod (.int .i64) (.prod (.int .i64) (.prod (.int .i64) .str)))))))], [.one (.sl 1)]⟩)]⟩,
  ⟨[50, 51, 52], ⟨[(true, .arr (.list (.prod (.int .i64) (.prod (.int .i64) (.prod (.int .i64) (.prod (.int .i64) (.prod (.int .i64) .str)))))))], [.one (.sl 0), .one (.pl (.int .i64)), .one (.pl (.int .i64))]⟩, [], [(.ret, [2], ⟨[(true, .arr (.list (.prod (.int .i64) (.prod (.int .i64) (.prod (.int .i64) (.prod (.int .i64) (.prod (.int .i64) .str)))))))], [.one (.pl (.int .i64))]⟩), (.norm, [], ⟨[(true, .arr (.list (.prod (.int .i64) (.prod (.int .i64) (.prod (.int .i64) (.prod (.int .i64) (.prod (.int .i64) .str)))))))], []⟩)]⟩,
  ⟨[0, 3, 4], ⟨[(true, .arr (.int .i64))], [.one (.pl (.list (.prod (.int .i64) (.prod (.int .i64) (.prod (.int .i64) (.prod (.int .i64) (.prod (.int .i64) .str))))))), .one (.sl 0), .one (.pl (.int .i64))]⟩, [0, 3], [(.ret, [2], ⟨[(true, .arr (.int .i64))], [.one (.pl .bool)]⟩), (.norm, [], ⟨[(true, .arr (.int .i64))], []⟩)]⟩,
  ⟨[3, 4, 5, 6], ⟨[(true, .arr (.int .i64)), (true, .arr (.int .i64))], [.one (.sl 0), .one (.pl (.int .i64)), .one (.sl 1), .one (.pl (.int .i64))]⟩, [0, 3, 4], [(.ret, [2], ⟨[(true, .arr (.int .i64)), (true, .arr (.int .i64))], [.one (.pl .bool)]⟩), (.norm, [], ⟨[(true, .arr (.int .i64)), (true, .arr (.int .i64))], []⟩)]⟩,
  ⟨[0, 5, 6, 7], ⟨[(true, .box [.pl (.prod (.int .i64) (.prod (.int .i64) (.prod (.int .i64) (.prod (.int .i64) (.prod (.int .i64) .str)))))]), (true, .arr (.int .i64))], [.one (.pl (.list (.prod (.int .i64) (.prod (.int .i64) (.prod (.int .i64) (.prod (.int .i64) (.prod (.int .i64) .str))))))), .one (.ptr 0 0), .one (.sl 1), .one (.pl (.int .i64))]⟩, [], [(.ret, [4], ⟨[(true, .box [.pl (.prod (.int .i64) (.prod (.int .i64) (.prod (.int .i64) (.prod (.int .i64) (.prod (.int .i64) .str)))))]), (true, .arr (.int .i64))], [.one (.pl .bool)]⟩), (.norm, [], ⟨[(true, .box [.pl (.prod (.int .i64) (.prod (.int .i64) (.prod (.int .i64) (.prod (.int .i64) (.prod (.int .i64) .str)))))]), (true, .arr (.int .i64))], []⟩)]⟩,
  ⟨[0, 3, 7], ⟨[(true, .arr (.int .i64))], [.one (.pl (.list (.prod (.int .i64) (.prod (.int .i64) (.prod (.int .i64) (.prod (.int .i64) (.prod (.int .i64) .str))))))), .one (.sl 0), .one (.pl (.int .i64))]⟩, [0], [(.ret, [2], ⟨[(true, .arr (.int .i64))], [.one (.pl .bool)]⟩), (.norm, [], ⟨[(true, .arr (.int .i64))], []⟩)]⟩,
  ⟨[0, 4, 5], ⟨[(true, .arr (.int .i64))], [.one (.pl (.list (.prod (.int .i64) (.prod (.int .i64) (.prod (.int .i64) (.prod (.int .i64) (.prod (.int .i64) .str))))))), .one (.sl 0), .one (.pl (.int .i64))]⟩, [4], [(.ret, [2, 3], ⟨[(true, .arr (.int .i64))], [.one (.pl (.int .i64)), .one (.pl (.int .i64))]⟩), (.norm, [], ⟨[(true, .arr (.int .i64))], []⟩)]⟩,
  ⟨[2, 9, 10, 11], ⟨[(true, .arr (.int .i64)), (true, .arr (.int .i64))], [.one (.sl 0), .one (.sl 1), .one (.pl (.int .i64)), .one (.pl (.int .i64))]⟩, [2, 6, 7, 8], [(.norm, [10], ⟨[(true, .arr (.int .i64)), (true, .arr (.int .i64))], [.one (.pl (.int .i64))]⟩)]⟩,
  ⟨[1, 3], ⟨[(true, .box [.pl (.prod (.list (.prod .bool (.prod .str (.prod (.list (.prod .str (.int .i64))) (.prod .str (.prod (.int .i64) (.prod (.list (.prod .str (.int .i64))) (.prod (.list (.prod .str (.list (.prod (.int .i64) (.prod (.int .i64) (.prod (.int .i64) (.prod (.int .i64) (.prod (.int .i64) .str)))))))) (.list (.prod (.int .i64) (.prod .str (.prod (.int .i64) (.prod (.list (.prod (.int .i64) (.prod (.int .i64) (.prod (.int .i64) (.prod (.int .i64) (.prod (.int .i64) .str)))))) (.prod (.list (.prod (.int .i64) (.prod (.int .i64) (.prod (.int .i64) (.prod (.int .i64) (.prod (.int .i64) .str)))))) (.list (.list (.prod (.int .i64) (.prod (.int .i64) (.prod (.int .i64) (.prod (.int .i64) (.prod (.int .i64) .str))))))))))))))))))))) (.prod .str .str))])], [.one (.ptr 0 0), .one (.pl (.int .i64))]⟩, [], [(.ret, [2], ⟨[(true, .box [.pl (.prod (.list (.prod .bool (.prod .str (.prod (.list (.prod .str (.int .i64))) (.prod .str (.prod (.int .i64) (.prod (.list (.prod .str (.int .i64))) (.prod (.list (.prod .str (.list (.prod (.int .i64) (.prod (.int .i64) (.prod (.int .i64) (.prod (.int .i64) (.prod (.int .i64) .str)))))))) (.list (.prod (.int .i64) (.prod .str (.prod (.int .i64) (.prod (.list (.prod (.int .i64) (.prod (.int .i64) (.prod (.int .i64) (.prod (.int .i64) (.prod (.int .i64) .str)))))) (.prod (.list (.prod (.int .i64) (.prod (.int .i64) (.prod (.int .i64) (.prod (.int .i64) (.prod (.int .i64) .str)))))) (.list (.list (.prod (.int .i64) (.prod (.int .i64) (.prod (.int .i64) (.prod (.int .i64) (.prod (.int .i64) .str))))))))))))))))))))) (.prod .str .str))])], [.one (.pl .bool)]⟩), (.norm, [], ⟨[(true, .box [.pl (.prod (.list (.prod .bool (.prod .str (.prod (.list (.prod .str (.int .i64))) (.prod .str (.prod (.int .i64) (.prod (.list (.prod .str (.int .i64))) (.prod (.list (.prod .str (.list (.prod (.int .i64) (.prod (.int .i64) (.prod (.int .i64) (.prod (.int .i64) (.prod (.int .i64) .str)))))))) (.list (.prod (.int .i64) (.prod .str (.prod (.int .i64) (.prod (.list (.prod (.int .i64) (.prod (.int .i64) (.prod (.int .i64) (.prod (.int .i64) (.prod (.int .i64) .str)))))) (.prod (.list (.prod (.int .i64) (.prod (.int .i64) (.prod (.int .i64) (.prod (.int .i64) (.prod (.int .i64) .str)))))) (.list (.list (.prod (.int .i64) (.prod (.int .i64) (.prod (.int .i64) (.prod (.int .i64) (.prod (.int .i64) .str))))))))))))))))))))) (.prod .str .str))])], []⟩)]⟩,
  ⟨[4, 5], ⟨[(true, .box [.pl (.prod .bool (.prod .str (.prod (.list (.prod .str (.int .i64))) (.prod .str (.prod (.int .i64) (.prod (.list (.prod .str (.int .i64))) (.prod (.list (.prod .str (.list (.prod (.int .i64) (.prod (.int .i64) (.prod (.int .i64) (.prod (.int .i64) (.prod (.int .i64) .str)))))))) (.list (.prod (.int .i64) (.prod .str (.prod (.int .i64) (.prod (.list (.prod (.int .i64) (.prod (.int .i64) (.prod (.int .i64) (.prod (.int .i64) (.prod (.int .i64) .str)))))) (.prod (.list (.prod (.int .i64) (.prod (.int .i64) (.prod (.int .i64) (.prod (.int .i64) (.prod (.int .i64) .str)))))) (.list (.list (.prod (.int .i64) (.prod (.int .i64) (.prod (.int .i64) (.prod (.int .i64) (.prod (.int .i64) .str))))))))))))))))))))])], [.one (.ptr 0 0), .one (.pl (.int .i64))]⟩, [1, 3, 4], [(.ret, [2], ⟨[(true, .box [.pl (.prod .bool (.prod .str (.prod (.list (.prod .str (.int .i64))) (.prod .str (.prod (.int .i64) (.prod (.list (.prod .str (.int .i64))) (.prod (.list (.prod .str (.list (.prod (.int .i64) (.prod (.int .i64) (.prod (.int .i64) (.prod (.int .i64) (.prod (.int .i64) .str)))))))) (.list (.prod (.int .i64) (.prod .str (.prod (.int .i64) (.prod (.list (.prod (.int .i64) (.prod (.int .i64) (.prod (.int .i64) (.prod (.int .i64) (.prod (.int .i64) .str)))))) (.prod (.list (.prod (.int .i64) (.prod (.int .i64) (.prod (.int .i64) (.prod (.int .i64) (.prod (.int .i64) .str)))))) (.list (.list (.prod (.int .i64) (.prod (.int .i64) (.prod (.int .i64) (.prod (.int .i64) (.prod (.int .i64) .str))))))))))))))))))))])], [.one (.pl .bool)]⟩), (.norm, [], ⟨[(true, .box [.pl (.prod .bool (.prod .str (.prod (.list (.prod .str (.int .i64))) (.prod .str (.prod (.int .i64) (.prod (.list (.prod .str (.int .i64))) (.prod (.list (.prod .str (.list (.prod (.int .i64) (.prod (.int .i64) (.prod (.int .i64) (.prod (.int .i64) (.prod (.int .i64) .str)))))))) (.list (.prod (.int .i64) (.prod .str (.prod (.int .i64) (.prod (.list (.prod (.int .i64) (.prod (.int .i64) (.prod (.int .i64) (.prod (.int .i64) (.prod (.int .i64) .str)))))) (.prod (.list (.prod (.int .i64) (.prod (.int .i64) (.prod (.int .i64) (.prod (.int .i64) (.prod (.int .i64) .str)))))) (.list (.list (.prod (.int .i64) (.prod (.int .i64) (.prod (.int .i64) (.prod (.int .i64) (.prod (.int .i64) .str))))))))))))))))))))])], []⟩)]⟩,
  ⟨[4, 6], ⟨[(true, .box [.pl (.prod .bool (.prod .str (.prod (.list (.prod .str (.int .i64))) (.prod .str (.prod (.int .i64) (.prod (.list (.prod .str (.int .i64))) (.prod (.list (.prod .str (.list (.prod (.int .i64) (.prod (.int .i64) (.prod (.int .i64) (.prod (.int .i64) (.prod (.int .i64) .str)))))))) (.list (.prod (.int .i64) (.prod .str (.prod (.int .i64) (.prod (.list (.prod (.int .i64) (.prod (.int .i64) (.prod (.int .i64) (.prod (.int .i64) (.prod (.int .i64) .str)))))) (.prod (.list (.prod (.int .i64) (.prod (.int .i64) (.prod (.int .i64) (.prod (.int .i64) (.prod (.int .i64) .str)))))) (.list (.list (.prod (.int .i64) (.prod (.int .i64) (.prod (.int .i64) (.prod (.int .i64) (.prod (.int .i64) .str))))))))))))))))))))])], [.one (.ptr 0 0), .one (.pl (.int .i64))]⟩, [1, 3], [(.ret, [2], ⟨[(true, .box [.pl (.prod .bool (.prod .str (.prod (.list (.prod .str (.int .i64))) (.prod .str (.prod (.int .i64) (.prod (.list (.prod .str (.int .i64))) (.prod (.list (.prod .str (.list (.prod (.int .i64) (.prod (.int .i64) (.prod (.int .i64) (.prod (.int .i64) (.prod (.int .i64) .str)))))))) (.list (.prod (.int .i64) (.prod .str (.prod (.int .i64) (.prod (.list (.prod (.int .i64) (.prod (.int .i64) (.prod (.int .i64) (.prod (.int .i64) (.prod (.int .i64) .str)))))) (.prod (.list (.prod (.int .i64) (.prod (.int .i64) (.prod (.int .i64) (.prod (.int .i64) (.prod (.int .i64) .str)))))) (.list (.list (.prod (.int .i64) (.prod (.int .i64) (.prod (.int .i64) (.prod (.int .i64) (.prod (.int .i64) .str))))))))))))))))))))])], [.one (.pl .bool)]⟩), (.norm, [], ⟨[(true, .box [.pl (.prod .bool (.prod .str (.prod (.list (.prod .str (.int .i64))) (.prod .str (.prod (.int .i64) (.prod (.list (.prod .str (.int .i64))) (.prod (.list (.prod .str (.list (.prod (.int .i64) (.prod (.int .i64) (.prod (.int .i64) (.prod (.int .i64) (.prod (.int .i64) .str)))))))) (.list (.prod (.int .i64) (.prod .str (.prod (.int .i64) (.prod (.list (.prod (.int .i64) (.prod (.int .i64) (.prod (.int .i64) (.prod (.int .i64) (.prod (.int .i64) .str)))))) (.prod (.list (.prod (.int .i64) (.prod (.int .i64) (.prod (.int .i64) (.prod (.int .i64) (.prod (.int .i64) .str)))))) (.list (.list (.prod (.int .i64) (.prod (.int .i64) (.prod (.int .i64) (.prod (.int .i64) (.prod (.int .i64) .str))))))))))))))))))))])], []⟩)]⟩,
  ⟨[7, 8], ⟨[(true, .box [.pl (.prod (.int .i64) (.prod .str (.prod (.int .i64) (.prod (.list (.prod (.int .i64) (.prod (.int .i64) (.prod (.int .i64) (.prod (.int .i64) (.prod (.int .i64) .str)))))) (.prod (.list (.prod (.int .i64) (.prod (.int .i64) (.prod (.int .i64) (.prod (.int .i64) (.prod (.int .i64) .str)))))) (.list (.list (.prod (.int .i64) (.prod (.int .i64) (.prod (.int .i64) (.prod (.int .i64) (.prod (.int .i64) .str))))))))))))])], [.one (.ptr 0 0), .one (.pl (.int .i64))]⟩, [4, 6], [(.ret, [2], ⟨[(true, .box [.pl (.prod (.int .i64) (.prod .str (.prod (.int .i64) (.prod (.list (.prod (.int .i64) (.prod (.int .i64) (.prod (.int .i64) (.prod (.int .i64) (.prod (.int .i64) .str)))))) (.prod (.list (.prod (.int .i64) (.prod (.int .i64) (.prod (.int .i64) (.prod (.int .i64) (.prod (.int .i64) .str)))))) (.list (.list (.prod (.int .i64) (.prod (.int .i64) (.prod (.int .i64) (.prod (.int .i64) (.prod (.int .i64) .str))))))))))))])], [.one (.pl .bool)]⟩), (.norm, [], ⟨[(true, .box [.pl (.prod (.int .i64) (.prod .str (.prod (.int .i64) (.prod (.list (.prod (.int .i64) (.prod (.int .i64) (.prod (.int .i64) (.prod (.int .i64) (.prod (.int .i64) .str)))))) (.prod (.list (.prod (.int .i64) (.prod (.int .i64) (.prod (.int .i64) (.prod (.int .i64) (.prod (.int .i64) .str)))))) (.list (.list (.prod (.int .i64) (.prod (.int .i64) (.prod (.int .i64) (.prod (.int .i64) (.prod (.int .i64) .str))))))))))))])], []⟩)]⟩,
  noBlk,
  noBlk,
  noBlk,
  noBlk,
  noBlk,
  noBlk,
  noBlk,
  noBlk,
  noBlk,
  noBlk,
  noBlk,
  noBlk,
  ⟨[1, 2, 3], ⟨[(true, .box [.pl (.prod (.list (.prod .bool (.prod .str (.prod (.list (.prod .str (.int .i64))) (.prod .str (.prod (.int .i64) (.prod (.list (.prod .str (.int .i64))) (.prod (.list (.prod .str (.list (.prod (.int .i64) (.prod (.int .i64) (.prod (.int .i64) (.prod (.int .i64) (.prod (.int .i64) .str)))))))) (.list (.prod (.int .i64) (.prod .str (.prod (.int .i64) (.prod (.list (.prod (.int .i64) (.prod (.int .i64) (.prod (.int .i64) (.prod (.int .i64) (.prod (.int .i64) .str)))))) (.prod (.list (.prod (.int .i64) (.prod (.int .i64) (.prod (.int .i64) (.prod (.int .i64) (.prod (.int .i64) .str)))))) (.list (.list (.prod (.int .i64) (.prod (.int .i64) (.prod (.int .i64) (.prod (.int .i64) (.prod (.int .i64) .str))))))))))))))))))))) (.prod .str .str))]), (true, .box [.pl (.prod (.int .i64) (.int .i64))])], [.one (.ptr 0 0), .one (.ptr 1 0), .one (.pl (.int .i64))]⟩, [2], [(.ret, [], ⟨[(true, .box [.pl (.prod (.list (.prod .bool (.prod .str (.prod (.list (.prod .str (.int .i64))) (.prod .str (.prod (.int .i64) (.prod (.list (.prod .str (.int .i64))) (.prod (.list (.prod .str (.list (.prod (.int .i64) (.prod (.int .i64) (.prod (.int .i64) (.prod (.int .i64) (.prod (.int .i64) .str)))))))) (.list (.prod (.int .i64) (.prod .str (.prod (.int .i64) (.prod (.list (.prod (.int .i64) (.prod (.int .i64) (.prod (.int .i64) (.prod (.int .i64) (.prod (.int .i64) .str)))))) (.prod (.list (.prod (.int .i64) (.prod (.int .i64) (.prod (.int .i64) (.prod (.int .i64) (.prod (.int .i64) .str)))))) (.list (.list (.prod (.int .i64) (.prod (.int .i64) (.prod (.int .i64) (.prod (.int .i64) (.prod (.int .i64) .str))))))))))))))))))))) (.prod .str .str))]), (true, .box [.pl (.prod (.int .i64) (.int .i64))])], []⟩), (.norm, [], ⟨[(true, .box [.pl (.prod (.list (.prod .bool (.prod .str (.prod (.list (.prod .str (.int .i64))) (.prod .str (.prod (.int .i64) (.prod (.list (.prod .str (.int .i64))) (.prod (.list (.prod .str (.list (.prod (.int .i64) (.prod (.int .i64) (.prod (.int .i64) (.prod (.int .i64) (.prod (.int .i64) .str)))))))) (.list (.prod (.int .i64) (.prod .str (.prod (.int .i64) (.prod (.list (.prod (.int .i64) (.prod (.int .i64) (.prod (.int .i64) (.prod (.int .i64) (.prod (.int .i64) .str)))))) (.prod (.list (.prod (.int .i64) (.prod (.int .i64) (.prod (.int .i64) (.prod (.int .i64) (.prod (.int .i64) .str)))))) (.list (.list (.prod (.int .i64) (.prod (.int .i64) (.prod (.int .i64) (.prod (.int .i64) (.prod (.int .i64) .str))))))))))))))))))))) (.prod .str .str))]), (true, .box [.pl (.prod (.int .i64) (.int .i64))])], []⟩)]⟩,
  ⟨[4, 5, 6], ⟨[(true, .box [.pl (.prod .bool (.prod .str (.prod (.list (.prod .str (.int .i64))) (.prod .str (.prod (.int .i64) (.prod (.list (.prod .str (.int .i64))) (.prod (.list (.prod .str (.list (.prod (.int .i64) (.prod (.int .i64) (.prod (.int .i64) (.prod (.int .i64) (.prod (.int .i64) .str)))))))) (.list (.prod (.int .i64) (.prod .str (.prod (.int .i64) (.prod (.list (.prod (.int .i64) (.prod (.int .i64) (.prod (.int .i64) (.prod (.int .i64) (.prod (.int .i64) .str)))))) (.prod (.list (.prod (.int .i64) (.prod (.int .i64) (.prod (.int .i64) (.prod (.int .i64) (.prod (.int .i64) .str)))))) (.list (.list (.prod (.int .i64) (.prod (.int .i64) (.prod (.int .i64) (.prod (.int .i64) (.prod (.int .i64) .str))))))))))))))))))))]), (false, .arr (.list (.prod (.int .i64) (.prod (.int .i64) (.prod (.int .i64) (.prod (.int .i64) (.prod (.int .i64) .str)))))))], [.one (.ptr 0 0), .one (.sl 1), .one (.pl (.int .i64))]⟩, [1, 2, 3, 4], [(.norm, [5], ⟨[(true, .box [.pl (.prod .bool (.prod .str (.prod (.list (.prod .str (.int .i64))) (.prod .str (.prod (.int .i64) (.prod (.list (.prod .str (.int .i64))) (.prod (.list (.prod .str (.list (.prod (.int .i64) (.prod (.int .i64) (.prod (.int .i64) (.prod (.int .i64) (.prod (.int .i64) .str)))))))) (.list (.prod (.int .i64) (.prod .str (.prod (.int .i64) (.prod (.list (.prod (.int .i64) (.prod (.int .i64) (.prod (.int .i64) (.prod (.int .i64) (.prod (.int .i64) .str)))))) (.prod (.list (.prod (.int .i64) (.prod (.int .i64) (.prod (.int .i64) (.prod (.int .i64) (.prod (.int .i64) .str)))))) (.list (.list (.prod (.int .i64) (.prod (.int .i64) (.prod (.int .i64) (.prod (.int .i64) (.prod (.int .i64) .str))))))))))))))))))))]), (true, .gone), (true, .arr (.list (.prod (.int .i64) (.prod (.int .i64) (.prod (.int .i64) (.prod (.int .i64) (.prod (.int .i64) .str)))))))], [.one (.sl 2)]⟩)]⟩,
  ⟨[4, 5, 7], ⟨[(true, .box [.pl (.prod .bool (.prod .str (.prod (.list (.prod .str (.int .i64))) (.prod .str (.prod (.int .i64) (.prod (.list (.prod .str (.int .i64))) (.prod (.list (.prod .str (.list (.prod (.int .i64) (.prod (.int .i64) (.prod (.int .i64) (.prod (.int .i64) (.prod (.int .i64) .str)))))))) (.list (.prod (.int .i64) (.prod .str (.prod (.int .i64) (.prod (.list (.prod (.int .i64) (.prod (.int .i64) (.prod (.int .i64) (.prod (.int .i64) (.prod (.int .i64) .str)))))) (.prod (.list (.prod (.int .i64) (.prod (.int .i64) (.prod (.int .i64) (.prod (.int .i64) (.prod (.int .i64) .str)))))) (.list (.list (.prod (.int .i64) (.prod (.int .i64) (.prod (.int .i64) (.prod (.int .i64) (.prod (.int .i64) .str))))))))))))))))))))]), (false, .arr (.list (.prod (.int .i64) (.prod (.int .i64) (.prod (.int .i64) (.prod (.int .i64) (.prod (.int .i64) .str)))))))], [.one (.ptr 0 0), .one (.sl 1), .one (.pl (.int .i64))]⟩, [1, 2, 3], [(.norm, [5], ⟨[(true, .box [.pl (.prod .bool (.prod .str (.prod (.list (.prod .str (.int .i64))) (.prod .str (.prod (.int .i64) (.prod (.list (.prod .str (.int .i64))) (.prod (.list (.prod .str (.list (.prod (.int .i64) (.prod (.int .i64) (.prod (.int .i64) (.prod (.int .i64) (.prod (.int .i64) .str)))))))) (.list (.prod (.int .i64) (.prod .str (.prod (.int .i64) (.prod (.list (.prod (.int .i64) (.prod (.int .i64) (.prod (.int .i64) (.prod (.int .i64) (.prod (.int .i64) .str)))))) (.prod (.list (.prod (.int .i64) (.prod (.int .i64) (.prod (.int .i64) (.prod (.int .i64) (.prod (.int .i64) .str)))))) (.list (.list (.prod (.int .i64) (.prod (.int .i64) (.prod (.int .i64) (.prod (.int .i64) (.prod (.int .i64) .str))))))))))))))))))))]), (true, .gone), (true, .arr (.list (.prod (.int .i64) (.prod (.int .i64) (.prod (.int .i64) (.prod (.int .i64) (.prod (.int .i64) .str)))))))], [.one (.sl 2)]⟩)]⟩,
  ⟨[5, 8], ⟨[(true, .arr (.list (.prod (.int .i64) (.prod (.int .i64) (.prod (.int .i64) (.prod (.int .i64) (.prod (.int .i64) .str))))))), (true, .box [.pl (.prod (.int .i64) (.prod .str (.prod (.int .i64) (.prod (.list (.prod (.int .i64) (.prod (.int .i64) (.prod (.int .i64) (.prod (.int .i64) (.prod (.int .i64) .str)))))) (.prod (.list (.prod (.int .i64) (.prod (.int .i64) (.prod (.int .i64) (.prod (.int .i64) (.prod (.int .i64) .str)))))) (.list (.list (.prod (.int .i64) (.prod (.int .i64) (.prod (.int .i64) (.prod (.int .i64) (.prod (.int .i64) .str))))))))))))])], [.one (.sl 0), .one (.ptr 1 0)]⟩, [4, 7], [(.norm, [5], ⟨[(true, .gone), (true, .box [.pl (.prod (.int .i64) (.prod .str (.prod (.int .i64) (.prod (.list (.prod (.int .i64) (.prod (.int .i64) (.prod (.int .i64) (.prod (.int .i64) (.prod (.int .i64) .str)))))) (.prod (.list (.prod (.int .i64) (.prod (.int .i64) (.prod (.int .i64) (.prod (.int .i64) (.prod (.int .i64) .str)))))) (.list (.list (.prod (.int .i64) (.prod (.int .i64) (.prod (.int .i64) (.prod (.int .i64) (.prod (.int .i64) .str))))))))))))]), (true, .arr (.list (.prod (.int .i64) (.prod (.int .i64) (.prod (.int .i64) (.prod (.int .i64) (.prod (.int .i64) .str)))))))], [.one (.sl 2)]⟩)]⟩,
  ⟨[5, 8, 9], ⟨[(false, .arr (.list (.prod (.int .i64) (.prod (.int .i64) (.prod (.int .i64) (.prod (.int .i64) (.prod (.int .i64) .str))))))), (true, .box [.pl (.prod (.int .i64) (.prod .str (.prod (.int .i64) (.prod (.list (.prod (.int .i64) (.prod (.int .i64) (.prod (.int .i64) (.prod (.int .i64) (.prod (.int .i64) .str)))))) (.prod (.list (.prod (.int .i64) (.prod (.int .i64) (.prod (.int .i64) (.prod (.int .i64) (.prod (.int .i64) .str)))))) (.list (.list (.prod (.int .i64) (.prod (.int .i64) (.prod (.int .i64) (.prod (.int .i64) (.prod (.int .i64) .str))))))))))))])], [.one (.sl 0), .one (.ptr 1 0), .one (.pl (.int .i64))]⟩, [], [(.norm, [5], ⟨[(true, .gone), (true, .box [.pl (.prod (.int .i64) (.prod .str (.prod (.int .i64) (.prod (.list (.prod (.int .i64) (.prod (.int .i64) (.prod (.int .i64) (.prod (.int .i64) (.prod (.int .i64) .str)))))) (.prod (.list (.prod (.int .i64) (.prod (.int .i64) (.prod (.int .i64) (.prod (.int .i64) (.prod (.int .i64) .str)))))) (.list (.list (.prod (.int .i64) (.prod (.int .i64) (.prod (.int .i64) (.prod (.int .i64) (.prod (.int .i64) .str))))))))))))]), (true, .arr (.list (.prod (.int .i64) (.prod (.int .i64) (.prod (.int .i64) (.prod (.int .i64) (.prod (.int .i64) .str)))))))], [.one (.sl 2)]⟩)]⟩,
  ⟨[2, 3, 5, 10], ⟨[(true, .box [.pl (.prod (.int .i64) (.int .i64))]), (true, .arr (.list (.prod (.int .i64) (.prod (.int .i64) (.prod (.int .i64) (.prod (.int .i64) (.prod (.int .i64) .str)))))))], [.one (.ptr 0 0), .one (.pl (.int .i64)), .one (.sl 1), .one (.pl (.int .i64))]⟩, [1, 2, 3], [(.ret, [], ⟨[(true, .box [.pl (.prod (.int .i64) (.int .i64))]), (true, .arr (.list (.prod (.int .i64) (.prod (.int .i64) (.prod (.int .i64) (.prod (.int .i64) (.prod (.int .i64) .str)))))))], []⟩), (.norm, [], ⟨[(true, .box [.pl (.prod (.int .i64) (.int .i64))]), (true, .arr (.list (.prod (.int .i64) (.prod (.int .i64) (.prod (.int .i64) (.prod (.int .i64) (.prod (.int .i64) .str)))))))], []⟩)]⟩,
  ⟨[0, 3], ⟨[], [.one (.pl (.list (.prod (.int .i64) (.prod (.int .i64) (.prod (.int .i64) (.prod (.int .i64) (.prod (.int .i64) .str))))))), .one (.pl (.int .i64))]⟩, [0], [(.ret, [2], ⟨[], [.one (.pl .bool)]⟩), (.norm, [], ⟨[], []⟩)]⟩,
  noBlk,
  ⟨[0, 2, 7, 8, 9], ⟨[(false, .arr (.prod (.int .i64) (.prod (.int .i64) (.prod (.int .i64) (.prod (.int .i64) (.prod (.int .i64) .str)))))), (true, .arr (.int .i64)), (false, .arr (.int .i64))], [.one (.pl (.list (.prod (.int .i64) (.prod (.int .i64) (.prod (.int .i64) (.prod (.int .i64) (.prod (.int .i64) .str))))))), .one (.sl 0), .one (.sl 1), .one (.sl 2), .one (.pl (.int .i64))]⟩, [0, 1, 6], [(.norm, [2, 8], ⟨[(true, .gone), (true, .arr (.int .i64)), (true, .gone), (true, .arr (.prod (.int .i64) (.prod (.int .i64) (.prod (.int .i64) (.prod (.int .i64) (.prod (.int .i64) .str)))))), (true, .arr (.int .i64))], [.one (.sl 3), .one (.sl 4)]⟩)]⟩,
  ⟨[0, 4, 7], ⟨[], [.one (.pl (.list (.prod (.int .i64) (.prod (.int .i64) (.prod (.int .i64) (.prod (.int .i64) (.prod (.int .i64) .str))))))), .one (.pl (.int .i64)), .one (.pl (.int .i64))]⟩, [], [(.ret, [2], ⟨[], [.one (.pl .bool)]⟩), (.norm, [], ⟨[], []⟩)]⟩]
  lkL := [(3, [(0, 8), (2, 9)]), (4, [(0, 2), (2, 4)]), (6, [(0, 3)]), (9, [(0, 5)]), (11, [(0, 6)]), (12, [(0, 7)]), (17, [(0, 26)]), (18, [(0, 24)]), (19, [(0, 22)]), (21, [(0, 20)]), (22, [(0, 18)]), (27, [(0, 14)]), (30, [(0, 13)]), (36, [(0, 16)]), (42, [(0, 34), (2, 35)]), (43, [(0, 55)]), (44, [(0, 38), (2, 41)]), (49, [(0, 42)]), (51, [(0, 49), (2, 50)]), (52, [(0, 52)]), (53, [(0, 83)]), (65, [(0, 59)]), (69, [(0, 64)]), (73, [(0, 63)]), (74, [(0, 66)]), (75, [(0, 68)]), (76, [(0, 85)]), (77, [(0, 91), (2, 92), (4, 93)]), (78, [(0, 98)]), (79, [(0, 94), (2, 95), (4, 97)]), (82, [(0, 96)]), (83, [(0, 99)]), (85, [(0, 100), (2, 101), (4, 102), (6, 103)]), (86, [(0, 116), (2, 117), (4, 118), (6, 120), (8, 121)]), (89, [(0, 122)]), (90, [(0, 125)]), (93, [(0, 124)])]
  tkL := [(14, [(3, 37)]), (45, [(9, 39), (10, 40)]), (53, [(15, 84)]), (72, [(4, 61)]), (86, [(16, 119)])]
  dkL := [(2, [(3, ([3], (.take 0 (.take 1 (.only 2 .done))))), (6, ([3], (.take 0 (.take 1 (.only 2 .done))))), (8, ([3], (.take 0 (.take 1 (.take 2 (.take 3 (.take 4 (.take 5 (.take 6 (.only 7 .done))))))))))]),
  (12, [(5, ([], (.take 0 (.take 1 (.take 2 (.take 3 (.take 4 (.take 5 (.take 6 (.take 7 (.take 8 (.take 9 (.take 10 (.take 11 (.take 12 (.take 13 (.take 14 (.take 15 (.take 16 (.take 17 (.take 18 (.take 19 (.take 20 (.take 21 .done))))))))))))))))))))))))]),
  (14, [(6, ([6], (.take 0 (.take 1 (.take 2 (.take 3 (.take 4 (.take 5 (.only 6 .done))))))))), (11, ([6], (.take 0 (.take 1 (.take 2 (.take 3 (.take 4 (.take 5 (.take 6 (.take 7 (.only 8 .done)))))))))))]),
  (23, [(5, ([], (.take 0 (.take 1 (.take 2 (.take 3 (.take 4 (.take 5 (.take 6 (.take 7 (.take 8 (.take 9 .done)))))))))))), (8, ([], (.take 0 (.take 1 (.take 2 (.take 3 (.take 4 (.take 5 (.take 6 (.take 7 (.take 8 (.take 9 (.only 10 (.only 11 .done))))))))))))))]),
  (24, [(2, ([0], (.take 0 (.take 1 (.take 2 (.take 3 (.take 4 (.take 6 (.take 7 (.take 8 (.alt 5 (.only 9 (.only 10 (.take 11 (.take 12 (.take 13 (.only 14 .done)))))) (.only 9 (.only 5 (.only 10 (.take 11 (.take 12 (.take 13 (.only 14 .done))))))))))))))))))]),
  (35, [(1, ([], (.take 0 (.take 1 (.take 2 (.take 3 (.take 4 (.take 5 (.take 6 (.take 7 (.take 8 (.take 9 (.take 10 (.take 11 (.take 12 (.take 13 (.take 14 (.take 15 (.take 16 (.take 17 .done)))))))))))))))))))), (3, ([], (.take 0 (.take 1 (.take 2 (.take 3 (.take 4 (.take 5 (.take 6 (.take 7 (.take 8 (.take 9 (.only 10 (.only 11 .done))))))))))))))]),
  (39, [(2, ([], (.take 0 (.take 1 (.take 2 (.take 3 (.take 4 (.take 5 (.take 6 (.take 7 (.take 8 (.take 9 (.take 10 (.take 11 (.take 12 (.take 13 (.take 14 (.take 15 (.take 16 (.take 17 (.take 18 (.take 19 (.take 20 (.take 21 (.take 22 (.take 23 (.take 24 (.take 25 (.take 26 (.take 27 (.take 28 (.take 29 (.take 30 (.take 31 (.take 32 (.take 33 (.take 34 (.take 35 (.only 36 (.take 37 (.take 38 .done))))))))))))))))))))))))))))))))))))))))), (4, ([], (.take 0 (.take 1 (.take 2 (.take 3 (.take 4 (.take 5 (.take 6 (.take 7 (.take 8 (.take 9 (.take 10 (.only 11 (.take 12 .done)))))))))))))))]),
  (42, [(11, ([3], (.take 0 (.take 1 (.take 2 (.take 3 (.take 4 (.take 6 (.take 7 (.take 8 (.take 9 (.take 10 (.take 11 (.alt 5 (.only 12 (.take 13 (.take 14 (.take 15 (.only 16 .done))))) (.only 12 (.take 13 (.only 5 (.take 14 (.take 15 (.only 16 .done))))))))))))))))))))]),
  (43, [(22, ([4, 24], (.take 1 (.take 2 (.take 3 (.alt 0 (.only 4 (.take 5 (.take 6 (.only 7 .done)))) (.only 4 (.take 5 (.only 0 (.take 6 (.only 7 .done)))))))))))]),
  (45, [(9, ([], (.take 0 (.take 1 (.take 2 (.take 3 (.take 4 (.take 5 (.take 6 (.take 7 (.alt 8 (.alt 9 (.only 10 (.only 11 .done)) (.only 10 (.only 9 (.only 11 .done)))) (.only 10 (.only 8 (.only 9 (.only 11 .done)))))))))))))))]),
  (47, [(2, ([2], (.take 0 (.take 1 (.take 2 (.take 3 (.take 4 (.take 5 (.take 6 (.only 7 (.take 8 (.only 9 .done))))))))))))]),
  (51, [(9, ([3], (.take 0 (.take 1 (.take 2 (.take 3 (.take 4 (.take 6 (.take 7 (.take 8 (.alt 5 (.only 9 (.take 10 (.take 11 (.only 12 .done)))) (.only 9 (.only 5 (.take 10 (.take 11 (.only 12 .done))))))))))))))))]),
  (53, [(3, ([2, 3], (.take 0 (.take 1 (.only 2 (.only 3 .done)))))), (8, ([6, 7, 30], (.take 0 (.take 2 (.alt 1 (.only 3 (.only 4 (.only 5 (.take 6 (.only 7 .done))))) (.only 3 (.alt 1 (.only 4 (.only 5 (.take 6 (.only 7 .done)))) (.only 4 (.only 1 (.only 5 (.take 6 (.only 7 .done)))))))))))), (15, ([6], (.take 0 (.only 1 (.take 2 (.take 3 (.take 4 (.take 5 (.take 7 (.take 8 (.take 9 (.alt 6 (.only 10 (.take 11 (.take 12 (.take 13 .done)))) (.only 10 (.take 11 (.only 6 (.take 12 (.take 13 .done))))))))))))))))), (18, ([2, 3], (.take 0 (.take 1 (.take 2 (.take 3 (.take 4 (.only 5 (.only 6 .done)))))))))]),
  (54, [(1, ([0], (.take 0 (.only 1 (.take 2 (.take 3 (.take 4 (.take 5 (.take 6 (.take 8 (.take 9 (.take 10 (.alt 7 (.only 11 (.take 12 (.take 13 (.take 14 .done)))) (.only 11 (.take 12 (.only 7 (.take 13 (.take 14 .done)))))))))))))))))), (3, ([], (.take 0 (.take 1 (.take 2 (.take 3 (.take 4 (.take 5 (.take 6 (.take 7 (.take 8 (.take 9 (.only 10 (.only 11 .done))))))))))))))]),
  (57, [(1, ([0], (.take 0 (.take 1 (.take 2 (.take 3 (.take 4 (.take 6 (.take 7 (.take 8 (.alt 5 (.only 9 (.only 10 (.take 11 (.take 12 (.take 13 (.only 14 .done)))))) (.only 9 (.only 5 (.only 10 (.take 11 (.take 12 (.take 13 (.only 14 .done))))))))))))))))))]),
  (60, [(1, ([0], (.take 0 (.only 1 (.take 2 (.take 3 (.take 4 (.take 5 (.take 6 (.take 8 (.take 9 (.take 10 (.alt 7 (.only 11 (.take 12 (.take 13 (.take 14 .done)))) (.only 11 (.take 12 (.only 7 (.take 13 (.take 14 .done)))))))))))))))))), (3, ([], (.take 0 (.take 1 (.take 2 (.take 3 (.take 4 (.take 5 (.take 6 (.take 7 (.take 8 (.take 9 (.only 10 (.only 11 .done))))))))))))))]),
  (62, [(5, ([], (.take 0 (.take 1 (.take 2 (.take 3 (.take 4 (.take 5 (.take 6 (.take 7 (.take 8 (.take 9 (.take 10 (.take 11 (.take 12 .done)))))))))))))))]),
  (63, [(1, ([0], (.take 0 (.only 1 (.take 2 (.take 3 (.take 4 (.take 5 (.take 7 (.take 8 (.take 9 (.alt 6 (.only 10 (.take 11 (.take 12 (.take 13 (.take 14 (.take 15 (.take 16 (.take 17 (.take 19 (.take 20 (.take 21 (.alt 18 (.only 22 (.take 23 (.take 24 (.take 25 (.take 26 (.take 27 (.take 28 .done))))))) (.only 22 (.only 18 (.take 23 (.take 24 (.take 25 (.take 26 (.take 27 (.take 28 .done)))))))))))))))))))) (.only 10 (.take 11 (.only 6 (.take 12 (.take 13 (.take 14 (.take 15 (.take 16 (.take 17 (.take 19 (.take 20 (.take 21 (.alt 18 (.only 22 (.take 23 (.take 24 (.take 25 (.take 26 (.take 27 (.take 28 .done))))))) (.only 22 (.only 18 (.take 23 (.take 24 (.take 25 (.take 26 (.take 27 (.take 28 .done)))))))))))))))))))))))))))))))))]),
  (64, [(1, ([0], (.take 0 (.take 1 (.take 2 (.take 3 (.take 4 (.take 6 (.take 7 (.take 8 (.alt 5 (.only 9 (.only 10 (.take 11 (.take 12 (.take 13 (.only 14 .done)))))) (.only 9 (.only 5 (.only 10 (.take 11 (.take 12 (.take 13 (.only 14 .done))))))))))))))))))]),
  (72, [(3, ([], (.take 0 (.take 1 (.take 2 (.take 3 (.take 4 (.take 5 (.take 6 (.take 7 (.alt 8 (.take 9 (.take 10 (.take 11 (.take 12 (.only 13 (.take 14 (.take 15 (.only 16 .done)))))))) (.only 13 (.only 8 (.take 9 (.take 10 (.take 11 (.take 12 (.take 14 (.take 15 (.only 16 .done))))))))))))))))))))]),
  (77, [(12, ([3], (.take 0 (.take 1 (.take 2 (.take 3 (.take 4 (.take 7 (.take 8 (.only 5 (.only 6 (.only 9 (.take 10 .done)))))))))))))]),
  (84, [(3, ([], (.take 0 (.take 2 (.only 1 (.only 3 (.take 4 (.take 5 (.only 6 (.take 7 (.take 8 .done)))))))))))])]
  fnumL := [3, 9, 20, 36, 50, 62, 63, 64, 65, 73, 79, 74, 66, 75, 37, 51, 67, 76, 80, 81, 82, 83, 84, 85, 86, 52, 87, 17, 32, 30, 33, 49, 34, 88, 68, 77, 93, 91, 89, 90, 92, 69, 16, 10, 22, 46, 24, 59, 47, 60, 48, 61, 23, 21, 38, 44, 39, 45, 40, 43, 38, 44, 42, 58, 45, 53, 41, 39, 55, 54, 70, 71, 72, 78, 56, 57, 13, 26, 11, 15, 28, 29, 31, 25, 4, 12, 14, 27, 5, 6, 7, 18, 19, 35, 8]
  fnL := [Try.f3, Try.f9, Try.f20, Try.f36, Try.f50, Try.f62, Try.f63, Try.f64, Try.f65, Try.f73, Try.f79, Try.f74, Try.f66, Try.f75, Try.f37, Try.f51, Try.f67, Try.f76, Try.f80, Try.f81, Try.f82, Try.f83, Try.f84, Try.f85, Try.f86, Try.f52, Try.f87, Try.f17, Try.f32, Try.f30, Try.f33, Try.f49, Try.f34, Try.f88, Try.f68, Try.f77, Try.f93, Try.f91, Try.f89, Try.f90, Try.f92, Try.f69, Try.f16, Try.f10, Try.f22, Try.f46, Try.f24, Try.f59, Try.f47, Try.f60, Try.f48, Try.f61, Try.f23, Try.f21, Try.f38, Try.f44, Try.f39, Try.f45, Try.f40, Try.f43, Try.f38, Try.f44, Try.f42, Try.f58, Try.f45, Try.f53, Try.f41, Try.f39, Try.f55, Try.f54, Try.f70, Try.f71, Try.f72, Try.f78, Try.f56, Try.f57, Try.f13, Try.f26, Try.f11, Try.f15, Try.f28, Try.f29, Try.f31, Try.f25, Try.f4, Try.f12, Try.f14, Try.f27, Try.f5, Try.f6, Try.f7, Try.f18, Try.f19, Try.f35, Try.f8]
  placeL := [(0, []), (0, []), (4, [true, true, false, true, false, false]), (6, [true, true, false, true]), (4, [true, true, true, false, true, false, false]), (9, [true, true, false, true]), (11, [true, true, false, true]), (12, [true, true, false, true]), (3, [true, true, true, true, false]), (3, [true, true, true, true, false, false, false, true, false, true, false, true, false, false]), (0, []), (0, []), (0, []), (30, [true, true, false, true]), (27, [true, true, true, true, true, true, true, false, true]), (0, []), (36, [true, true, true, false]), (0, []), (22, [true, true, false]), (0, []), (21, [true, true, false]), (0, []), (19, [true, true, false]), (0, []), (18, [true, true, false]), (0, []), (17, [true, true, false]), (0, []), (0, []), (0, []), (0, []), (0, []), (0, []), (0, []), (42, [true, true, false, true]), (42, [true, true, false, true, false, false, true, false, false, true, true, true]), (0, []), (14, [true, true]), (44, [true, true, true, false, true]), (45, [true, true, true]), (45, [true, true, true, true]), (44, [true, true, true, false, true, false, false, true, true, false, false, true, true, true]), (49, [true, false, true]), (0, []), (0, []), (0, []), (0, []), (0, []), (0, []), (51, [true, true, false, true]), (51, [true, true, false, true, false, false, true, true, false, false, true, false, true]), (0, []), (52, [true, false, true]), (0, []), (0, []), (43, [true, true, true, true, false, true]), (0, []), (0, []), (0, []), (65, [true, true, true, true, false]), (0, []), (72, [true, true, true]), (0, []), (73, [true, true, true, true, false]), (69, [true, true, false]), (0, []), (74, [true, true, false]), (0, []), (75, [true, true, false]), (0, []), (0, []), (0, []), (0, []), (0, []), (0, []), (0, []), (0, []), (0, []), (0, []), (0, []), (0, []), (0, []), (0, []), (53, [true, true, true, true, true, false]), (53, [true, true, true, true, true, true, true, true, true, true]), (76, [true, false, true]), (0, []), (0, []), (0, []), (0, []), (0, []), (77, [true, true, false, true]), (77, [true, true, true, false, true]), (77, [true, true, true, true, false, true]), (79, [true, true, true, false, true]), (79, [true, true, true, false, true, false, false, true, false, false, true, true, false, true]), (82, [true, true, true, false, true]), (79, [true, true, true, true, false, true]), (78, [true, true, true, false, true]), (83, [true, true, true, true, false, true]), (85, [true, true, false, true]), (85, [true, true, false, true, false, false, true, false, false, true, true, false, true]), (85, [true, true, false, true, false, false, true, false, false, true, true, true, true]), (85, [true, true, false, true, false, false, true, false, false, true, true, true, true, false, false, true, false, false, true, true, true]), (0, []), (0, []), (0, []), (0, []), (0, []), (0, []), (0, []), (0, []), (0, []), (0, []), (0, []), (0, []), (86, [true, false, true]), (86, [true, false, true, false, false, true, false, false, true, true, false, true]), (86, [true, false, true, false, false, true, false, false, true, true, true, false, true]), (86, [true, false, true, false, false, true, false, false, true, true, true, false, true, false, false, true, false, false, true, true]), (86, [true, false, true, false, false, true, false, false, true, true, true, false, true, false, false, true, false, false, true, true, true, true]), (86, [true, false, true, false, false, true, false, false, true, true, true, true, true]), (89, [true, true, false, true]), (0, []), (93, [true, true, true, false, true]), (90, [true, true, true, true, true, false, true])] }
noncomputable def T : Tbl := tabs.tbl fun _ _ => none

noncomputable def c0 (rf : T.RF) (d1 : List (Int × Int × Int × Int × Int × List UInt8)) : Option Bool := rf 0 d1
noncomputable def c1 (rf : T.RF) : Option Bool := rf 1 ()
noncomputable def c2 (rf : T.RF) (d1 : List UInt8) : Option (List (Int × Int × Int × Int × Int × List UInt8) × Int × Int) := rf 2 d1
noncomputable def c3 (rf : T.RF) (d1 : List UInt8) : Option (List (Int × List UInt8 × Int) × Int × Int) := rf 3 d1
noncomputable def c4 (rf : T.RF) (d1 : List UInt8) (d2 : Int) : Option ((Int × List UInt8 × Int) × Int) := rf 4 (d1, d2)
noncomputable def c5 (rf : T.RF) (d1 : Int) : Option Bool := rf 5 d1
noncomputable def c6 (rf : T.RF) (d1 : List UInt8) : Option Int := rf 6 d1
noncomputable def c7 (rf : T.RF) (d1 : Int) : Option Bool := rf 7 d1
noncomputable def c8 (rf : T.RF) (d1 : List UInt8) (d2 : Int) : Option ((Int × List UInt8 × Int) × Int) := rf 8 (d1, d2)
noncomputable def c9 (rf : T.RF) (d1 : List UInt8) : Option Bool := rf 9 d1
noncomputable def c10 (rf : T.RF) : Option (List (List UInt8)) := rf 10 ()
noncomputable def c11 (rf : T.RF) (d1 : List UInt8) : Option Bool := rf 11 d1
noncomputable def c12 (rf : T.RF) (d1 : List UInt8) : Option (List UInt8) := rf 12 d1
noncomputable def c13 (rf : T.RF) : Option (List (List UInt8)) := rf 13 ()
noncomputable def c14 (rf : T.RF) (d1 : List (Int × List UInt8 × Int)) (d2 : Int) : Option (List (Int × Int × Int × Int × Int × List UInt8) × Int × Int × Int) := rf 14 (d1, d2)
noncomputable def c15 (rf : T.RF) (d1 : List (Int × List UInt8 × Int) × Int × Int × Int × Int) : Option ((List (Int × List UInt8 × Int) × Int × Int × Int × Int) × List (Int × Int × Int × Int × Int × List UInt8)) := rf 15 d1
noncomputable def c16 (rf : T.RF) (d1 : List (Int × List UInt8 × Int) × Int × Int × Int × Int) : Option ((List (Int × List UInt8 × Int) × Int × Int × Int × Int) × List (Int × Int × Int × Int × Int × List UInt8)) := rf 16 d1
noncomputable def c17 (rf : T.RF) (d1 : List (Int × List UInt8 × Int) × Int × Int × Int × Int) : Option ((List (Int × List UInt8 × Int) × Int × Int × Int × Int) × List (Int × Int × Int × Int × Int × List UInt8)) := rf 17 d1
noncomputable def c18 (rf : T.RF) (d1 : List (Int × List UInt8 × Int) × Int × Int × Int × Int) : Option ((List (Int × List UInt8 × Int) × Int × Int × Int × Int) × List (Int × Int × Int × Int × Int × List UInt8)) := rf 18 d1
noncomputable def c19 (rf : T.RF) (d1 : List (Int × List UInt8 × Int) × Int × Int × Int × Int) : Option ((List (Int × List UInt8 × Int) × Int × Int × Int × Int) × List (Int × Int × Int × Int × Int × List UInt8)) := rf 19 d1
noncomputable def c20 (rf : T.RF) (d1 : List (Int × List UInt8 × Int) × Int × Int × Int × Int) : Option ((List (Int × List UInt8 × Int) × Int × Int × Int × Int) × List (Int × Int × Int × Int × Int × List UInt8)) := rf 20 d1
noncomputable def c21 (rf : T.RF) (d1 : List (Int × List UInt8 × Int) × Int × Int × Int × Int) : Option ((List (Int × List UInt8 × Int) × Int × Int × Int × Int) × List (Int × Int × Int × Int × Int × List UInt8)) := rf 21 d1
noncomputable def c22 (rf : T.RF) (d1 : List (Int × List UInt8 × Int) × Int × Int × Int × Int) : Option ((List (Int × List UInt8 × Int) × Int × Int × Int × Int) × List (Int × Int × Int × Int × Int × List UInt8)) := rf 22 d1
noncomputable def c23 (rf : T.RF) (d1 : List (Int × List UInt8 × Int) × Int × Int × Int × Int) : Option ((List (Int × List UInt8 × Int) × Int × Int × Int × Int) × List (Int × Int × Int × Int × Int × List UInt8)) := rf 23 d1
noncomputable def c24 (rf : T.RF) (d1 : List (Int × List UInt8 × Int) × Int × Int × Int × Int) (d2 : Int) : Option ((List (Int × List UInt8 × Int) × Int × Int × Int × Int) × List (Int × Int × Int × Int × Int × List UInt8)) := rf 24 (d1, d2)
noncomputable def c25 (rf : T.RF) (d1 : List (Int × List UInt8 × Int)) (d2 : Int) : Option Int := rf 25 (d1, d2)
noncomputable def c26 (rf : T.RF) (d1 : List (Int × List UInt8 × Int) × Int × Int × Int × Int) (d2 : Int × List UInt8 × Int) : Option ((List (Int × List UInt8 × Int) × Int × Int × Int × Int) × List (Int × Int × Int × Int × Int × List UInt8)) := rf 26 (d1, d2)
noncomputable def c27 (rf : T.RF) (d1 : Int) (d2 : Int) (d3 : List UInt8) (d4 : List (List (Int × Int × Int × Int × Int × List UInt8))) : Option (List (Int × Int × Int × Int × Int × List UInt8)) := rf 27 (d1, d2, d3, d4)
noncomputable def c28 (rf : T.RF) (d1 : Int) (d2 : Int) (d3 : List UInt8) : Option (Int × Int × Int × Int × Int × List UInt8) := rf 28 (d1, d2, d3)
noncomputable def c29 (rf : T.RF) (d1 : Int × Int × Int × Int × Int × List UInt8) : Option (List Int) := rf 29 d1
noncomputable def c30 (rf : T.RF) (d1 : List (Int × Int × Int × Int × Int × List UInt8)) (d2 : List (Int × Int × Int × Int × Int × List UInt8)) : Option (List (Int × Int × Int × Int × Int × List UInt8)) := rf 30 (d1, d2)
noncomputable def c31 (rf : T.RF) (d1 : Int × Int × Int × Int × Int × List UInt8) (d2 : Int) : Option (Int × Int × Int × Int × Int × List UInt8) := rf 31 (d1, d2)
noncomputable def c32 (rf : T.RF) (d1 : Int × Int × Int × Int × Int × List UInt8) (d2 : List Int) : Option (Int × Int × Int × Int × Int × List UInt8) := rf 32 (d1, d2)
noncomputable def c33 (rf : T.RF) (d1 : List (Int × List UInt8 × Int) × Int × Int × Int × Int) (d2 : List UInt8) : Option ((List (Int × List UInt8 × Int) × Int × Int × Int × Int) × List (Int × Int × Int × Int × Int × List UInt8)) := rf 33 (d1, d2)
noncomputable def c34 (rf : T.RF) (d1 : List (Int × List UInt8 × Int) × Int × Int × Int × Int) (d2 : List UInt8) : Option ((List (Int × List UInt8 × Int) × Int × Int × Int × Int) × Bool) := rf 34 (d1, d2)
noncomputable def c35 (rf : T.RF) (d1 : List (Int × List UInt8 × Int) × Int × Int × Int × Int) (d2 : List UInt8) : Option ((List (Int × List UInt8 × Int) × Int × Int × Int × Int) × Bool) := rf 35 (d1, d2)
noncomputable def c36 (rf : T.RF) (d1 : List (Int × List UInt8 × Int) × Int × Int × Int × Int) : Option ((List (Int × List UInt8 × Int) × Int × Int × Int × Int) × List (List (Int × Int × Int × Int × Int × List UInt8))) := rf 36 d1
noncomputable def c37 (rf : T.RF) (d1 : List (Int × List UInt8 × Int) × Int × Int × Int × Int) (d2 : List UInt8) : Option (List (Int × List UInt8 × Int) × Int × Int × Int × Int) := rf 37 (d1, d2)
noncomputable def c38 (rf : T.RF) (d1 : List UInt8) : Option Int := rf 38 d1
noncomputable def c39 (rf : T.RF) (d1 : List (Int × List UInt8 × Int) × Int × Int × Int × Int) : Option ((List (Int × List UInt8 × Int) × Int × Int × Int × Int) × List (Int × Int × Int × Int × Int × List UInt8)) := rf 39 d1
noncomputable def c40 (rf : T.RF) (d1 : List (Int × List UInt8 × Int) × Int × Int × Int × Int) : Option ((List (Int × List UInt8 × Int) × Int × Int × Int × Int) × List (Int × Int × Int × Int × Int × List UInt8)) := rf 40 d1
noncomputable def c41 (rf : T.RF) (d1 : List (Int × List UInt8 × Int) × Int × Int × Int × Int) (d2 : Int) (d3 : List (Int × Int × Int × Int × Int × List UInt8)) (d4 : List (Int × Int × Int × Int × Int × List UInt8)) : Option ((List (Int × List UInt8 × Int) × Int × Int × Int × Int) × List (Int × Int × Int × Int × Int × List UInt8)) := rf 41 (d1, d2, d3, d4)
noncomputable def c42 (rf : T.RF) (d1 : List (Int × Int × Int × Int × Int × List UInt8)) : Option Int := rf 42 d1
noncomputable def c43 (rf : T.RF) (d1 : List (Int × Int × Int × Int × Int × List UInt8)) : Option (Int × Int) := rf 43 d1
noncomputable def c44 (rf : T.RF) (d1 : List (Int × Int × Int × Int × Int × List UInt8)) : Option Bool := rf 44 d1
noncomputable def c45 (rf : T.RF) (d1 : Int × Int × Int × Int × Int × List UInt8) : Option Bool := rf 45 d1
noncomputable def c46 (rf : T.RF) (d1 : Int × Int × Int × Int × Int × List UInt8) : Option (List Int) := rf 46 d1
noncomputable def c47 (rf : T.RF) (d1 : Int × Int × Int × Int × Int × List UInt8) (d2 : List Int) : Option (Int × Int × Int × Int × Int × List UInt8) := rf 47 (d1, d2)
noncomputable def c48 (rf : T.RF) (d1 : List Bool) (d2 : Bool) : Option Bool := rf 48 (d1, d2)
noncomputable def c49 (rf : T.RF) (d1 : List Bool) (d2 : Bool) : Option Int := rf 49 (d1, d2)
noncomputable def c50 (rf : T.RF) (d1 : List (Int × Int × Int × Int × Int × List UInt8)) : Option Int := rf 50 d1
noncomputable def c51 (rf : T.RF) (d1 : List (Int × Int × Int × Int × Int × List UInt8)) : Option (List Int) := rf 51 d1
noncomputable def c52 (rf : T.RF) (d1 : List Bool) (d2 : List Int) : Option (List Bool × Bool) := rf 52 (d1, d2)
noncomputable def c53 (rf : T.RF) (d1 : List UInt8) : Option ((List (Bool × List UInt8 × List (List UInt8 × Int) × List UInt8 × Int × List (List UInt8 × Int) × List (List UInt8 × List (Int × Int × Int × Int × Int × List UInt8)) × List (Int × List UInt8 × Int × List (Int × Int × Int × Int × Int × List UInt8) × List (Int × Int × Int × Int × Int × List UInt8) × List (List (Int × Int × Int × Int × Int × List UInt8)))) × List UInt8 × List UInt8) × Int × Int) := rf 53 d1
noncomputable def c54 (rf : T.RF) (d1 : Int) (d2 : Int) (d3 : Int) (d4 : List (Int × List UInt8 × Int)) (d5 : List UInt8) : Option (Int × Int × Int × List (Int × List UInt8 × Int) × Bool) := rf 54 (d1, d2, d3, d4, d5)
noncomputable def c55 (rf : T.RF) (d1 : Int) (d2 : Int) (d3 : Int) (d4 : List (Int × List UInt8 × Int)) : Option (Int × Int × Int × List (Int × List UInt8 × Int) × Bool) := rf 55 (d1, d2, d3, d4)
noncomputable def c56 (rf : T.RF) (d1 : Int) (d2 : Int) (d3 : Int) (d4 : List (Int × List UInt8 × Int)) (d5 : Int) : Option (List (Int × List UInt8 × Int) × Int × Int × Int) := rf 56 (d1, d2, d3, d4, d5)
noncomputable def c57 (rf : T.RF) (d1 : Int) (d2 : Int) (d3 : Int) (d4 : List (Int × List UInt8 × Int)) (d5 : Int) : Option (List (Int × List UInt8 × Int) × Int × Int × Int) := rf 57 (d1, d2, d3, d4, d5)
noncomputable def c58 (rf : T.RF) (d1 : List (Int × List UInt8 × Int) × Int × Int × Int) : Option ((List (Int × List UInt8 × Int) × Int × Int × Int) × Bool × List UInt8 × List (List UInt8 × Int) × List UInt8 × Int × List (List UInt8 × Int) × List (List UInt8 × List (Int × Int × Int × Int × Int × List UInt8)) × List (Int × List UInt8 × Int × List (Int × Int × Int × Int × Int × List UInt8) × List (Int × Int × Int × Int × Int × List UInt8) × List (List (Int × Int × Int × Int × Int × List UInt8)))) := rf 58 d1
noncomputable def c59 (rf : T.RF) (d1 : List (Int × List UInt8 × Int) × Int × Int × Int) (d2 : List UInt8) : Option ((List (Int × List UInt8 × Int) × Int × Int × Int) × Bool) := rf 59 (d1, d2)
noncomputable def c60 (rf : T.RF) (d1 : List (Int × List UInt8 × Int) × Int × Int × Int) (d2 : List UInt8) : Option ((List (Int × List UInt8 × Int) × Int × Int × Int) × Bool) := rf 60 (d1, d2)
noncomputable def c61 (rf : T.RF) (d1 : List (Int × List UInt8 × Int) × Int × Int × Int) : Option ((List (Int × List UInt8 × Int) × Int × Int × Int) × Bool) := rf 61 d1
noncomputable def c62 (rf : T.RF) (d1 : List (Int × List UInt8 × Int) × Int × Int × Int) : Option ((List (Int × List UInt8 × Int) × Int × Int × Int) × List UInt8) := rf 62 d1
noncomputable def c63 (rf : T.RF) (d1 : List (Int × List UInt8 × Int) × Int × Int × Int) : Option ((List (Int × List UInt8 × Int) × Int × Int × Int) × Bool) := rf 63 d1
noncomputable def c64 (rf : T.RF) (d1 : List (Int × List UInt8 × Int) × Int × Int × Int) (d2 : Int) : Option (List (Int × List UInt8 × Int) × Int × Int × Int) := rf 64 (d1, d2)
noncomputable def c65 (rf : T.RF) (d1 : List (Int × List UInt8 × Int) × Int × Int × Int) : Option ((List (Int × List UInt8 × Int) × Int × Int × Int) × List (List UInt8 × Int)) := rf 65 d1
noncomputable def c66 (rf : T.RF) (d1 : List (Int × List UInt8 × Int) × Int × Int × Int) (d2 : List UInt8) : Option (List (Int × List UInt8 × Int) × Int × Int × Int) := rf 66 (d1, d2)
noncomputable def c67 (rf : T.RF) (d1 : List (Int × List UInt8 × Int) × Int × Int × Int) (d2 : Int) : Option (List (Int × List UInt8 × Int) × Int × Int × Int) := rf 67 (d1, d2)
noncomputable def c68 (rf : T.RF) (d1 : List (Int × List UInt8 × Int) × Int × Int × Int) : Option ((List (Int × List UInt8 × Int) × Int × Int × Int) × List UInt8 × Int) := rf 68 d1
noncomputable def c69 (rf : T.RF) (d1 : List (Int × List UInt8 × Int) × Int × Int × Int) : Option ((List (Int × List UInt8 × Int) × Int × Int × Int) × List (Int × List UInt8 × Int × List (Int × Int × Int × Int × Int × List UInt8) × List (Int × Int × Int × Int × Int × List UInt8) × List (List (Int × Int × Int × Int × Int × List UInt8)))) := rf 69 d1
noncomputable def c70 (rf : T.RF) (d1 : List (Int × List UInt8 × Int) × Int × Int × Int) : Option ((List (Int × List UInt8 × Int) × Int × Int × Int) × Bool) := rf 70 d1
noncomputable def c71 (rf : T.RF) (d1 : List (Int × List UInt8 × Int) × Int × Int × Int) : Option ((List (Int × List UInt8 × Int) × Int × Int × Int) × (Int × List UInt8 × Int × List (Int × Int × Int × Int × Int × List UInt8) × List (Int × Int × Int × Int × Int × List UInt8) × List (List (Int × Int × Int × Int × Int × List UInt8))) × Bool) := rf 71 d1
noncomputable def c72 (rf : T.RF) (d1 : List (Int × List UInt8 × Int) × Int × Int × Int) : Option ((List (Int × List UInt8 × Int) × Int × Int × Int) × List (Int × Int × Int × Int × Int × List UInt8)) := rf 72 d1
noncomputable def c73 (rf : T.RF) (d1 : List (Int × List UInt8 × Int) × Int × Int × Int) : Option ((List (Int × List UInt8 × Int) × Int × Int × Int) × List (List (Int × Int × Int × Int × Int × List UInt8))) := rf 73 d1
noncomputable def c74 (rf : T.RF) (d1 : List (Int × List UInt8 × Int) × Int × Int × Int) : Option ((List (Int × List UInt8 × Int) × Int × Int × Int) × List (List UInt8 × Int)) := rf 74 d1
noncomputable def c75 (rf : T.RF) (d1 : List (Int × List UInt8 × Int) × Int × Int × Int) : Option ((List (Int × List UInt8 × Int) × Int × Int × Int) × List (List UInt8 × List (Int × Int × Int × Int × Int × List UInt8))) := rf 75 d1
noncomputable def c76 (rf : T.RF) (d1 : List (Bool × List UInt8 × List (List UInt8 × Int) × List UInt8 × Int × List (List UInt8 × Int) × List (List UInt8 × List (Int × Int × Int × Int × Int × List UInt8)) × List (Int × List UInt8 × Int × List (Int × Int × Int × Int × Int × List UInt8) × List (Int × Int × Int × Int × Int × List UInt8) × List (List (Int × Int × Int × Int × Int × List UInt8)))) × List UInt8 × List UInt8) : Option (Int × Int) := rf 76 d1
noncomputable def c77 (rf : T.RF) (d1 : Bool × List UInt8 × List (List UInt8 × Int) × List UInt8 × Int × List (List UInt8 × Int) × List (List UInt8 × List (Int × Int × Int × Int × Int × List UInt8)) × List (Int × List UInt8 × Int × List (Int × Int × Int × Int × Int × List UInt8) × List (Int × Int × Int × Int × Int × List UInt8) × List (List (Int × Int × Int × Int × Int × List UInt8)))) : Option Int := rf 77 d1
noncomputable def c78 (rf : T.RF) (d1 : List (Int × Int × Int × Int × Int × List UInt8)) : Option (Int × Int) := rf 78 d1
noncomputable def c79 (rf : T.RF) (d1 : List (Int × Int × Int × Int × Int × List UInt8)) : Option Bool := rf 79 d1
noncomputable def c80 (rf : T.RF) (d1 : Int × Int × Int × Int × Int × List UInt8) : Option Bool := rf 80 d1
noncomputable def c81 (rf : T.RF) (d1 : Int × Int × Int × Int × Int × List UInt8) : Option Bool := rf 81 d1
noncomputable def c82 (rf : T.RF) (d1 : List (Int × Int × Int × Int × Int × List UInt8)) (d2 : Int) : Option Bool := rf 82 (d1, d2)
noncomputable def c83 (rf : T.RF) (d1 : List Int) (d2 : List (Int × Int × Int × Int × Int × List UInt8)) (d3 : Int) : Option (List Int × Int × Int) := rf 83 (d1, d2, d3)
noncomputable def c84 (rf : T.RF) (d1 : List (Bool × List UInt8 × List (List UInt8 × Int) × List UInt8 × Int × List (List UInt8 × Int) × List (List UInt8 × List (Int × Int × Int × Int × Int × List UInt8)) × List (Int × List UInt8 × Int × List (Int × Int × Int × Int × Int × List UInt8) × List (Int × Int × Int × Int × Int × List UInt8) × List (List (Int × Int × Int × Int × Int × List UInt8)))) × List UInt8 × List UInt8) : Option Bool := rf 84 d1
noncomputable def c85 (rf : T.RF) (d1 : List (Bool × List UInt8 × List (List UInt8 × Int) × List UInt8 × Int × List (List UInt8 × Int) × List (List UInt8 × List (Int × Int × Int × Int × Int × List UInt8)) × List (Int × List UInt8 × Int × List (Int × Int × Int × Int × Int × List UInt8) × List (Int × Int × Int × Int × Int × List UInt8) × List (List (Int × Int × Int × Int × Int × List UInt8)))) × List UInt8 × List UInt8) : Option Bool := rf 85 d1
noncomputable def c86 (rf : T.RF) (d1 : List (Bool × List UInt8 × List (List UInt8 × Int) × List UInt8 × Int × List (List UInt8 × Int) × List (List UInt8 × List (Int × Int × Int × Int × Int × List UInt8)) × List (Int × List UInt8 × Int × List (Int × Int × Int × Int × Int × List UInt8) × List (Int × Int × Int × Int × Int × List UInt8) × List (List (Int × Int × Int × Int × Int × List UInt8)))) × List UInt8 × List UInt8) : Option (Int × Int) := rf 86 d1
noncomputable def c87 (rf : T.RF) (d1 : List (Int × Int × Int × Int × Int × List UInt8)) : Option Int := rf 87 d1
noncomputable def c88 (rf : T.RF) (d1 : List (Int × Int × Int × Int × Int × List UInt8)) : Option Bool := rf 88 d1
noncomputable def c89 (rf : T.RF) (d1 : List (Int × Int × Int × Int × Int × List UInt8)) : Option Bool := rf 89 d1
noncomputable def c90 (rf : T.RF) (d1 : List (Int × Int × Int × Int × Int × List UInt8)) : Option Bool := rf 90 d1
noncomputable def c91 (rf : T.RF) (d1 : List (Int × Int × Int × Int × Int × List UInt8)) : Option (List (Int × Int × Int × Int × Int × List UInt8)) := rf 91 d1
noncomputable def c92 (rf : T.RF) (d1 : List (Int × Int × Int × Int × Int × List UInt8)) (d2 : Int) : Option (List (Int × Int × Int × Int × Int × List UInt8)) := rf 92 (d1, d2)
noncomputable def c93 (rf : T.RF) (d1 : List (Int × Int × Int × Int × Int × List UInt8)) (d2 : List (Int × Int × Int × Int × Int × List UInt8)) (d3 : Int) : Option (List (Int × Int × Int × Int × Int × List UInt8)) := rf 93 (d1, d2, d3)
noncomputable def c94 (rf : T.RF) (d1 : List (Int × Int × Int × Int × Int × List UInt8)) (d2 : List (Int × Int × Int × Int × Int × List UInt8)) : Option Bool := rf 94 (d1, d2)
noncomputable def k2 (rb : T.RB) (d1 : List UInt8) (d2 : Int) : Option Int := rb 2 (d1, d2)
noncomputable def k3 (rb : T.RB) (d1 : List UInt8) (d2 : Int) (d3 : Int) : Option Int := rb 3 (d1, d2, d3)
noncomputable def k4 (rb : T.RB) (d1 : List UInt8) (d2 : Int) : Option Int := rb 4 (d1, d2)
noncomputable def k5 (rb : T.RB) (d1 : List (List UInt8)) (d2 : List UInt8) (d3 : Int) : Option ((List (List UInt8) × Bool) ⊕ (List (List UInt8))) := rb 5 (d1, d2, d3)
noncomputable def k6 (rb : T.RB) (d1 : List UInt8) (d2 : Int) : Option (Bool ⊕ Unit) := rb 6 (d1, d2)
noncomputable def k7 (rb : T.RB) (d1 : List (List UInt8)) (d2 : List UInt8) (d3 : Int) : Option ((List (List UInt8) × List UInt8) ⊕ (List (List UInt8))) := rb 7 (d1, d2, d3)
noncomputable def k8 (rb : T.RB) (d1 : Int × Int) (d2 : List (Int × List UInt8 × Int)) (d3 : List UInt8) (d4 : Int) : Option (((Int × Int) × List (Int × List UInt8 × Int)) ⊕ ((Int × Int) × List (Int × List UInt8 × Int))) := rb 8 (d1, d2, d3, d4)
noncomputable def k9 (rb : T.RB) (d1 : List UInt8) (d2 : Int) : Option Int := rb 9 (d1, d2)
noncomputable def k13 (rb : T.RB) (d1 : List (Int × Int × Int × Int × Int × List UInt8)) (d2 : List (Int × Int × Int × Int × Int × List UInt8)) (d3 : Int) (d4 : Int) : Option (List (Int × Int × Int × Int × Int × List UInt8)) := rb 13 (d1, d2, d3, d4)
noncomputable def k14 (rb : T.RB) (d1 : List (Int × Int × Int × Int × Int × List UInt8)) (d2 : List Int) (d3 : Int) (d4 : List (List (Int × Int × Int × Int × Int × List UInt8))) (d5 : Int) (d6 : Int) : Option ((List (Int × Int × Int × Int × Int × List UInt8)) ⊕ (List (Int × Int × Int × Int × Int × List UInt8) × List Int × Int)) := rb 14 (d1, d2, d3, d4, d5, d6)
noncomputable def k16 (rb : T.RB) (d1 : List (Int × List UInt8 × Int) × Int × Int × Int × Int) (d2 : List (List (Int × Int × Int × Int × Int × List UInt8))) : Option (((List (Int × List UInt8 × Int) × Int × Int × Int × Int) × List (List (Int × Int × Int × Int × Int × List UInt8))) ⊕ (List (Int × List UInt8 × Int) × Int × Int × Int × Int)) := rb 16 (d1, d2)
noncomputable def k18 (rb : T.RB) (d1 : List (Int × List UInt8 × Int) × Int × Int × Int × Int) (d2 : List (Int × Int × Int × Int × Int × List UInt8)) : Option ((List (Int × List UInt8 × Int) × Int × Int × Int × Int) × List (Int × Int × Int × Int × Int × List UInt8)) := rb 18 (d1, d2)
noncomputable def k20 (rb : T.RB) (d1 : List (Int × List UInt8 × Int) × Int × Int × Int × Int) (d2 : List (Int × Int × Int × Int × Int × List UInt8)) : Option ((List (Int × List UInt8 × Int) × Int × Int × Int × Int) × List (Int × Int × Int × Int × Int × List UInt8)) := rb 20 (d1, d2)
noncomputable def k22 (rb : T.RB) (d1 : List (Int × List UInt8 × Int) × Int × Int × Int × Int) (d2 : List (Int × Int × Int × Int × Int × List UInt8)) : Option ((List (Int × List UInt8 × Int) × Int × Int × Int × Int) × List (Int × Int × Int × Int × Int × List UInt8)) := rb 22 (d1, d2)
noncomputable def k24 (rb : T.RB) (d1 : List (Int × List UInt8 × Int) × Int × Int × Int × Int) (d2 : List (Int × Int × Int × Int × Int × List UInt8)) : Option ((List (Int × List UInt8 × Int) × Int × Int × Int × Int) × List (Int × Int × Int × Int × Int × List UInt8)) := rb 24 (d1, d2)
noncomputable def k26 (rb : T.RB) (d1 : List (Int × List UInt8 × Int) × Int × Int × Int × Int) (d2 : List (Int × Int × Int × Int × Int × List UInt8)) : Option ((List (Int × List UInt8 × Int) × Int × Int × Int × Int) × List (Int × Int × Int × Int × Int × List UInt8)) := rb 26 (d1, d2)
noncomputable def k34 (rb : T.RB) (d1 : List Int) (d2 : List (Int × Int × Int × Int × Int × List UInt8)) (d3 : Int) : Option (List Int) := rb 34 (d1, d2, d3)
noncomputable def k35 (rb : T.RB) (d1 : List Int) (d2 : List Int) (d3 : Int) (d4 : Int) : Option (List Int × List Int) := rb 35 (d1, d2, d3, d4)
noncomputable def k37 (rb : T.RB) (d1 : Int × Int) (d2 : List (Int × List UInt8 × Int)) (d3 : Int) : Option (((Int × Int) × List (Int × Int × Int × Int × Int × List UInt8) × Int) ⊕ ((Int × Int) × List (Int × Int × Int × Int × Int × List UInt8) × Int)) := rb 37 (d1, d2, d3)
noncomputable def k38 (rb : T.RB) (d1 : List Bool) (d2 : List (Int × Int × Int × Int × Int × List UInt8)) (d3 : List (Int × Int × Int × Int × Int × List UInt8)) (d4 : Int) (d5 : Int) : Option ((List Bool × Bool) ⊕ (List Bool)) := rb 38 (d1, d2, d3, d4, d5)
noncomputable def k39 (rb : T.RB) (d1 : Int × Int × Int × Int × Int × List UInt8) (d2 : Int) : Option ((Int × Int × Int × Int × Int × List UInt8) × Bool) := rb 39 (d1, d2)
noncomputable def k40 (rb : T.RB) (d1 : Int × Int × Int × Int × Int × List UInt8) (d2 : Int × Int × Int × Int × Int × List UInt8) (d3 : Int) : Option ((Int × Int × Int × Int × Int × List UInt8) × (Int × Int × Int × Int × Int × List UInt8) × Bool) := rb 40 (d1, d2, d3)
noncomputable def k41 (rb : T.RB) (d1 : List Bool) (d2 : Int × Int × Int × Int × Int × List UInt8) (d3 : List Int) (d4 : List (Int × Int × Int × Int × Int × List UInt8)) (d5 : Int) (d6 : Int) (d7 : Int) : Option ((List Bool × (Int × Int × Int × Int × Int × List UInt8) × List Int × Bool) ⊕ (List Bool × (Int × Int × Int × Int × Int × List UInt8) × List Int)) := rb 41 (d1, d2, d3, d4, d5, d6, d7)
noncomputable def k42 (rb : T.RB) (d1 : List Bool) (d2 : Bool) (d3 : Int) (d4 : Int) : Option (Int ⊕ Unit) := rb 42 (d1, d2, d3, d4)
noncomputable def k49 (rb : T.RB) (d1 : List Int) (d2 : List (Int × Int × Int × Int × Int × List UInt8)) (d3 : Int) (d4 : Int) : Option (List Int) := rb 49 (d1, d2, d3, d4)
noncomputable def k50 (rb : T.RB) (d1 : List Int) (d2 : List Int) (d3 : Int) (d4 : Int) (d5 : Int) : Option (List Int × List Int) := rb 50 (d1, d2, d3, d4, d5)
noncomputable def k52 (rb : T.RB) (d1 : List Bool) (d2 : List Int) (d3 : Int) (d4 : Int) : Option ((List Bool × Bool) ⊕ (List Bool)) := rb 52 (d1, d2, d3, d4)
noncomputable def k55 (rb : T.RB) (d1 : List Bool) (d2 : List (Int × Int × Int × Int × Int × List UInt8)) (d3 : Int) (d4 : Int) : Option ((List Bool × Int × Int) ⊕ (List Bool)) := rb 55 (d1, d2, d3, d4)
noncomputable def k59 (rb : T.RB) (d1 : List (Int × List UInt8 × Int) × Int × Int × Int) (d2 : List (List UInt8 × Int)) : Option (((List (Int × List UInt8 × Int) × Int × Int × Int) × List (List UInt8 × Int)) ⊕ (List (Int × List UInt8 × Int) × Int × Int × Int)) := rb 59 (d1, d2)
noncomputable def k61 (rb : T.RB) (d1 : List (Int × List UInt8 × Int) × Int × Int × Int) (d2 : Int × Int) (d3 : List (Int × Int × Int × Int × Int × List UInt8)) (d4 : Int) : Option ((List (Int × List UInt8 × Int) × Int × Int × Int) × (Int × Int) × List (Int × Int × Int × Int × Int × List UInt8)) := rb 61 (d1, d2, d3, d4)
noncomputable def k63 (rb : T.RB) (d1 : List (Int × List UInt8 × Int) × Int × Int × Int) (d2 : List (List (Int × Int × Int × Int × Int × List UInt8))) : Option (((List (Int × List UInt8 × Int) × Int × Int × Int) × List (List (Int × Int × Int × Int × Int × List UInt8))) ⊕ (List (Int × List UInt8 × Int) × Int × Int × Int)) := rb 63 (d1, d2)
noncomputable def k64 (rb : T.RB) (d1 : List (Int × List UInt8 × Int) × Int × Int × Int) (d2 : List (Int × List UInt8 × Int × List (Int × Int × Int × Int × Int × List UInt8) × List (Int × Int × Int × Int × Int × List UInt8) × List (List (Int × Int × Int × Int × Int × List UInt8)))) : Option ((List (Int × List UInt8 × Int) × Int × Int × Int) × List (Int × List UInt8 × Int × List (Int × Int × Int × Int × Int × List UInt8) × List (Int × Int × Int × Int × Int × List UInt8) × List (List (Int × Int × Int × Int × Int × List UInt8)))) := rb 64 (d1, d2)
noncomputable def k66 (rb : T.RB) (d1 : List (Int × List UInt8 × Int) × Int × Int × Int) (d2 : List (List UInt8 × Int)) : Option (((List (Int × List UInt8 × Int) × Int × Int × Int) × List (List UInt8 × Int)) ⊕ (List (Int × List UInt8 × Int) × Int × Int × Int)) := rb 66 (d1, d2)
noncomputable def k68 (rb : T.RB) (d1 : List (Int × List UInt8 × Int) × Int × Int × Int) (d2 : List (List UInt8 × List (Int × Int × Int × Int × Int × List UInt8))) : Option ((List (Int × List UInt8 × Int) × Int × Int × Int) × List (List UInt8 × List (Int × Int × Int × Int × Int × List UInt8))) := rb 68 (d1, d2)
noncomputable def k83 (rb : T.RB) (d1 : List (Int × List UInt8 × Int) × Int × Int × Int) (d2 : List UInt8) (d3 : List UInt8) (d4 : List (Bool × List UInt8 × List (List UInt8 × Int) × List UInt8 × Int × List (List UInt8 × Int) × List (List UInt8 × List (Int × Int × Int × Int × Int × List UInt8)) × List (Int × List UInt8 × Int × List (Int × Int × Int × Int × Int × List UInt8) × List (Int × Int × Int × Int × Int × List UInt8) × List (List (Int × Int × Int × Int × Int × List UInt8))))) : Option ((List (Int × List UInt8 × Int) × Int × Int × Int) × List UInt8 × List UInt8 × List (Bool × List UInt8 × List (List UInt8 × Int) × List UInt8 × Int × List (List UInt8 × Int) × List (List UInt8 × List (Int × Int × Int × Int × Int × List UInt8)) × List (Int × List UInt8 × Int × List (Int × Int × Int × Int × Int × List UInt8) × List (Int × Int × Int × Int × Int × List UInt8) × List (List (Int × Int × Int × Int × Int × List UInt8))))) := rb 83 (d1, d2, d3, d4)
noncomputable def k84 (rb : T.RB) (d1 : List UInt8) (d2 : List UInt8) (d3 : Int × Int) (d4 : List (Int × List UInt8 × Int) × Int × Int × Int) (d5 : List UInt8) (d6 : List UInt8) (d7 : List (Bool × List UInt8 × List (List UInt8 × Int) × List UInt8 × Int × List (List UInt8 × Int) × List (List UInt8 × List (Int × Int × Int × Int × Int × List UInt8)) × List (Int × List UInt8 × Int × List (Int × Int × Int × Int × Int × List UInt8) × List (Int × Int × Int × Int × Int × List UInt8) × List (List (Int × Int × Int × Int × Int × List UInt8))))) (d8 : List (Bool × List UInt8 × List (List UInt8 × Int) × List UInt8 × Int × List (List UInt8 × Int) × List (List UInt8 × List (Int × Int × Int × Int × Int × List UInt8)) × List (Int × List UInt8 × Int × List (Int × Int × Int × Int × Int × List UInt8) × List (Int × Int × Int × Int × Int × List UInt8) × List (List (Int × Int × Int × Int × Int × List UInt8))))) : Option ((List UInt8 × List UInt8 × (Int × Int) × (List (Int × List UInt8 × Int) × Int × Int × Int) × List UInt8 × List UInt8 × List (Bool × List UInt8 × List (List UInt8 × Int) × List UInt8 × Int × List (List UInt8 × Int) × List (List UInt8 × List (Int × Int × Int × Int × Int × List UInt8)) × List (Int × List UInt8 × Int × List (Int × Int × Int × Int × Int × List UInt8) × List (Int × Int × Int × Int × Int × List UInt8) × List (List (Int × Int × Int × Int × Int × List UInt8)))) × List (Bool × List UInt8 × List (List UInt8 × Int) × List UInt8 × Int × List (List UInt8 × Int) × List (List UInt8 × List (Int × Int × Int × Int × Int × List UInt8)) × List (Int × List UInt8 × Int × List (Int × Int × Int × Int × Int × List UInt8) × List (Int × Int × Int × Int × Int × List UInt8) × List (List (Int × Int × Int × Int × Int × List UInt8)))) × List (Bool × List UInt8 × List (List UInt8 × Int) × List UInt8 × Int × List (List UInt8 × Int) × List (List UInt8 × List (Int × Int × Int × Int × Int × List UInt8)) × List (Int × List UInt8 × Int × List (Int × Int × Int × Int × Int × List UInt8) × List (Int × Int × Int × Int × Int × List UInt8) × List (List (Int × Int × Int × Int × Int × List UInt8))))) ⊕ (List UInt8 × List UInt8 × (Int × Int) × (List (Int × List UInt8 × Int) × Int × Int × Int) × List UInt8 × List UInt8 × List (Bool × List UInt8 × List (List UInt8 × Int) × List UInt8 × Int × List (List UInt8 × Int) × List (List UInt8 × List (Int × Int × Int × Int × Int × List UInt8)) × List (Int × List UInt8 × Int × List (Int × Int × Int × Int × Int × List UInt8) × List (Int × Int × Int × Int × Int × List UInt8) × List (List (Int × Int × Int × Int × Int × List UInt8)))) × List (Bool × List UInt8 × List (List UInt8 × Int) × List UInt8 × Int × List (List UInt8 × Int) × List (List UInt8 × List (Int × Int × Int × Int × Int × List UInt8)) × List (Int × List UInt8 × Int × List (Int × Int × Int × Int × Int × List UInt8) × List (Int × Int × Int × Int × Int × List UInt8) × List (List (Int × Int × Int × Int × Int × List UInt8)))))) := rb 84 (d1, d2, d3, d4, d5, d6, d7, d8)
noncomputable def k85 (rb : T.RB) (d1 : Int × Int) (d2 : List (Bool × List UInt8 × List (List UInt8 × Int) × List UInt8 × Int × List (List UInt8 × Int) × List (List UInt8 × List (Int × Int × Int × Int × Int × List UInt8)) × List (Int × List UInt8 × Int × List (Int × Int × Int × Int × Int × List UInt8) × List (Int × Int × Int × Int × Int × List UInt8) × List (List (Int × Int × Int × Int × Int × List UInt8))))) (d3 : Int) (d4 : Int) : Option ((Int × Int) ⊕ (Int × Int)) := rb 85 (d1, d2, d3, d4)
noncomputable def k91 (rb : T.RB) (d1 : List (List (Int × Int × Int × Int × Int × List UInt8))) (d2 : List (List UInt8 × List (Int × Int × Int × Int × Int × List UInt8))) (d3 : Int) (d4 : Int) : Option (List (List (Int × Int × Int × Int × Int × List UInt8))) := rb 91 (d1, d2, d3, d4)
noncomputable def k92 (rb : T.RB) (d1 : List (List (Int × Int × Int × Int × Int × List UInt8))) (d2 : List (Int × List UInt8 × Int × List (Int × Int × Int × Int × Int × List UInt8) × List (Int × Int × Int × Int × Int × List UInt8) × List (List (Int × Int × Int × Int × Int × List UInt8)))) (d3 : Int) (d4 : Int) : Option (List (List (Int × Int × Int × Int × Int × List UInt8))) := rb 92 (d1, d2, d3, d4)
noncomputable def k93 (rb : T.RB) (d1 : List (List (Int × Int × Int × Int × Int × List UInt8))) (d2 : Int) (d3 : Int) : Option ((List (List (Int × Int × Int × Int × Int × List UInt8)) × Int) ⊕ (List (List (Int × Int × Int × Int × Int × List UInt8)))) := rb 93 (d1, d2, d3)
noncomputable def k94 (rb : T.RB) (d1 : List Int) (d2 : List (Int × Int × Int × Int × Int × List UInt8)) (d3 : Int) : Option ((List Int × Bool) ⊕ (List Int)) := rb 94 (d1, d2, d3)
noncomputable def k95 (rb : T.RB) (d1 : List Int) (d2 : List Int) (d3 : Int) (d4 : Int) : Option ((List Int × List Int × Bool) ⊕ (List Int × List Int)) := rb 95 (d1, d2, d3, d4)
noncomputable def k96 (rb : T.RB) (d1 : Int × Int × Int × Int × Int × List UInt8) (d2 : List Int) (d3 : List (Int × Int × Int × Int × Int × List UInt8)) (d4 : Int) : Option (((Int × Int × Int × Int × Int × List UInt8) × List Int × Bool) ⊕ ((Int × Int × Int × Int × Int × List UInt8) × List Int)) := rb 96 (d1, d2, d3, d4)
noncomputable def k97 (rb : T.RB) (d1 : List Int) (d2 : List (Int × Int × Int × Int × Int × List UInt8)) (d3 : Int) : Option ((List Int × Bool) ⊕ (List Int)) := rb 97 (d1, d2, d3)
noncomputable def k98 (rb : T.RB) (d1 : List Int) (d2 : List (Int × Int × Int × Int × Int × List UInt8)) (d3 : Int) : Option ((List Int × Int × Int) ⊕ (List Int)) := rb 98 (d1, d2, d3)
noncomputable def k99 (rb : T.RB) (d1 : List Int) (d2 : List Int) (d3 : Int) (d4 : Int) : Option (List Int × List Int × Int) := rb 99 (d1, d2, d3, d4)
noncomputable def k100 (rb : T.RB) (d1 : List (Bool × List UInt8 × List (List UInt8 × Int) × List UInt8 × Int × List (List UInt8 × Int) × List (List UInt8 × List (Int × Int × Int × Int × Int × List UInt8)) × List (Int × List UInt8 × Int × List (Int × Int × Int × Int × Int × List UInt8) × List (Int × Int × Int × Int × Int × List UInt8) × List (List (Int × Int × Int × Int × Int × List UInt8)))) × List UInt8 × List UInt8) (d2 : Int) : Option (((List (Bool × List UInt8 × List (List UInt8 × Int) × List UInt8 × Int × List (List UInt8 × Int) × List (List UInt8 × List (Int × Int × Int × Int × Int × List UInt8)) × List (Int × List UInt8 × Int × List (Int × Int × Int × Int × Int × List UInt8) × List (Int × Int × Int × Int × Int × List UInt8) × List (List (Int × Int × Int × Int × Int × List UInt8)))) × List UInt8 × List UInt8) × Bool) ⊕ (List (Bool × List UInt8 × List (List UInt8 × Int) × List UInt8 × Int × List (List UInt8 × Int) × List (List UInt8 × List (Int × Int × Int × Int × Int × List UInt8)) × List (Int × List UInt8 × Int × List (Int × Int × Int × Int × Int × List UInt8) × List (Int × Int × Int × Int × Int × List UInt8) × List (List (Int × Int × Int × Int × Int × List UInt8)))) × List UInt8 × List UInt8)) := rb 100 (d1, d2)
noncomputable def k101 (rb : T.RB) (d1 : Bool × List UInt8 × List (List UInt8 × Int) × List UInt8 × Int × List (List UInt8 × Int) × List (List UInt8 × List (Int × Int × Int × Int × Int × List UInt8)) × List (Int × List UInt8 × Int × List (Int × Int × Int × Int × Int × List UInt8) × List (Int × Int × Int × Int × Int × List UInt8) × List (List (Int × Int × Int × Int × Int × List UInt8)))) (d2 : Int) : Option (((Bool × List UInt8 × List (List UInt8 × Int) × List UInt8 × Int × List (List UInt8 × Int) × List (List UInt8 × List (Int × Int × Int × Int × Int × List UInt8)) × List (Int × List UInt8 × Int × List (Int × Int × Int × Int × Int × List UInt8) × List (Int × Int × Int × Int × Int × List UInt8) × List (List (Int × Int × Int × Int × Int × List UInt8)))) × Bool) ⊕ (Bool × List UInt8 × List (List UInt8 × Int) × List UInt8 × Int × List (List UInt8 × Int) × List (List UInt8 × List (Int × Int × Int × Int × Int × List UInt8)) × List (Int × List UInt8 × Int × List (Int × Int × Int × Int × Int × List UInt8) × List (Int × Int × Int × Int × Int × List UInt8) × List (List (Int × Int × Int × Int × Int × List UInt8))))) := rb 101 (d1, d2)
noncomputable def k102 (rb : T.RB) (d1 : Bool × List UInt8 × List (List UInt8 × Int) × List UInt8 × Int × List (List UInt8 × Int) × List (List UInt8 × List (Int × Int × Int × Int × Int × List UInt8)) × List (Int × List UInt8 × Int × List (Int × Int × Int × Int × Int × List UInt8) × List (Int × Int × Int × Int × Int × List UInt8) × List (List (Int × Int × Int × Int × Int × List UInt8)))) (d2 : Int) : Option (((Bool × List UInt8 × List (List UInt8 × Int) × List UInt8 × Int × List (List UInt8 × Int) × List (List UInt8 × List (Int × Int × Int × Int × Int × List UInt8)) × List (Int × List UInt8 × Int × List (Int × Int × Int × Int × Int × List UInt8) × List (Int × Int × Int × Int × Int × List UInt8) × List (List (Int × Int × Int × Int × Int × List UInt8)))) × Bool) ⊕ (Bool × List UInt8 × List (List UInt8 × Int) × List UInt8 × Int × List (List UInt8 × Int) × List (List UInt8 × List (Int × Int × Int × Int × Int × List UInt8)) × List (Int × List UInt8 × Int × List (Int × Int × Int × Int × Int × List UInt8) × List (Int × Int × Int × Int × Int × List UInt8) × List (List (Int × Int × Int × Int × Int × List UInt8))))) := rb 102 (d1, d2)
noncomputable def k103 (rb : T.RB) (d1 : Int × List UInt8 × Int × List (Int × Int × Int × Int × Int × List UInt8) × List (Int × Int × Int × Int × Int × List UInt8) × List (List (Int × Int × Int × Int × Int × List UInt8))) (d2 : Int) : Option (((Int × List UInt8 × Int × List (Int × Int × Int × Int × Int × List UInt8) × List (Int × Int × Int × Int × Int × List UInt8) × List (List (Int × Int × Int × Int × Int × List UInt8))) × Bool) ⊕ (Int × List UInt8 × Int × List (Int × Int × Int × Int × Int × List UInt8) × List (Int × Int × Int × Int × Int × List UInt8) × List (List (Int × Int × Int × Int × Int × List UInt8)))) := rb 103 (d1, d2)
noncomputable def k116 (rb : T.RB) (d1 : List (Bool × List UInt8 × List (List UInt8 × Int) × List UInt8 × Int × List (List UInt8 × Int) × List (List UInt8 × List (Int × Int × Int × Int × Int × List UInt8)) × List (Int × List UInt8 × Int × List (Int × Int × Int × Int × Int × List UInt8) × List (Int × Int × Int × Int × Int × List UInt8) × List (List (Int × Int × Int × Int × Int × List UInt8)))) × List UInt8 × List UInt8) (d2 : Int × Int) (d3 : Int) : Option (((List (Bool × List UInt8 × List (List UInt8 × Int) × List UInt8 × Int × List (List UInt8 × Int) × List (List UInt8 × List (Int × Int × Int × Int × Int × List UInt8)) × List (Int × List UInt8 × Int × List (Int × Int × Int × Int × Int × List UInt8) × List (Int × Int × Int × Int × Int × List UInt8) × List (List (Int × Int × Int × Int × Int × List UInt8)))) × List UInt8 × List UInt8) × Int × Int) ⊕ ((List (Bool × List UInt8 × List (List UInt8 × Int) × List UInt8 × Int × List (List UInt8 × Int) × List (List UInt8 × List (Int × Int × Int × Int × Int × List UInt8)) × List (Int × List UInt8 × Int × List (Int × Int × Int × Int × Int × List UInt8) × List (Int × Int × Int × Int × Int × List UInt8) × List (List (Int × Int × Int × Int × Int × List UInt8)))) × List UInt8 × List UInt8) × Int × Int)) := rb 116 (d1, d2, d3)
noncomputable def k117 (rb : T.RB) (d1 : Bool × List UInt8 × List (List UInt8 × Int) × List UInt8 × Int × List (List UInt8 × Int) × List (List UInt8 × List (Int × Int × Int × Int × Int × List UInt8)) × List (Int × List UInt8 × Int × List (Int × Int × Int × Int × Int × List UInt8) × List (Int × Int × Int × Int × Int × List UInt8) × List (List (Int × Int × Int × Int × Int × List UInt8)))) (d2 : List (List (Int × Int × Int × Int × Int × List UInt8))) (d3 : Int) : Option ((Bool × List UInt8 × List (List UInt8 × Int) × List UInt8 × Int × List (List UInt8 × Int) × List (List UInt8 × List (Int × Int × Int × Int × Int × List UInt8)) × List (Int × List UInt8 × Int × List (Int × Int × Int × Int × Int × List UInt8) × List (Int × Int × Int × Int × Int × List UInt8) × List (List (Int × Int × Int × Int × Int × List UInt8)))) × List (List (Int × Int × Int × Int × Int × List UInt8))) := rb 117 (d1, d2, d3)
noncomputable def k118 (rb : T.RB) (d1 : Bool × List UInt8 × List (List UInt8 × Int) × List UInt8 × Int × List (List UInt8 × Int) × List (List UInt8 × List (Int × Int × Int × Int × Int × List UInt8)) × List (Int × List UInt8 × Int × List (Int × Int × Int × Int × Int × List UInt8) × List (Int × Int × Int × Int × Int × List UInt8) × List (List (Int × Int × Int × Int × Int × List UInt8)))) (d2 : List (List (Int × Int × Int × Int × Int × List UInt8))) (d3 : Int) : Option ((Bool × List UInt8 × List (List UInt8 × Int) × List UInt8 × Int × List (List UInt8 × Int) × List (List UInt8 × List (Int × Int × Int × Int × Int × List UInt8)) × List (Int × List UInt8 × Int × List (Int × Int × Int × Int × Int × List UInt8) × List (Int × Int × Int × Int × Int × List UInt8) × List (List (Int × Int × Int × Int × Int × List UInt8)))) × List (List (Int × Int × Int × Int × Int × List UInt8))) := rb 118 (d1, d2, d3)
noncomputable def k119 (rb : T.RB) (d1 : List (List (Int × Int × Int × Int × Int × List UInt8))) (d2 : Int × List UInt8 × Int × List (Int × Int × Int × Int × Int × List UInt8) × List (Int × Int × Int × Int × Int × List UInt8) × List (List (Int × Int × Int × Int × Int × List UInt8))) : Option ((Int × List UInt8 × Int × List (Int × Int × Int × Int × Int × List UInt8) × List (Int × Int × Int × Int × Int × List UInt8) × List (List (Int × Int × Int × Int × Int × List UInt8))) × List (List (Int × Int × Int × Int × Int × List UInt8))) := rb 119 (d1, d2)
noncomputable def k120 (rb : T.RB) (d1 : List (List (Int × Int × Int × Int × Int × List UInt8))) (d2 : Int × List UInt8 × Int × List (Int × Int × Int × Int × Int × List UInt8) × List (Int × Int × Int × Int × Int × List UInt8) × List (List (Int × Int × Int × Int × Int × List UInt8))) (d3 : Int) : Option ((Int × List UInt8 × Int × List (Int × Int × Int × Int × Int × List UInt8) × List (Int × Int × Int × Int × Int × List UInt8) × List (List (Int × Int × Int × Int × Int × List UInt8))) × List (List (Int × Int × Int × Int × Int × List UInt8))) := rb 120 (d1, d2, d3)
noncomputable def k121 (rb : T.RB) (d1 : Int × Int) (d2 : List (List (Int × Int × Int × Int × Int × List UInt8))) (d3 : Int) (d4 : Int) : Option (((Int × Int) × List (List (Int × Int × Int × Int × Int × List UInt8))) ⊕ ((Int × Int) × List (List (Int × Int × Int × Int × Int × List UInt8)))) := rb 121 (d1, d2, d3, d4)
noncomputable def k122 (rb : T.RB) (d1 : List (Int × Int × Int × Int × Int × List UInt8)) (d2 : Int) : Option (Bool ⊕ Unit) := rb 122 (d1, d2)
noncomputable def k124 (rb : T.RB) (d1 : List (Int × Int × Int × Int × Int × List UInt8)) (d2 : List Int) (d3 : List Int) (d4 : List (Int × Int × Int × Int × Int × List UInt8)) (d5 : Int) : Option (List Int × List (Int × Int × Int × Int × Int × List UInt8) × List Int) := rb 124 (d1, d2, d3, d4, d5)
noncomputable def k125 (rb : T.RB) (d1 : List (Int × Int × Int × Int × Int × List UInt8)) (d2 : Int) (d3 : Int) : Option (Bool ⊕ Unit) := rb 125 (d1, d2, d3)

/- bailmentref02.digit -/
noncomputable def r5 (rf : T.RF) (rb : T.RB) (d1 : Int) : Option Bool :=
  bif decide (d1 ≥ 48) then
    some (decide (d1 ≤ 57))
  else
    some false
theorem er5 (rf : T.RF) (rb : T.RB) (d1 : Int) : T.stepF rf rb 5 d1 = r5 rf rb d1 := by kernel_rfl
theorem or5 {d1 : Int} {y : Bool} (h : r5 T.rf T.rb d1 = some y) : c5 T.rf d1 = some y := T.rf_of (f := 5) (d := d1) ((er5 T.rf T.rb d1).trans h)

/- bailmentref02.Value loop 0 -/
noncomputable def b3 (rf : T.RF) (rb : T.RB) (d1 : List UInt8) (d2 : Int) (d3 : Int) : Option Int :=
  bif decide (d3 < (((d1.length : Nat) : Int))) then
    bif decide (d2 ≤ 2147483647) then
      bif inb d3 d1.length then
        (nth d1 d3.toNat).bind fun (b1 : UInt8) =>
        k3 rb d1 (IntKind.i64.wrap ((IntKind.i64.wrap (10 * d2)) + (IntKind.i64.wrap (IntKind.u8.wrap ((((b1.toNat : Nat) : Int)) - 48))))) (IntKind.i64.wrap (d3 + 1))
      else
        none
    else
      some d2
  else
    some d2
theorem eb3 (rf : T.RF) (rb : T.RB) (d1 : List UInt8) (d2 : Int) (d3 : Int) : T.stepB rf rb 3 (d1, d2, d3) = b3 rf rb d1 d2 d3 := by kernel_rfl
theorem ob3 {d1 : List UInt8} {d2 : Int} {d3 : Int} {y : Int} (h : b3 T.rf T.rb d1 d2 d3 = some y) : k3 T.rb d1 d2 d3 = some y := T.rb_of (κ := 3) (d := (d1, d2, d3)) ((eb3 T.rf T.rb d1 d2 d3).trans h)

/- bailmentref02.Value -/
noncomputable def r6 (rf : T.RF) (rb : T.RB) (d1 : List UInt8) : Option Int :=
  (k3 rb d1 0 0).bind fun (z1 : Int) =>
  some z1
theorem er6 (rf : T.RF) (rb : T.RB) (d1 : List UInt8) : T.stepF rf rb 6 d1 = r6 rf rb d1 := by kernel_rfl
theorem or6 {d1 : List UInt8} {y : Int} (h : r6 T.rf T.rb d1 = some y) : c6 T.rf d1 = some y := T.rf_of (f := 6) (d := d1) ((er6 T.rf T.rb d1).trans h)

/- bailmentref02.letter -/
noncomputable def r7 (rf : T.RF) (rb : T.RB) (d1 : Int) : Option Bool :=
  bif decide (d1 ≥ 97) then
    bif decide (d1 ≤ 122) then
      some true
    else
      some (d1 == 95)
  else
    some (d1 == 95)
theorem er7 (rf : T.RF) (rb : T.RB) (d1 : Int) : T.stepF rf rb 7 d1 = r7 rf rb d1 := by kernel_rfl
theorem or7 {d1 : Int} {y : Bool} (h : r7 T.rf T.rb d1 = some y) : c7 T.rf d1 = some y := T.rf_of (f := 7) (d := d1) ((er7 T.rf T.rb d1).trans h)

/- bailmentref02.Words -/
noncomputable def r10 (rf : T.RF) (rb : T.RB) : Option (List (List UInt8)) :=
  some [([97, 110, 100] : List UInt8), ([97, 115, 115, 117, 109, 101] : List UInt8), ([98, 111, 111, 108] : List UInt8), ([99, 111, 110, 116, 114, 97, 99, 116] : List UInt8), ([100, 105, 118] : List UInt8), ([101, 108, 115, 101] : List UInt8), ([101, 110, 100] : List UInt8), ([101, 110, 115, 117, 114, 101] : List UInt8), ([102, 97, 108, 108, 98, 97, 99, 107] : List UInt8), ([102, 97, 108, 115, 101] : List UInt8), ([103, 104, 111, 115, 116] : List UInt8), ([103, 117, 97, 114, 97, 110, 116, 101, 101] : List UInt8), ([104, 105, 115, 116] : List UInt8), ([105, 102] : List UInt8), ([105, 109, 112, 111, 114, 116] : List UInt8), ([105, 110, 116] : List UInt8), ([108, 101, 116] : List UInt8), ([109, 97, 105, 110] : List UInt8), ([109, 111, 100] : List UInt8), ([109, 111, 100, 101] : List UInt8), ([110, 111, 100, 101] : List UInt8), ([110, 111, 116] : List UInt8), ([111, 110, 99, 101] : List UInt8), ([111, 114] : List UInt8), ([112, 114, 101] : List UInt8), ([112, 114, 101, 118] : List UInt8), ([114, 101, 113, 117, 105, 114, 101] : List UInt8), ([114, 101, 116, 117, 114, 110, 115] : List UInt8), ([115, 105, 110, 99, 101] : List UInt8), ([116, 101, 108] : List UInt8), ([116, 104, 101, 110] : List UInt8), ([116, 114, 117, 101] : List UInt8), ([118, 97, 114] : List UInt8), ([119, 105, 116, 104, 105, 110] : List UInt8), ([120, 111, 114] : List UInt8)]
theorem er10 (rf : T.RF) (rb : T.RB) : T.stepF rf rb 10 () = r10 rf rb := by kernel_rfl
theorem or10 {y : (List (List UInt8))} (h : r10 T.rf T.rb = some y) : c10 T.rf = some y := T.rf_of (f := 10) (d := ()) ((er10 T.rf T.rb).trans h)

/- bailmentref02.IsWord loop 0 -/
noncomputable def b5 (rf : T.RF) (rb : T.RB) (d1 : List (List UInt8)) (d2 : List UInt8) (d3 : Int) : Option ((List (List UInt8) × Bool) ⊕ (List (List UInt8))) :=
  bif decide (d3 < (((d1.length : Nat) : Int))) then
    bif inb d3 d1.length then
      (nth d1 d3.toNat).bind fun (x1 : List UInt8) =>
      bif x1 == d2 then
        some (.inl (d1, true))
      else
        k5 rb d1 d2 (IntKind.i64.wrap (d3 + 1))
    else
      none
  else
    some (.inr d1)
theorem eb5 (rf : T.RF) (rb : T.RB) (d1 : List (List UInt8)) (d2 : List UInt8) (d3 : Int) : T.stepB rf rb 5 (d1, d2, d3) = b5 rf rb d1 d2 d3 := by kernel_rfl
theorem ob5 {d1 : List (List UInt8)} {d2 : List UInt8} {d3 : Int} {y : ((List (List UInt8) × Bool) ⊕ (List (List UInt8)))} (h : b5 T.rf T.rb d1 d2 d3 = some y) : k5 T.rb d1 d2 d3 = some y := T.rb_of (κ := 5) (d := (d1, d2, d3)) ((eb5 T.rf T.rb d1 d2 d3).trans h)

/- bailmentref02.IsWord -/
noncomputable def r9 (rf : T.RF) (rb : T.RB) (d1 : List UInt8) : Option Bool :=
  (c10 rf).bind fun (y1 : List (List UInt8)) =>
  (k5 rb y1 d1 0).bind fun (z2 : (List (List UInt8) × Bool) ⊕ (List (List UInt8))) =>
  match z2 with
  | .inl u3 =>
    some u3.2
  | .inr w4 =>
    some false
theorem er9 (rf : T.RF) (rb : T.RB) (d1 : List UInt8) : T.stepF rf rb 9 d1 = r9 rf rb d1 := by kernel_rfl
theorem or9 {d1 : List UInt8} {y : Bool} (h : r9 T.rf T.rb d1 = some y) : c9 T.rf d1 = some y := T.rf_of (f := 9) (d := d1) ((er9 T.rf T.rb d1).trans h)

/- bailmentref02.IsName loop 0 -/
noncomputable def b6 (rf : T.RF) (rb : T.RB) (d1 : List UInt8) (d2 : Int) : Option (Bool ⊕ Unit) :=
  bif decide (d2 < (((d1.length : Nat) : Int))) then
    bif inb d2 d1.length then
      (nth d1 d2.toNat).bind fun (b1 : UInt8) =>
      (c7 rf (((b1.toNat : Nat) : Int))).bind fun (y2 : Bool) =>
      bif !y2 then
        bif inb d2 d1.length then
          (nth d1 d2.toNat).bind fun (b3 : UInt8) =>
          (c5 rf (((b3.toNat : Nat) : Int))).bind fun (y4 : Bool) =>
          bif !y4 then
            some (.inl false)
          else
            k6 rb d1 (IntKind.i64.wrap (d2 + 1))
        else
          none
      else
        k6 rb d1 (IntKind.i64.wrap (d2 + 1))
    else
      none
  else
    some (.inr ())
theorem eb6 (rf : T.RF) (rb : T.RB) (d1 : List UInt8) (d2 : Int) : T.stepB rf rb 6 (d1, d2) = b6 rf rb d1 d2 := by kernel_rfl
theorem ob6 {d1 : List UInt8} {d2 : Int} {y : (Bool ⊕ Unit)} (h : b6 T.rf T.rb d1 d2 = some y) : k6 T.rb d1 d2 = some y := T.rb_of (κ := 6) (d := (d1, d2)) ((eb6 T.rf T.rb d1 d2).trans h)

/- bailmentref02.IsName -/
noncomputable def r11 (rf : T.RF) (rb : T.RB) (d1 : List UInt8) : Option Bool :=
  bif d1 == ([] : List UInt8) then
    some false
  else
  bif decide ((((d1.length : Nat) : Int)) > 40) then
    some false
  else
  bif inb 0 d1.length then
    (nth d1 0).bind fun (b1 : UInt8) =>
    (c7 rf (((b1.toNat : Nat) : Int))).bind fun (y2 : Bool) =>
    bif !y2 then
      some false
    else
      (c9 rf d1).bind fun (y3 : Bool) =>
      bif y3 then
        some false
      else
        (k6 rb d1 0).bind fun (z4 : Bool ⊕ Unit) =>
        match z4 with
        | .inl u5 =>
          some u5
        | .inr w6 =>
          some true
  else
    none
theorem er11 (rf : T.RF) (rb : T.RB) (d1 : List UInt8) : T.stepF rf rb 11 d1 = r11 rf rb d1 := by kernel_rfl
theorem or11 {d1 : List UInt8} {y : Bool} (h : r11 T.rf T.rb d1 = some y) : c11 T.rf d1 = some y := T.rf_of (f := 11) (d := d1) ((er11 T.rf T.rb d1).trans h)

/- bailmentref02.word -/
noncomputable def r8 (rf : T.RF) (rb : T.RB) (d1 : List UInt8) (d2 : Int) : Option ((Int × List UInt8 × Int) × Int) :=
  (c9 rf d1).bind fun (y1 : Bool) =>
  bif y1 then
    some ((3, d1, d2), 0)
  else
    (c11 rf d1).bind fun (y2 : Bool) =>
    bif !y2 then
      some ((0, ([] : List UInt8), 0), 5)
    else
      some ((1, d1, d2), 0)
theorem er8 (rf : T.RF) (rb : T.RB) (d1 : List UInt8) (d2 : Int) : T.stepF rf rb 8 (d1, d2) = r8 rf rb d1 d2 := by kernel_rfl
theorem or8 {d1 : List UInt8} {d2 : Int} {y : ((Int × List UInt8 × Int) × Int)} (h : r8 T.rf T.rb d1 d2 = some y) : c8 T.rf d1 d2 = some y := T.rf_of (f := 8) (d := (d1, d2)) ((er8 T.rf T.rb d1 d2).trans h)

/- bailmentref02.Signs -/
noncomputable def r13 (rf : T.RF) (rb : T.RB) : Option (List (List UInt8)) :=
  some [([45, 62] : List UInt8), ([61, 62] : List UInt8), ([60, 61] : List UInt8), ([62, 61] : List UInt8), ([60, 62] : List UInt8), ([61] : List UInt8), ([60] : List UInt8), ([62] : List UInt8), ([43] : List UInt8), ([45] : List UInt8), ([42] : List UInt8), ([40] : List UInt8), ([41] : List UInt8), ([44] : List UInt8), ([59] : List UInt8), ([58] : List UInt8)]
theorem er13 (rf : T.RF) (rb : T.RB) : T.stepF rf rb 13 () = r13 rf rb := by kernel_rfl
theorem or13 {y : (List (List UInt8))} (h : r13 T.rf T.rb = some y) : c13 T.rf = some y := T.rf_of (f := 13) (d := ()) ((er13 T.rf T.rb).trans h)

/- bailmentref02.sign loop 0 -/
noncomputable def b7 (rf : T.RF) (rb : T.RB) (d1 : List (List UInt8)) (d2 : List UInt8) (d3 : Int) : Option ((List (List UInt8) × List UInt8) ⊕ (List (List UInt8))) :=
  bif decide (d3 < (((d1.length : Nat) : Int))) then
    bif inb d3 d1.length then
      (nth d1 d3.toNat).bind fun (x1 : List UInt8) =>
      bif decide ((((d2.length : Nat) : Int)) ≥ (((x1.length : Nat) : Int))) then
        bif inb d3 d1.length then
          (nth d1 d3.toNat).bind fun (x2 : List UInt8) =>
          bif inb' (((x2.length : Nat) : Int)) d2.length then
            bif inb d3 d1.length then
              (nth d1 d3.toNat).bind fun (x3 : List UInt8) =>
              bif (sub d2 (some (0, (x2.length - 0)))) == x3 then
                bif inb d3 d1.length then
                  (nth d1 d3.toNat).bind fun (x4 : List UInt8) =>
                  some (.inl (d1, x4))
                else
                  none
              else
                k7 rb d1 d2 (IntKind.i64.wrap (d3 + 1))
            else
              none
          else
            none
        else
          none
      else
        k7 rb d1 d2 (IntKind.i64.wrap (d3 + 1))
    else
      none
  else
    some (.inr d1)
theorem eb7 (rf : T.RF) (rb : T.RB) (d1 : List (List UInt8)) (d2 : List UInt8) (d3 : Int) : T.stepB rf rb 7 (d1, d2, d3) = b7 rf rb d1 d2 d3 := by kernel_rfl
theorem ob7 {d1 : List (List UInt8)} {d2 : List UInt8} {d3 : Int} {y : ((List (List UInt8) × List UInt8) ⊕ (List (List UInt8)))} (h : b7 T.rf T.rb d1 d2 d3 = some y) : k7 T.rb d1 d2 d3 = some y := T.rb_of (κ := 7) (d := (d1, d2, d3)) ((eb7 T.rf T.rb d1 d2 d3).trans h)

/- bailmentref02.sign -/
noncomputable def r12 (rf : T.RF) (rb : T.RB) (d1 : List UInt8) : Option (List UInt8) :=
  (c13 rf).bind fun (y1 : List (List UInt8)) =>
  (k7 rb y1 d1 0).bind fun (z2 : (List (List UInt8) × List UInt8) ⊕ (List (List UInt8))) =>
  match z2 with
  | .inl u3 =>
    some u3.2
  | .inr w4 =>
    some ([] : List UInt8)
theorem er12 (rf : T.RF) (rb : T.RB) (d1 : List UInt8) : T.stepF rf rb 12 d1 = r12 rf rb d1 := by kernel_rfl
theorem or12 {d1 : List UInt8} {y : (List UInt8)} (h : r12 T.rf T.rb d1 = some y) : c12 T.rf d1 = some y := T.rf_of (f := 12) (d := d1) ((er12 T.rf T.rb d1).trans h)

/- bailmentref02.one loop 0 -/
noncomputable def b2 (rf : T.RF) (rb : T.RB) (d1 : List UInt8) (d2 : Int) : Option Int :=
  bif decide (d2 < (((d1.length : Nat) : Int))) then
    bif inb d2 d1.length then
      (nth d1 d2.toNat).bind fun (b1 : UInt8) =>
      (c5 rf (((b1.toNat : Nat) : Int))).bind fun (y2 : Bool) =>
      bif y2 then
        k2 rb d1 (IntKind.i64.wrap (d2 + 1))
      else
        some d2
    else
      none
  else
    some d2
theorem eb2 (rf : T.RF) (rb : T.RB) (d1 : List UInt8) (d2 : Int) : T.stepB rf rb 2 (d1, d2) = b2 rf rb d1 d2 := by kernel_rfl
theorem ob2 {d1 : List UInt8} {d2 : Int} {y : Int} (h : b2 T.rf T.rb d1 d2 = some y) : k2 T.rb d1 d2 = some y := T.rb_of (κ := 2) (d := (d1, d2)) ((eb2 T.rf T.rb d1 d2).trans h)

/- bailmentref02.one loop 2 -/
noncomputable def b4 (rf : T.RF) (rb : T.RB) (d1 : List UInt8) (d2 : Int) : Option Int :=
  bif decide (d2 < (((d1.length : Nat) : Int))) then
    bif inb d2 d1.length then
      (nth d1 d2.toNat).bind fun (b1 : UInt8) =>
      (c7 rf (((b1.toNat : Nat) : Int))).bind fun (y2 : Bool) =>
      bif y2 then
        k4 rb d1 (IntKind.i64.wrap (d2 + 1))
      else
      bif inb d2 d1.length then
        (nth d1 d2.toNat).bind fun (b3 : UInt8) =>
        (c5 rf (((b3.toNat : Nat) : Int))).bind fun (y4 : Bool) =>
        bif y4 then
          k4 rb d1 (IntKind.i64.wrap (d2 + 1))
        else
          some d2
      else
        none
    else
      none
  else
    some d2
theorem eb4 (rf : T.RF) (rb : T.RB) (d1 : List UInt8) (d2 : Int) : T.stepB rf rb 4 (d1, d2) = b4 rf rb d1 d2 := by kernel_rfl
theorem ob4 {d1 : List UInt8} {d2 : Int} {y : Int} (h : b4 T.rf T.rb d1 d2 = some y) : k4 T.rb d1 d2 = some y := T.rb_of (κ := 4) (d := (d1, d2)) ((eb4 T.rf T.rb d1 d2).trans h)

/- bailmentref02.one -/
noncomputable def r4 (rf : T.RF) (rb : T.RB) (d1 : List UInt8) (d2 : Int) : Option ((Int × List UInt8 × Int) × Int) :=
  bif inb 0 d1.length then
    (nth d1 0).bind fun (b1 : UInt8) =>
    (c5 rf (((b1.toNat : Nat) : Int))).bind fun (y2 : Bool) =>
    bif y2 then
      (k2 rb d1 0).bind fun (z3 : Int) =>
      bif decide (z3 > 1) then
        bif inb 0 d1.length then
          (nth d1 0).bind fun (b4 : UInt8) =>
          bif (((b4.toNat : Nat) : Int)) == 48 then
            some ((0, ([] : List UInt8), 0), 2)
          else
          bif inb' z3 d1.length then
            (c6 rf (sub d1 (some (0, (z3.toNat - 0))))).bind fun (y5 : Int) =>
            bif decide (y5 > 2147483647) then
              some ((0, ([] : List UInt8), 0), 2)
            else
            bif inb' z3 d1.length then
              some ((2, sub d1 (some (0, (z3.toNat - 0))), d2), 0)
            else
              none
          else
            none
        else
          none
      else
      bif inb' z3 d1.length then
        (c6 rf (sub d1 (some (0, (z3.toNat - 0))))).bind fun (y6 : Int) =>
        bif decide (y6 > 2147483647) then
          some ((0, ([] : List UInt8), 0), 2)
        else
        bif inb' z3 d1.length then
          some ((2, sub d1 (some (0, (z3.toNat - 0))), d2), 0)
        else
          none
      else
        none
    else
    bif inb 0 d1.length then
      (nth d1 0).bind fun (b7 : UInt8) =>
      (c7 rf (((b7.toNat : Nat) : Int))).bind fun (y8 : Bool) =>
      bif y8 then
        (k4 rb d1 0).bind fun (z9 : Int) =>
        bif inb' z9 d1.length then
          (c8 rf (sub d1 (some (0, (z9.toNat - 0)))) d2).bind fun (y10 : (Int × List UInt8 × Int) × Int) =>
          some y10
        else
          none
      else
        (c12 rf d1).bind fun (y11 : List UInt8) =>
        bif y11 == ([] : List UInt8) then
          some ((0, ([] : List UInt8), 0), 5)
        else
          some ((4, y11, d2), 0)
    else
      none
  else
    none
theorem er4 (rf : T.RF) (rb : T.RB) (d1 : List UInt8) (d2 : Int) : T.stepF rf rb 4 (d1, d2) = r4 rf rb d1 d2 := by kernel_rfl
theorem or4 {d1 : List UInt8} {d2 : Int} {y : ((Int × List UInt8 × Int) × Int)} (h : r4 T.rf T.rb d1 d2 = some y) : c4 T.rf d1 d2 = some y := T.rf_of (f := 4) (d := (d1, d2)) ((er4 T.rf T.rb d1 d2).trans h)

/- bailmentref02.Lex loop 0 -/
noncomputable def b8 (rf : T.RF) (rb : T.RB) (d1 : Int × Int) (d2 : List (Int × List UInt8 × Int)) (d3 : List UInt8) (d4 : Int) : Option (((Int × Int) × List (Int × List UInt8 × Int)) ⊕ ((Int × Int) × List (Int × List UInt8 × Int))) :=
  bif decide (d4 < (((d3.length : Nat) : Int))) then
    bif inb d4 d3.length then
      (nth d3 d4.toNat).bind fun (b1 : UInt8) =>
      bif (((b1.toNat : Nat) : Int)) == 32 then
        k8 rb d1 d2 d3 (IntKind.i64.wrap (d4 + 1))
      else
      bif inb d4 d3.length then
        (nth d3 d4.toNat).bind fun (b2 : UInt8) =>
        bif (((b2.toNat : Nat) : Int)) == 9 then
          k8 rb d1 d2 d3 (IntKind.i64.wrap (d4 + 1))
        else
        bif inb d4 d3.length then
          (nth d3 d4.toNat).bind fun (b3 : UInt8) =>
          bif (((b3.toNat : Nat) : Int)) == 10 then
            k8 rb d1 d2 d3 (IntKind.i64.wrap (d4 + 1))
          else
          bif inb d4 d3.length then
            (nth d3 d4.toNat).bind fun (b4 : UInt8) =>
            bif (((b4.toNat : Nat) : Int)) == 13 then
              k8 rb d1 d2 d3 (IntKind.i64.wrap (d4 + 1))
            else
            bif decide ((IntKind.i64.wrap (d4 + 1)) < (((d3.length : Nat) : Int))) then
              bif inb d4 d3.length then
                (nth d3 d4.toNat).bind fun (b5 : UInt8) =>
                bif (((b5.toNat : Nat) : Int)) == 45 then
                  bif inb (IntKind.i64.wrap (d4 + 1)) d3.length then
                    (nth d3 (IntKind.i64.wrap (d4 + 1)).toNat).bind fun (b6 : UInt8) =>
                    bif (((b6.toNat : Nat) : Int)) == 45 then
                      (k9 rb d3 d4).bind fun (z7 : Int) =>
                      k8 rb d1 d2 d3 z7
                    else
                    bif inb' d4 d3.length then
                      (c4 rf (sub d3 (some (d4.toNat, (d3.length - d4.toNat)))) d4).bind fun (y8 : (Int × List UInt8 × Int) × Int) =>
                      bif y8.2 != 0 then
                        some (.inl ((y8.2, d4), []))
                      else
                      bif (Nat.ble (d2.length + 1) most) && true then
                        k8 rb d1 (d2 ++ [y8.1]) d3 (IntKind.i64.wrap (d4 + (((y8.1.2.1.length : Nat) : Int))))
                      else
                        none
                    else
                      none
                  else
                    none
                else
                bif inb' d4 d3.length then
                  (c4 rf (sub d3 (some (d4.toNat, (d3.length - d4.toNat)))) d4).bind fun (y9 : (Int × List UInt8 × Int) × Int) =>
                  bif y9.2 != 0 then
                    some (.inl ((y9.2, d4), []))
                  else
                  bif (Nat.ble (d2.length + 1) most) && true then
                    k8 rb d1 (d2 ++ [y9.1]) d3 (IntKind.i64.wrap (d4 + (((y9.1.2.1.length : Nat) : Int))))
                  else
                    none
                else
                  none
              else
                none
            else
            bif inb' d4 d3.length then
              (c4 rf (sub d3 (some (d4.toNat, (d3.length - d4.toNat)))) d4).bind fun (y10 : (Int × List UInt8 × Int) × Int) =>
              bif y10.2 != 0 then
                some (.inl ((y10.2, d4), []))
              else
              bif (Nat.ble (d2.length + 1) most) && true then
                k8 rb d1 (d2 ++ [y10.1]) d3 (IntKind.i64.wrap (d4 + (((y10.1.2.1.length : Nat) : Int))))
              else
                none
            else
              none
          else
            none
        else
          none
      else
        none
    else
      none
  else
    some (.inr (d1, d2))
theorem eb8 (rf : T.RF) (rb : T.RB) (d1 : Int × Int) (d2 : List (Int × List UInt8 × Int)) (d3 : List UInt8) (d4 : Int) : T.stepB rf rb 8 (d1, d2, d3, d4) = b8 rf rb d1 d2 d3 d4 := by kernel_rfl
theorem ob8 {d1 : Int × Int} {d2 : List (Int × List UInt8 × Int)} {d3 : List UInt8} {d4 : Int} {y : (((Int × Int) × List (Int × List UInt8 × Int)) ⊕ ((Int × Int) × List (Int × List UInt8 × Int)))} (h : b8 T.rf T.rb d1 d2 d3 d4 = some y) : k8 T.rb d1 d2 d3 d4 = some y := T.rb_of (κ := 8) (d := (d1, d2, d3, d4)) ((eb8 T.rf T.rb d1 d2 d3 d4).trans h)

/- bailmentref02.Lex loop 2 -/
noncomputable def b9 (rf : T.RF) (rb : T.RB) (d1 : List UInt8) (d2 : Int) : Option Int :=
  bif decide (d2 < (((d1.length : Nat) : Int))) then
    bif inb d2 d1.length then
      (nth d1 d2.toNat).bind fun (b1 : UInt8) =>
      bif (((b1.toNat : Nat) : Int)) != 10 then
        k9 rb d1 (IntKind.i64.wrap (d2 + 1))
      else
        some d2
    else
      none
  else
    some d2
theorem eb9 (rf : T.RF) (rb : T.RB) (d1 : List UInt8) (d2 : Int) : T.stepB rf rb 9 (d1, d2) = b9 rf rb d1 d2 := by kernel_rfl
theorem ob9 {d1 : List UInt8} {d2 : Int} {y : Int} (h : b9 T.rf T.rb d1 d2 = some y) : k9 T.rb d1 d2 = some y := T.rb_of (κ := 9) (d := (d1, d2)) ((eb9 T.rf T.rb d1 d2).trans h)

/- bailmentref02.Lex -/
noncomputable def r3 (rf : T.RF) (rb : T.RB) (d1 : List UInt8) : Option (List (Int × List UInt8 × Int) × Int × Int) :=
  bif decide ((((d1.length : Nat) : Int)) > 100000) then
    some ([], 7, (-1))
  else
    (k8 rb (0, 0) [] d1 0).bind fun (z1 : ((Int × Int) × List (Int × List UInt8 × Int)) ⊕ ((Int × Int) × List (Int × List UInt8 × Int))) =>
    match z1 with
    | .inl u2 =>
      some (u2.2, u2.1)
    | .inr w3 =>
      some (w3.2, 0, 0)
theorem er3 (rf : T.RF) (rb : T.RB) (d1 : List UInt8) : T.stepF rf rb 3 d1 = r3 rf rb d1 := by kernel_rfl
theorem or3 {d1 : List UInt8} {y : (List (Int × List UInt8 × Int) × Int × Int)} (h : r3 T.rf T.rb d1 = some y) : c3 T.rf d1 = some y := T.rf_of (f := 3) (d := d1) ((er3 T.rf T.rb d1).trans h)

/- bailmentref04.At -/
noncomputable def r25 (rf : T.RF) (rb : T.RB) (d1 : List (Int × List UInt8 × Int)) (d2 : Int) : Option Int :=
  bif decide (d2 < 0) then
    some (-1)
  else
  bif decide (d2 ≥ (((d1.length : Nat) : Int))) then
    some (-1)
  else
  bif inb d2 d1.length then
    (nth d1 d2.toNat).bind fun (x1 : Int × List UInt8 × Int) =>
    some x1.2.2
  else
    none
theorem er25 (rf : T.RF) (rb : T.RB) (d1 : List (Int × List UInt8 × Int)) (d2 : Int) : T.stepF rf rb 25 (d1, d2) = r25 rf rb d1 d2 := by kernel_rfl
theorem or25 {d1 : List (Int × List UInt8 × Int)} {d2 : Int} {y : Int} (h : r25 T.rf T.rb d1 d2 = some y) : c25 T.rf d1 d2 = some y := T.rf_of (f := 25) (d := (d1, d2)) ((er25 T.rf T.rb d1 d2).trans h)

/- (*bailment/bailmentref04.Reader).fail -/
noncomputable def r24q (rf : T.RF) (rb : T.RB) (d1 : List (Int × List UInt8 × Int) × Int × Int × Int × Int) (d2 : Int) : Option ((List (Int × List UInt8 × Int) × Int × Int × Int × Int) × List (Int × Int × Int × Int × Int × List UInt8)) :=
  bif d1.2.2.2.1 == 0 then
    agN 1 (
      (c25 rf d1.1 d1.2.1).bind fun (y1 : Int) =>
      some ((d1.1, d1.2.1, d1.2.2.1, d2, y1), [])
    )
  else
    some (d1, [])
noncomputable def r24 (rf : T.RF) (rb : T.RB) (d1 : List (Int × List UInt8 × Int) × Int × Int × Int × Int) (d2 : Int) : Option ((List (Int × List UInt8 × Int) × Int × Int × Int × Int) × List (Int × Int × Int × Int × Int × List UInt8)) :=
  bif d1.2.2.2.1 == 0 then
    (c25 rf d1.1 d1.2.1).bind fun (y1 : Int) =>
    some ((d1.1, d1.2.1, d1.2.2.1, d2, y1), [])
  else
    some (d1, [])
theorem er24 (rf : T.RF) (rb : T.RB) (d1 : List (Int × List UInt8 × Int) × Int × Int × Int × Int) (d2 : Int) : T.stepF rf rb 24 (d1, d2) = r24q rf rb d1 d2 := by kernel_rfl
theorem sr24 (rf : T.RF) (rb : T.RB) (d1 : List (Int × List UInt8 × Int) × Int × Int × Int × Int) (d2 : Int) : r24q rf rb d1 d2 = r24 rf rb d1 d2 := by
  unfold r24q r24; simp only [agN_eq, agree_self, agree_swap]
theorem or24 {d1 : List (Int × List UInt8 × Int) × Int × Int × Int × Int} {d2 : Int} {y : ((List (Int × List UInt8 × Int) × Int × Int × Int × Int) × List (Int × Int × Int × Int × Int × List UInt8))} (h : r24 T.rf T.rb d1 d2 = some y) : c24 T.rf d1 d2 = some y := T.rf_of (f := 24) (d := (d1, d2)) (((er24 T.rf T.rb d1 d2).trans (sr24 T.rf T.rb d1 d2)).trans h)

/- bailmentref03.leaf -/
noncomputable def r28 (rf : T.RF) (rb : T.RB) (d1 : Int) (d2 : Int) (d3 : List UInt8) : Option (Int × Int × Int × Int × Int × List UInt8) :=
  some (d1, (-1), (-1), (-1), d2, d3)
theorem er28 (rf : T.RF) (rb : T.RB) (d1 : Int) (d2 : Int) (d3 : List UInt8) : T.stepF rf rb 28 (d1, d2, d3) = r28 rf rb d1 d2 d3 := by kernel_rfl
theorem or28 {d1 : Int} {d2 : Int} {d3 : List UInt8} {y : (Int × Int × Int × Int × Int × List UInt8)} (h : r28 T.rf T.rb d1 d2 d3 = some y) : c28 T.rf d1 d2 d3 = some y := T.rf_of (f := 28) (d := (d1, d2, d3)) ((er28 T.rf T.rb d1 d2 d3).trans h)

/- bailmentref03.Kids -/
noncomputable def r29 (rf : T.RF) (rb : T.RB) (d1 : Int × Int × Int × Int × Int × List UInt8) : Option (List Int) :=
  bif d1.1 == 4 then
    bif d1.1 == 4 then
      some [d1.2.1]
    else
    bif d1.1 == 26 then
      some [d1.2.1, d1.2.2.1, d1.2.2.2.1]
    else
    bif d1.1 == 27 then
      bif d1.2.1 != (-1) then
        some [d1.2.1]
      else
        some []
    else
    bif d1.1 == 28 then
      bif d1.2.2.1 != (-1) then
        some [d1.2.2.1, d1.2.1]
      else
        some [d1.2.1]
    else
    bif decide (d1.1 ≥ 6) then
      bif decide (d1.1 ≤ 20) then
        some [d1.2.1, d1.2.2.1]
      else
        some []
    else
      some []
  else
  bif d1.1 == 5 then
    bif d1.1 == 5 then
      some [d1.2.1]
    else
    bif d1.1 == 26 then
      some [d1.2.1, d1.2.2.1, d1.2.2.2.1]
    else
    bif d1.1 == 27 then
      bif d1.2.1 != (-1) then
        some [d1.2.1]
      else
        some []
    else
    bif d1.1 == 28 then
      bif d1.2.2.1 != (-1) then
        some [d1.2.2.1, d1.2.1]
      else
        some [d1.2.1]
    else
    bif decide (d1.1 ≥ 6) then
      bif decide (d1.1 ≤ 20) then
        some [d1.2.1, d1.2.2.1]
      else
        some []
    else
      some []
  else
  bif d1.1 == 21 then
    bif d1.1 == 21 then
      some [d1.2.1]
    else
    bif d1.1 == 26 then
      some [d1.2.1, d1.2.2.1, d1.2.2.2.1]
    else
    bif d1.1 == 27 then
      bif d1.2.1 != (-1) then
        some [d1.2.1]
      else
        some []
    else
    bif d1.1 == 28 then
      bif d1.2.2.1 != (-1) then
        some [d1.2.2.1, d1.2.1]
      else
        some [d1.2.1]
    else
    bif decide (d1.1 ≥ 6) then
      bif decide (d1.1 ≤ 20) then
        some [d1.2.1, d1.2.2.1]
      else
        some []
    else
      some []
  else
  bif d1.1 == 22 then
    bif d1.1 == 22 then
      some [d1.2.1]
    else
    bif d1.1 == 26 then
      some [d1.2.1, d1.2.2.1, d1.2.2.2.1]
    else
    bif d1.1 == 27 then
      bif d1.2.1 != (-1) then
        some [d1.2.1]
      else
        some []
    else
    bif d1.1 == 28 then
      bif d1.2.2.1 != (-1) then
        some [d1.2.2.1, d1.2.1]
      else
        some [d1.2.1]
    else
    bif decide (d1.1 ≥ 6) then
      bif decide (d1.1 ≤ 20) then
        some [d1.2.1, d1.2.2.1]
      else
        some []
    else
      some []
  else
  bif d1.1 == 23 then
    bif d1.1 == 23 then
      some [d1.2.1]
    else
    bif d1.1 == 26 then
      some [d1.2.1, d1.2.2.1, d1.2.2.2.1]
    else
    bif d1.1 == 27 then
      bif d1.2.1 != (-1) then
        some [d1.2.1]
      else
        some []
    else
    bif d1.1 == 28 then
      bif d1.2.2.1 != (-1) then
        some [d1.2.2.1, d1.2.1]
      else
        some [d1.2.1]
    else
    bif decide (d1.1 ≥ 6) then
      bif decide (d1.1 ≤ 20) then
        some [d1.2.1, d1.2.2.1]
      else
        some []
    else
      some []
  else
  bif d1.1 == 24 then
    bif d1.1 == 24 then
      some [d1.2.1]
    else
    bif d1.1 == 26 then
      some [d1.2.1, d1.2.2.1, d1.2.2.2.1]
    else
    bif d1.1 == 27 then
      bif d1.2.1 != (-1) then
        some [d1.2.1]
      else
        some []
    else
    bif d1.1 == 28 then
      bif d1.2.2.1 != (-1) then
        some [d1.2.2.1, d1.2.1]
      else
        some [d1.2.1]
    else
    bif decide (d1.1 ≥ 6) then
      bif decide (d1.1 ≤ 20) then
        some [d1.2.1, d1.2.2.1]
      else
        some []
    else
      some []
  else
  bif d1.1 == 25 then
    some [d1.2.1]
  else
  bif d1.1 == 26 then
    some [d1.2.1, d1.2.2.1, d1.2.2.2.1]
  else
  bif d1.1 == 27 then
    bif d1.2.1 != (-1) then
      some [d1.2.1]
    else
      some []
  else
  bif d1.1 == 28 then
    bif d1.2.2.1 != (-1) then
      some [d1.2.2.1, d1.2.1]
    else
      some [d1.2.1]
  else
  bif decide (d1.1 ≥ 6) then
    bif decide (d1.1 ≤ 20) then
      some [d1.2.1, d1.2.2.1]
    else
      some []
  else
    some []
theorem er29 (rf : T.RF) (rb : T.RB) (d1 : Int × Int × Int × Int × Int × List UInt8) : T.stepF rf rb 29 d1 = r29 rf rb d1 := by kernel_rfl
theorem or29 {d1 : Int × Int × Int × Int × Int × List UInt8} {y : (List Int)} (h : r29 T.rf T.rb d1 = some y) : c29 T.rf d1 = some y := T.rf_of (f := 29) (d := d1) ((er29 T.rf T.rb d1).trans h)

/- bailmentref03.move -/
noncomputable def r31 (rf : T.RF) (rb : T.RB) (d1 : Int × Int × Int × Int × Int × List UInt8) (d2 : Int) : Option (Int × Int × Int × Int × Int × List UInt8) :=
  bif decide (d1.2.1 ≥ 0) then
    bif decide (d1.2.2.1 ≥ 0) then
      bif decide (d1.2.2.2.1 ≥ 0) then
        some (d1.1, IntKind.i64.wrap (d1.2.1 + d2), IntKind.i64.wrap (d1.2.2.1 + d2), IntKind.i64.wrap (d1.2.2.2.1 + d2), d1.2.2.2.2)
      else
        some (d1.1, IntKind.i64.wrap (d1.2.1 + d2), IntKind.i64.wrap (d1.2.2.1 + d2), d1.2.2.2)
    else
    bif decide (d1.2.2.2.1 ≥ 0) then
      some (d1.1, IntKind.i64.wrap (d1.2.1 + d2), d1.2.2.1, IntKind.i64.wrap (d1.2.2.2.1 + d2), d1.2.2.2.2)
    else
      some (d1.1, IntKind.i64.wrap (d1.2.1 + d2), d1.2.2)
  else
  bif decide (d1.2.2.1 ≥ 0) then
    bif decide (d1.2.2.2.1 ≥ 0) then
      some (d1.1, d1.2.1, IntKind.i64.wrap (d1.2.2.1 + d2), IntKind.i64.wrap (d1.2.2.2.1 + d2), d1.2.2.2.2)
    else
      some (d1.1, d1.2.1, IntKind.i64.wrap (d1.2.2.1 + d2), d1.2.2.2)
  else
  bif decide (d1.2.2.2.1 ≥ 0) then
    some (d1.1, d1.2.1, d1.2.2.1, IntKind.i64.wrap (d1.2.2.2.1 + d2), d1.2.2.2.2)
  else
    some d1
theorem er31 (rf : T.RF) (rb : T.RB) (d1 : Int × Int × Int × Int × Int × List UInt8) (d2 : Int) : T.stepF rf rb 31 (d1, d2) = r31 rf rb d1 d2 := by kernel_rfl
theorem or31 {d1 : Int × Int × Int × Int × Int × List UInt8} {d2 : Int} {y : (Int × Int × Int × Int × Int × List UInt8)} (h : r31 T.rf T.rb d1 d2 = some y) : c31 T.rf d1 d2 = some y := T.rf_of (f := 31) (d := (d1, d2)) ((er31 T.rf T.rb d1 d2).trans h)

/- bailmentref03.behind loop 0 -/
noncomputable def b13 (rf : T.RF) (rb : T.RB) (d1 : List (Int × Int × Int × Int × Int × List UInt8)) (d2 : List (Int × Int × Int × Int × Int × List UInt8)) (d3 : Int) (d4 : Int) : Option (List (Int × Int × Int × Int × Int × List UInt8)) :=
  bif decide (d4 < (((d2.length : Nat) : Int))) then
    bif inb d4 d2.length then
      (nth d2 d4.toNat).bind fun (x1 : Int × Int × Int × Int × Int × List UInt8) =>
      (c31 rf x1 d3).bind fun (y2 : Int × Int × Int × Int × Int × List UInt8) =>
      bif (Nat.ble (d1.length + 1) most) && true then
        k13 rb (d1 ++ [y2]) d2 d3 (IntKind.i64.wrap (d4 + 1))
      else
        none
    else
      none
  else
    some d1
theorem eb13 (rf : T.RF) (rb : T.RB) (d1 : List (Int × Int × Int × Int × Int × List UInt8)) (d2 : List (Int × Int × Int × Int × Int × List UInt8)) (d3 : Int) (d4 : Int) : T.stepB rf rb 13 (d1, d2, d3, d4) = b13 rf rb d1 d2 d3 d4 := by kernel_rfl
theorem ob13 {d1 : List (Int × Int × Int × Int × Int × List UInt8)} {d2 : List (Int × Int × Int × Int × Int × List UInt8)} {d3 : Int} {d4 : Int} {y : (List (Int × Int × Int × Int × Int × List UInt8))} (h : b13 T.rf T.rb d1 d2 d3 d4 = some y) : k13 T.rb d1 d2 d3 d4 = some y := T.rb_of (κ := 13) (d := (d1, d2, d3, d4)) ((eb13 T.rf T.rb d1 d2 d3 d4).trans h)

/- bailmentref03.behind -/
noncomputable def r30 (rf : T.RF) (rb : T.RB) (d1 : List (Int × Int × Int × Int × Int × List UInt8)) (d2 : List (Int × Int × Int × Int × Int × List UInt8)) : Option (List (Int × Int × Int × Int × Int × List UInt8)) :=
  (k13 rb d1 d2 (((d1.length : Nat) : Int)) 0).bind fun (z1 : List (Int × Int × Int × Int × Int × List UInt8)) =>
  some z1
theorem er30 (rf : T.RF) (rb : T.RB) (d1 : List (Int × Int × Int × Int × Int × List UInt8)) (d2 : List (Int × Int × Int × Int × Int × List UInt8)) : T.stepF rf rb 30 (d1, d2) = r30 rf rb d1 d2 := by kernel_rfl
theorem or30 {d1 : List (Int × Int × Int × Int × Int × List UInt8)} {d2 : List (Int × Int × Int × Int × Int × List UInt8)} {y : (List (Int × Int × Int × Int × Int × List UInt8))} (h : r30 T.rf T.rb d1 d2 = some y) : c30 T.rf d1 d2 = some y := T.rf_of (f := 30) (d := (d1, d2)) ((er30 T.rf T.rb d1 d2).trans h)

/- bailmentref03.aim -/
noncomputable def r32 (rf : T.RF) (rb : T.RB) (d1 : Int × Int × Int × Int × Int × List UInt8) (d2 : List Int) : Option (Int × Int × Int × Int × Int × List UInt8) :=
  bif d1.1 == 28 then
    bif (((d2.length : Nat) : Int)) == 2 then
      bif inb 0 d2.length then
        (nth d2 0).bind fun (x1 : Int) =>
        bif inb 1 d2.length then
          (nth d2 1).bind fun (x2 : Int) =>
          some (d1.1, x2, x1, d1.2.2.2)
        else
          none
      else
        none
    else
    bif decide ((((d2.length : Nat) : Int)) > 0) then
      bif inb 0 d2.length then
        (nth d2 0).bind fun (x3 : Int) =>
        bif decide ((((d2.length : Nat) : Int)) > 1) then
          bif inb 1 d2.length then
            (nth d2 1).bind fun (x4 : Int) =>
            bif decide ((((d2.length : Nat) : Int)) > 2) then
              bif inb 2 d2.length then
                (nth d2 2).bind fun (x5 : Int) =>
                some (d1.1, x3, x4, x5, d1.2.2.2.2)
              else
                none
            else
              some (d1.1, x3, x4, d1.2.2.2)
          else
            none
        else
        bif decide ((((d2.length : Nat) : Int)) > 2) then
          bif inb 2 d2.length then
            (nth d2 2).bind fun (x6 : Int) =>
            some (d1.1, x3, d1.2.2.1, x6, d1.2.2.2.2)
          else
            none
        else
          some (d1.1, x3, d1.2.2)
      else
        none
    else
    bif decide ((((d2.length : Nat) : Int)) > 1) then
      bif inb 1 d2.length then
        (nth d2 1).bind fun (x7 : Int) =>
        bif decide ((((d2.length : Nat) : Int)) > 2) then
          bif inb 2 d2.length then
            (nth d2 2).bind fun (x8 : Int) =>
            some (d1.1, d1.2.1, x7, x8, d1.2.2.2.2)
          else
            none
        else
          some (d1.1, d1.2.1, x7, d1.2.2.2)
      else
        none
    else
    bif decide ((((d2.length : Nat) : Int)) > 2) then
      bif inb 2 d2.length then
        (nth d2 2).bind fun (x9 : Int) =>
        some (d1.1, d1.2.1, d1.2.2.1, x9, d1.2.2.2.2)
      else
        none
    else
      some d1
  else
  bif decide ((((d2.length : Nat) : Int)) > 0) then
    bif inb 0 d2.length then
      (nth d2 0).bind fun (x10 : Int) =>
      bif decide ((((d2.length : Nat) : Int)) > 1) then
        bif inb 1 d2.length then
          (nth d2 1).bind fun (x11 : Int) =>
          bif decide ((((d2.length : Nat) : Int)) > 2) then
            bif inb 2 d2.length then
              (nth d2 2).bind fun (x12 : Int) =>
              some (d1.1, x10, x11, x12, d1.2.2.2.2)
            else
              none
          else
            some (d1.1, x10, x11, d1.2.2.2)
        else
          none
      else
      bif decide ((((d2.length : Nat) : Int)) > 2) then
        bif inb 2 d2.length then
          (nth d2 2).bind fun (x13 : Int) =>
          some (d1.1, x10, d1.2.2.1, x13, d1.2.2.2.2)
        else
          none
      else
        some (d1.1, x10, d1.2.2)
    else
      none
  else
  bif decide ((((d2.length : Nat) : Int)) > 1) then
    bif inb 1 d2.length then
      (nth d2 1).bind fun (x14 : Int) =>
      bif decide ((((d2.length : Nat) : Int)) > 2) then
        bif inb 2 d2.length then
          (nth d2 2).bind fun (x15 : Int) =>
          some (d1.1, d1.2.1, x14, x15, d1.2.2.2.2)
        else
          none
      else
        some (d1.1, d1.2.1, x14, d1.2.2.2)
    else
      none
  else
  bif decide ((((d2.length : Nat) : Int)) > 2) then
    bif inb 2 d2.length then
      (nth d2 2).bind fun (x16 : Int) =>
      some (d1.1, d1.2.1, d1.2.2.1, x16, d1.2.2.2.2)
    else
      none
  else
    some d1
theorem er32 (rf : T.RF) (rb : T.RB) (d1 : Int × Int × Int × Int × Int × List UInt8) (d2 : List Int) : T.stepF rf rb 32 (d1, d2) = r32 rf rb d1 d2 := by kernel_rfl
theorem or32 {d1 : Int × Int × Int × Int × Int × List UInt8} {d2 : List Int} {y : (Int × Int × Int × Int × Int × List UInt8)} (h : r32 T.rf T.rb d1 d2 = some y) : c32 T.rf d1 d2 = some y := T.rf_of (f := 32) (d := (d1, d2)) ((er32 T.rf T.rb d1 d2).trans h)

/- bailmentref03.Join loop 0 -/
noncomputable def b14 (rf : T.RF) (rb : T.RB) (d1 : List (Int × Int × Int × Int × Int × List UInt8)) (d2 : List Int) (d3 : Int) (d4 : List (List (Int × Int × Int × Int × Int × List UInt8))) (d5 : Int) (d6 : Int) : Option ((List (Int × Int × Int × Int × Int × List UInt8)) ⊕ (List (Int × Int × Int × Int × Int × List UInt8) × List Int × Int)) :=
  bif decide (d6 < (((d4.length : Nat) : Int))) then
    bif inb d6 d4.length then
      (nth d4 d6.toNat).bind fun (x1 : List (Int × Int × Int × Int × Int × List UInt8)) =>
      bif (((x1.length : Nat) : Int)) == 0 then
        some (.inl [])
      else
      bif inb d6 d4.length then
        (nth d4 d6.toNat).bind fun (x2 : List (Int × Int × Int × Int × Int × List UInt8)) =>
        (c30 rf d1 x2).bind fun (y3 : List (Int × Int × Int × Int × Int × List UInt8)) =>
        bif (Nat.ble (d2.length + 1) most) && true then
          bif d3 == 27 then
            (c28 rf 28 0 ([] : List UInt8)).bind fun (y4 : Int × Int × Int × Int × Int × List UInt8) =>
            bif (Nat.ble (y3.length + 1) most) && true then
              k14 rb (y3 ++ [(y4.1, IntKind.i64.wrap ((((y3.length : Nat) : Int)) - 1), d5, y4.2.2.2)]) (d2 ++ [IntKind.i64.wrap ((((y3.length : Nat) : Int)) - 1)]) d3 d4 (((y3.length : Nat) : Int)) (IntKind.i64.wrap (d6 + 1))
            else
              none
          else
            k14 rb y3 (d2 ++ [IntKind.i64.wrap ((((y3.length : Nat) : Int)) - 1)]) d3 d4 d5 (IntKind.i64.wrap (d6 + 1))
        else
          none
      else
        none
    else
      none
  else
    some (.inr (d1, d2, d5))
theorem eb14 (rf : T.RF) (rb : T.RB) (d1 : List (Int × Int × Int × Int × Int × List UInt8)) (d2 : List Int) (d3 : Int) (d4 : List (List (Int × Int × Int × Int × Int × List UInt8))) (d5 : Int) (d6 : Int) : T.stepB rf rb 14 (d1, d2, d3, d4, d5, d6) = b14 rf rb d1 d2 d3 d4 d5 d6 := by kernel_rfl
theorem ob14 {d1 : List (Int × Int × Int × Int × Int × List UInt8)} {d2 : List Int} {d3 : Int} {d4 : List (List (Int × Int × Int × Int × Int × List UInt8))} {d5 : Int} {d6 : Int} {y : ((List (Int × Int × Int × Int × Int × List UInt8)) ⊕ (List (Int × Int × Int × Int × Int × List UInt8) × List Int × Int))} (h : b14 T.rf T.rb d1 d2 d3 d4 d5 d6 = some y) : k14 T.rb d1 d2 d3 d4 d5 d6 = some y := T.rb_of (κ := 14) (d := (d1, d2, d3, d4, d5, d6)) ((eb14 T.rf T.rb d1 d2 d3 d4 d5 d6).trans h)

/- bailmentref03.Join -/
noncomputable def r27 (rf : T.RF) (rb : T.RB) (d1 : Int) (d2 : Int) (d3 : List UInt8) (d4 : List (List (Int × Int × Int × Int × Int × List UInt8))) : Option (List (Int × Int × Int × Int × Int × List UInt8)) :=
  (c28 rf d1 d2 d3).bind fun (y1 : Int × Int × Int × Int × Int × List UInt8) =>
  (c29 rf y1).bind fun (y2 : List Int) =>
  bif d1 == 28 then
    some []
  else
  bif d1 != 27 then
    bif (((y2.length : Nat) : Int)) != (((d4.length : Nat) : Int)) then
      some []
    else
      (k14 rb [] [] d1 d4 (-1) 0).bind fun (z3 : (List (Int × Int × Int × Int × Int × List UInt8)) ⊕ (List (Int × Int × Int × Int × Int × List UInt8) × List Int × Int)) =>
      match z3 with
      | .inl u4 =>
        some u4
      | .inr w5 =>
        bif d1 == 27 then
          bif (Nat.ble (w5.1.length + 1) most) && true then
            some (w5.1 ++ [(y1.1, w5.2.2, y1.2.2)])
          else
            none
        else
          (c32 rf y1 w5.2.1).bind fun (y6 : Int × Int × Int × Int × Int × List UInt8) =>
          bif (Nat.ble (w5.1.length + 1) most) && true then
            some (w5.1 ++ [y6])
          else
            none
  else
    (k14 rb [] [] d1 d4 (-1) 0).bind fun (z7 : (List (Int × Int × Int × Int × Int × List UInt8)) ⊕ (List (Int × Int × Int × Int × Int × List UInt8) × List Int × Int)) =>
    match z7 with
    | .inl u8 =>
      some u8
    | .inr w9 =>
      bif d1 == 27 then
        bif (Nat.ble (w9.1.length + 1) most) && true then
          some (w9.1 ++ [(y1.1, w9.2.2, y1.2.2)])
        else
          none
      else
        (c32 rf y1 w9.2.1).bind fun (y10 : Int × Int × Int × Int × Int × List UInt8) =>
        bif (Nat.ble (w9.1.length + 1) most) && true then
          some (w9.1 ++ [y10])
        else
          none
theorem er27 (rf : T.RF) (rb : T.RB) (d1 : Int) (d2 : Int) (d3 : List UInt8) (d4 : List (List (Int × Int × Int × Int × Int × List UInt8))) : T.stepF rf rb 27 (d1, d2, d3, d4) = r27 rf rb d1 d2 d3 d4 := by kernel_rfl
theorem or27 {d1 : Int} {d2 : Int} {d3 : List UInt8} {d4 : List (List (Int × Int × Int × Int × Int × List UInt8))} {y : (List (Int × Int × Int × Int × Int × List UInt8))} (h : r27 T.rf T.rb d1 d2 d3 d4 = some y) : c27 T.rf d1 d2 d3 d4 = some y := T.rf_of (f := 27) (d := (d1, d2, d3, d4)) ((er27 T.rf T.rb d1 d2 d3 d4).trans h)

/- (*bailment/bailmentref04.Reader).is -/
noncomputable def r35 (rf : T.RF) (rb : T.RB) (d1 : List (Int × List UInt8 × Int) × Int × Int × Int × Int) (d2 : List UInt8) : Option ((List (Int × List UInt8 × Int) × Int × Int × Int × Int) × Bool) :=
  bif d1.2.2.2.1 != 0 then
    some (d1, false)
  else
  bif decide (d1.2.1 ≥ (((d1.1.length : Nat) : Int))) then
    some (d1, false)
  else
  bif inb d1.2.1 d1.1.length then
    (nth d1.1 d1.2.1.toNat).bind fun (x1 : Int × List UInt8 × Int) =>
    bif x1.1 == 4 then
      some (d1, x1.2.1 == d2)
    else
    bif x1.1 == 3 then
      some (d1, x1.2.1 == d2)
    else
      some (d1, false)
  else
    none
theorem er35 (rf : T.RF) (rb : T.RB) (d1 : List (Int × List UInt8 × Int) × Int × Int × Int × Int) (d2 : List UInt8) : T.stepF rf rb 35 (d1, d2) = r35 rf rb d1 d2 := by kernel_rfl
theorem or35 {d1 : List (Int × List UInt8 × Int) × Int × Int × Int × Int} {d2 : List UInt8} {y : ((List (Int × List UInt8 × Int) × Int × Int × Int × Int) × Bool)} (h : r35 T.rf T.rb d1 d2 = some y) : c35 T.rf d1 d2 = some y := T.rf_of (f := 35) (d := (d1, d2)) ((er35 T.rf T.rb d1 d2).trans h)

/- (*bailment/bailmentref04.Reader).take -/
noncomputable def r34 (rf : T.RF) (rb : T.RB) (d1 : List (Int × List UInt8 × Int) × Int × Int × Int × Int) (d2 : List UInt8) : Option ((List (Int × List UInt8 × Int) × Int × Int × Int × Int) × Bool) :=
  (c35 rf d1 d2).bind fun (y1 : (List (Int × List UInt8 × Int) × Int × Int × Int × Int) × Bool) =>
  bif !y1.2 then
    some (y1.1, false)
  else
    some ((y1.1.1, IntKind.i64.wrap (y1.1.2.1 + 1), y1.1.2.2), true)
theorem er34 (rf : T.RF) (rb : T.RB) (d1 : List (Int × List UInt8 × Int) × Int × Int × Int × Int) (d2 : List UInt8) : T.stepF rf rb 34 (d1, d2) = r34 rf rb d1 d2 := by kernel_rfl
theorem or34 {d1 : List (Int × List UInt8 × Int) × Int × Int × Int × Int} {d2 : List UInt8} {y : ((List (Int × List UInt8 × Int) × Int × Int × Int × Int) × Bool)} (h : r34 T.rf T.rb d1 d2 = some y) : c34 T.rf d1 d2 = some y := T.rf_of (f := 34) (d := (d1, d2)) ((er34 T.rf T.rb d1 d2).trans h)

/- (*bailment/bailmentref04.Reader).need -/
noncomputable def r37 (rf : T.RF) (rb : T.RB) (d1 : List (Int × List UInt8 × Int) × Int × Int × Int × Int) (d2 : List UInt8) : Option (List (Int × List UInt8 × Int) × Int × Int × Int × Int) :=
  (c34 rf d1 d2).bind fun (y1 : (List (Int × List UInt8 × Int) × Int × Int × Int × Int) × Bool) =>
  bif !y1.2 then
    (c24 rf y1.1 5).bind fun (y2 : (List (Int × List UInt8 × Int) × Int × Int × Int × Int) × List (Int × Int × Int × Int × Int × List UInt8)) =>
    some y2.1
  else
    some y1.1
theorem er37 (rf : T.RF) (rb : T.RB) (d1 : List (Int × List UInt8 × Int) × Int × Int × Int × Int) (d2 : List UInt8) : T.stepF rf rb 37 (d1, d2) = r37 rf rb d1 d2 := by kernel_rfl
theorem or37 {d1 : List (Int × List UInt8 × Int) × Int × Int × Int × Int} {d2 : List UInt8} {y : (List (Int × List UInt8 × Int) × Int × Int × Int × Int)} (h : r37 T.rf T.rb d1 d2 = some y) : c37 T.rf d1 d2 = some y := T.rf_of (f := 37) (d := (d1, d2)) ((er37 T.rf T.rb d1 d2).trans h)

/- (*bailment/bailmentref04.Reader).Args loop 0 -/
noncomputable def b16 (rf : T.RF) (rb : T.RB) (d1 : List (Int × List UInt8 × Int) × Int × Int × Int × Int) (d2 : List (List (Int × Int × Int × Int × Int × List UInt8))) : Option (((List (Int × List UInt8 × Int) × Int × Int × Int × Int) × List (List (Int × Int × Int × Int × Int × List UInt8))) ⊕ (List (Int × List UInt8 × Int) × Int × Int × Int × Int)) :=
  bif d1.2.2.2.1 == 0 then
    (c15 rf d1).bind fun (y1 : (List (Int × List UInt8 × Int) × Int × Int × Int × Int) × List (Int × Int × Int × Int × Int × List UInt8)) =>
    bif (Nat.ble (d2.length + 1) most) && true then
      (c34 rf y1.1 ([41] : List UInt8)).bind fun (y2 : (List (Int × List UInt8 × Int) × Int × Int × Int × Int) × Bool) =>
      bif y2.2 then
        some (.inl (y2.1, d2 ++ [y1.2]))
      else
        (c37 rf y2.1 ([44] : List UInt8)).bind fun (y3 : List (Int × List UInt8 × Int) × Int × Int × Int × Int) =>
        k16 rb y3 (d2 ++ [y1.2])
    else
      none
  else
    some (.inr d1)
theorem eb16 (rf : T.RF) (rb : T.RB) (d1 : List (Int × List UInt8 × Int) × Int × Int × Int × Int) (d2 : List (List (Int × Int × Int × Int × Int × List UInt8))) : T.stepB rf rb 16 (d1, d2) = b16 rf rb d1 d2 := by kernel_rfl
theorem ob16 {d1 : List (Int × List UInt8 × Int) × Int × Int × Int × Int} {d2 : List (List (Int × Int × Int × Int × Int × List UInt8))} {y : (((List (Int × List UInt8 × Int) × Int × Int × Int × Int) × List (List (Int × Int × Int × Int × Int × List UInt8))) ⊕ (List (Int × List UInt8 × Int) × Int × Int × Int × Int))} (h : b16 T.rf T.rb d1 d2 = some y) : k16 T.rb d1 d2 = some y := T.rb_of (κ := 16) (d := (d1, d2)) ((eb16 T.rf T.rb d1 d2).trans h)

/- (*bailment/bailmentref04.Reader).Args -/
noncomputable def r36 (rf : T.RF) (rb : T.RB) (d1 : List (Int × List UInt8 × Int) × Int × Int × Int × Int) : Option ((List (Int × List UInt8 × Int) × Int × Int × Int × Int) × List (List (Int × Int × Int × Int × Int × List UInt8))) :=
  (c34 rf d1 ([41] : List UInt8)).bind fun (y1 : (List (Int × List UInt8 × Int) × Int × Int × Int × Int) × Bool) =>
  bif y1.2 then
    some (y1.1, [])
  else
    (k16 rb y1.1 []).bind fun (z2 : ((List (Int × List UInt8 × Int) × Int × Int × Int × Int) × List (List (Int × Int × Int × Int × Int × List UInt8))) ⊕ (List (Int × List UInt8 × Int) × Int × Int × Int × Int)) =>
    match z2 with
    | .inl u3 =>
      some u3
    | .inr w4 =>
      some (w4, [])
theorem er36 (rf : T.RF) (rb : T.RB) (d1 : List (Int × List UInt8 × Int) × Int × Int × Int × Int) : T.stepF rf rb 36 d1 = r36 rf rb d1 := by kernel_rfl
theorem or36 {d1 : List (Int × List UInt8 × Int) × Int × Int × Int × Int} {y : ((List (Int × List UInt8 × Int) × Int × Int × Int × Int) × List (List (Int × Int × Int × Int × Int × List UInt8)))} (h : r36 T.rf T.rb d1 = some y) : c36 T.rf d1 = some y := T.rf_of (f := 36) (d := d1) ((er36 T.rf T.rb d1).trans h)

/- (*bailment/bailmentref04.Reader).named -/
noncomputable def r33 (rf : T.RF) (rb : T.RB) (d1 : List (Int × List UInt8 × Int) × Int × Int × Int × Int) (d2 : List UInt8) : Option ((List (Int × List UInt8 × Int) × Int × Int × Int × Int) × List (Int × Int × Int × Int × Int × List UInt8)) :=
  (c34 rf (d1.1, IntKind.i64.wrap (d1.2.1 + 1), d1.2.2) ([40] : List UInt8)).bind fun (y1 : (List (Int × List UInt8 × Int) × Int × Int × Int × Int) × Bool) =>
  bif !y1.2 then
    (c27 rf 3 0 d2 []).bind fun (y2 : List (Int × Int × Int × Int × Int × List UInt8)) =>
    some (y1.1, y2)
  else
    (c36 rf y1.1).bind fun (y3 : (List (Int × List UInt8 × Int) × Int × Int × Int × Int) × List (List (Int × Int × Int × Int × Int × List UInt8))) =>
    bif y3.1.2.2.2.1 != 0 then
      some (y3.1, [])
    else
      (c27 rf 27 0 d2 y3.2).bind fun (y4 : List (Int × Int × Int × Int × Int × List UInt8)) =>
      some (y3.1, y4)
theorem er33 (rf : T.RF) (rb : T.RB) (d1 : List (Int × List UInt8 × Int) × Int × Int × Int × Int) (d2 : List UInt8) : T.stepF rf rb 33 (d1, d2) = r33 rf rb d1 d2 := by kernel_rfl
theorem or33 {d1 : List (Int × List UInt8 × Int) × Int × Int × Int × Int} {d2 : List UInt8} {y : ((List (Int × List UInt8 × Int) × Int × Int × Int × Int) × List (Int × Int × Int × Int × Int × List UInt8))} (h : r33 T.rf T.rb d1 d2 = some y) : c33 T.rf d1 d2 = some y := T.rf_of (f := 33) (d := (d1, d2)) ((er33 T.rf T.rb d1 d2).trans h)

/- bailmentref04.prefix -/
noncomputable def r38 (rf : T.RF) (rb : T.RB) (d1 : List UInt8) : Option Int :=
  bif d1 == ([110, 111, 116] : List UInt8) then
    some 4
  else
  bif d1 == ([45] : List UInt8) then
    some 5
  else
  bif d1 == ([112, 114, 101] : List UInt8) then
    some 21
  else
  bif d1 == ([111, 110, 99, 101] : List UInt8) then
    some 22
  else
  bif d1 == ([104, 105, 115, 116] : List UInt8) then
    some 23
  else
  bif d1 == ([112, 114, 101, 118] : List UInt8) then
    some 24
  else
  bif d1 == ([119, 105, 116, 104, 105, 110] : List UInt8) then
    some 25
  else
    some 0
theorem er38 (rf : T.RF) (rb : T.RB) (d1 : List UInt8) : T.stepF rf rb 38 d1 = r38 rf rb d1 := by kernel_rfl
theorem or38 {d1 : List UInt8} {y : Int} (h : r38 T.rf T.rb d1 = some y) : c38 T.rf d1 = some y := T.rf_of (f := 38) (d := d1) ((er38 T.rf T.rb d1).trans h)

/- (*bailment/bailmentref04.Reader).within -/
noncomputable def r39 (rf : T.RF) (rb : T.RB) (d1 : List (Int × List UInt8 × Int) × Int × Int × Int × Int) : Option ((List (Int × List UInt8 × Int) × Int × Int × Int × Int) × List (Int × Int × Int × Int × Int × List UInt8)) :=
  bif decide ((IntKind.i64.wrap (d1.2.1 + 1)) ≥ (((d1.1.length : Nat) : Int))) then
    (c24 rf (d1.1, IntKind.i64.wrap (d1.2.1 + 1), d1.2.2) 5).bind fun (y1 : (List (Int × List UInt8 × Int) × Int × Int × Int × Int) × List (Int × Int × Int × Int × Int × List UInt8)) =>
    some y1
  else
  bif inb (IntKind.i64.wrap (d1.2.1 + 1)) d1.1.length then
    (nth d1.1 (IntKind.i64.wrap (d1.2.1 + 1)).toNat).bind fun (x2 : Int × List UInt8 × Int) =>
    bif x2.1 != 2 then
      (c24 rf (d1.1, IntKind.i64.wrap (d1.2.1 + 1), d1.2.2) 5).bind fun (y3 : (List (Int × List UInt8 × Int) × Int × Int × Int × Int) × List (Int × Int × Int × Int × Int × List UInt8)) =>
      some y3
    else
    bif inb (IntKind.i64.wrap (d1.2.1 + 1)) d1.1.length then
      (nth d1.1 (IntKind.i64.wrap (d1.2.1 + 1)).toNat).bind fun (x4 : Int × List UInt8 × Int) =>
      (c6 rf x4.2.1).bind fun (y5 : Int) =>
      bif decide (y5 > 1000) then
        (c24 rf (d1.1, IntKind.i64.wrap (d1.2.1 + 1), d1.2.2) 5).bind fun (y6 : (List (Int × List UInt8 × Int) × Int × Int × Int × Int) × List (Int × Int × Int × Int × Int × List UInt8)) =>
        some y6
      else
      bif inb (IntKind.i64.wrap (d1.2.1 + 1)) d1.1.length then
        (nth d1.1 (IntKind.i64.wrap (d1.2.1 + 1)).toNat).bind fun (x7 : Int × List UInt8 × Int) =>
        (c6 rf x7.2.1).bind fun (y8 : Int) =>
        (c23 rf (d1.1, IntKind.i64.wrap ((IntKind.i64.wrap (d1.2.1 + 1)) + 1), d1.2.2)).bind fun (y9 : (List (Int × List UInt8 × Int) × Int × Int × Int × Int) × List (Int × Int × Int × Int × Int × List UInt8)) =>
        bif y9.1.2.2.2.1 != 0 then
          some (y9.1, [])
        else
          (c27 rf 25 y8 ([] : List UInt8) [y9.2]).bind fun (y10 : List (Int × Int × Int × Int × Int × List UInt8)) =>
          some (y9.1, y10)
      else
        none
    else
      none
  else
    none
theorem er39 (rf : T.RF) (rb : T.RB) (d1 : List (Int × List UInt8 × Int) × Int × Int × Int × Int) : T.stepF rf rb 39 d1 = r39 rf rb d1 := by kernel_rfl
theorem or39 {d1 : List (Int × List UInt8 × Int) × Int × Int × Int × Int} {y : ((List (Int × List UInt8 × Int) × Int × Int × Int × Int) × List (Int × Int × Int × Int × Int × List UInt8))} (h : r39 T.rf T.rb d1 = some y) : c39 T.rf d1 = some y := T.rf_of (f := 39) (d := d1) ((er39 T.rf T.rb d1).trans h)

/- (*bailment/bailmentref04.Reader).choice -/
noncomputable def r40 (rf : T.RF) (rb : T.RB) (d1 : List (Int × List UInt8 × Int) × Int × Int × Int × Int) : Option ((List (Int × List UInt8 × Int) × Int × Int × Int × Int) × List (Int × Int × Int × Int × Int × List UInt8)) :=
  (c15 rf d1).bind fun (y1 : (List (Int × List UInt8 × Int) × Int × Int × Int × Int) × List (Int × Int × Int × Int × Int × List UInt8)) =>
  (c37 rf y1.1 ([116, 104, 101, 110] : List UInt8)).bind fun (y2 : List (Int × List UInt8 × Int) × Int × Int × Int × Int) =>
  (c15 rf y2).bind fun (y3 : (List (Int × List UInt8 × Int) × Int × Int × Int × Int) × List (Int × Int × Int × Int × Int × List UInt8)) =>
  (c37 rf y3.1 ([101, 108, 115, 101] : List UInt8)).bind fun (y4 : List (Int × List UInt8 × Int) × Int × Int × Int × Int) =>
  (c15 rf y4).bind fun (y5 : (List (Int × List UInt8 × Int) × Int × Int × Int × Int) × List (Int × Int × Int × Int × Int × List UInt8)) =>
  bif y5.1.2.2.2.1 != 0 then
    some (y5.1, [])
  else
    (c27 rf 26 0 ([] : List UInt8) [y1.2, y3.2, y5.2]).bind fun (y6 : List (Int × Int × Int × Int × Int × List UInt8)) =>
    some (y5.1, y6)
theorem er40 (rf : T.RF) (rb : T.RB) (d1 : List (Int × List UInt8 × Int) × Int × Int × Int × Int) : T.stepF rf rb 40 d1 = r40 rf rb d1 := by kernel_rfl
theorem or40 {d1 : List (Int × List UInt8 × Int) × Int × Int × Int × Int} {y : ((List (Int × List UInt8 × Int) × Int × Int × Int × Int) × List (Int × Int × Int × Int × Int × List UInt8))} (h : r40 T.rf T.rb d1 = some y) : c40 T.rf d1 = some y := T.rf_of (f := 40) (d := d1) ((er40 T.rf T.rb d1).trans h)

/- (*bailment/bailmentref04.Reader).begun -/
noncomputable def r26 (rf : T.RF) (rb : T.RB) (d1 : List (Int × List UInt8 × Int) × Int × Int × Int × Int) (d2 : Int × List UInt8 × Int) : Option ((List (Int × List UInt8 × Int) × Int × Int × Int × Int) × List (Int × Int × Int × Int × Int × List UInt8)) :=
  bif d2.1 == 2 then
    (c6 rf d2.2.1).bind fun (y1 : Int) =>
    (c27 rf 1 y1 ([] : List UInt8) []).bind fun (y2 : List (Int × Int × Int × Int × Int × List UInt8)) =>
    some ((d1.1, IntKind.i64.wrap (d1.2.1 + 1), d1.2.2), y2)
  else
  bif d2.1 == 1 then
    (c33 rf d1 d2.2.1).bind fun (y3 : (List (Int × List UInt8 × Int) × Int × Int × Int × Int) × List (Int × Int × Int × Int × Int × List UInt8)) =>
    some y3
  else
  bif d2.1 != 4 then
    bif d2.1 != 3 then
      (c24 rf d1 5).bind fun (y4 : (List (Int × List UInt8 × Int) × Int × Int × Int × Int) × List (Int × Int × Int × Int × Int × List UInt8)) =>
      some y4
    else
      (c38 rf d2.2.1).bind fun (y5 : Int) =>
      bif y5 == 25 then
        (c39 rf d1).bind fun (y6 : (List (Int × List UInt8 × Int) × Int × Int × Int × Int) × List (Int × Int × Int × Int × Int × List UInt8)) =>
        some y6
      else
      bif decide (y5 > 0) then
        (c23 rf (d1.1, IntKind.i64.wrap (d1.2.1 + 1), d1.2.2)).bind fun (y7 : (List (Int × List UInt8 × Int) × Int × Int × Int × Int) × List (Int × Int × Int × Int × Int × List UInt8)) =>
        bif y7.1.2.2.2.1 != 0 then
          some (y7.1, [])
        else
          (c27 rf y5 0 ([] : List UInt8) [y7.2]).bind fun (y8 : List (Int × Int × Int × Int × Int × List UInt8)) =>
          some (y7.1, y8)
      else
        (c34 rf d1 ([116, 114, 117, 101] : List UInt8)).bind fun (y9 : (List (Int × List UInt8 × Int) × Int × Int × Int × Int) × Bool) =>
        bif y9.2 then
          (c27 rf 2 1 ([] : List UInt8) []).bind fun (y10 : List (Int × Int × Int × Int × Int × List UInt8)) =>
          some (y9.1, y10)
        else
          (c34 rf y9.1 ([102, 97, 108, 115, 101] : List UInt8)).bind fun (y11 : (List (Int × List UInt8 × Int) × Int × Int × Int × Int) × Bool) =>
          bif y11.2 then
            (c27 rf 2 0 ([] : List UInt8) []).bind fun (y12 : List (Int × Int × Int × Int × Int × List UInt8)) =>
            some (y11.1, y12)
          else
            (c34 rf y11.1 ([40] : List UInt8)).bind fun (y13 : (List (Int × List UInt8 × Int) × Int × Int × Int × Int) × Bool) =>
            bif y13.2 then
              (c15 rf y13.1).bind fun (y14 : (List (Int × List UInt8 × Int) × Int × Int × Int × Int) × List (Int × Int × Int × Int × Int × List UInt8)) =>
              (c37 rf y14.1 ([41] : List UInt8)).bind fun (y15 : List (Int × List UInt8 × Int) × Int × Int × Int × Int) =>
              some (y15, y14.2)
            else
              (c34 rf y13.1 ([105, 102] : List UInt8)).bind fun (y16 : (List (Int × List UInt8 × Int) × Int × Int × Int × Int) × Bool) =>
              bif y16.2 then
                (c40 rf y16.1).bind fun (y17 : (List (Int × List UInt8 × Int) × Int × Int × Int × Int) × List (Int × Int × Int × Int × Int × List UInt8)) =>
                some y17
              else
                (c24 rf y16.1 5).bind fun (y18 : (List (Int × List UInt8 × Int) × Int × Int × Int × Int) × List (Int × Int × Int × Int × Int × List UInt8)) =>
                some y18
  else
    (c38 rf d2.2.1).bind fun (y19 : Int) =>
    bif y19 == 25 then
      (c39 rf d1).bind fun (y20 : (List (Int × List UInt8 × Int) × Int × Int × Int × Int) × List (Int × Int × Int × Int × Int × List UInt8)) =>
      some y20
    else
    bif decide (y19 > 0) then
      (c23 rf (d1.1, IntKind.i64.wrap (d1.2.1 + 1), d1.2.2)).bind fun (y21 : (List (Int × List UInt8 × Int) × Int × Int × Int × Int) × List (Int × Int × Int × Int × Int × List UInt8)) =>
      bif y21.1.2.2.2.1 != 0 then
        some (y21.1, [])
      else
        (c27 rf y19 0 ([] : List UInt8) [y21.2]).bind fun (y22 : List (Int × Int × Int × Int × Int × List UInt8)) =>
        some (y21.1, y22)
    else
      (c34 rf d1 ([116, 114, 117, 101] : List UInt8)).bind fun (y23 : (List (Int × List UInt8 × Int) × Int × Int × Int × Int) × Bool) =>
      bif y23.2 then
        (c27 rf 2 1 ([] : List UInt8) []).bind fun (y24 : List (Int × Int × Int × Int × Int × List UInt8)) =>
        some (y23.1, y24)
      else
        (c34 rf y23.1 ([102, 97, 108, 115, 101] : List UInt8)).bind fun (y25 : (List (Int × List UInt8 × Int) × Int × Int × Int × Int) × Bool) =>
        bif y25.2 then
          (c27 rf 2 0 ([] : List UInt8) []).bind fun (y26 : List (Int × Int × Int × Int × Int × List UInt8)) =>
          some (y25.1, y26)
        else
          (c34 rf y25.1 ([40] : List UInt8)).bind fun (y27 : (List (Int × List UInt8 × Int) × Int × Int × Int × Int) × Bool) =>
          bif y27.2 then
            (c15 rf y27.1).bind fun (y28 : (List (Int × List UInt8 × Int) × Int × Int × Int × Int) × List (Int × Int × Int × Int × Int × List UInt8)) =>
            (c37 rf y28.1 ([41] : List UInt8)).bind fun (y29 : List (Int × List UInt8 × Int) × Int × Int × Int × Int) =>
            some (y29, y28.2)
          else
            (c34 rf y27.1 ([105, 102] : List UInt8)).bind fun (y30 : (List (Int × List UInt8 × Int) × Int × Int × Int × Int) × Bool) =>
            bif y30.2 then
              (c40 rf y30.1).bind fun (y31 : (List (Int × List UInt8 × Int) × Int × Int × Int × Int) × List (Int × Int × Int × Int × Int × List UInt8)) =>
              some y31
            else
              (c24 rf y30.1 5).bind fun (y32 : (List (Int × List UInt8 × Int) × Int × Int × Int × Int) × List (Int × Int × Int × Int × Int × List UInt8)) =>
              some y32
theorem er26 (rf : T.RF) (rb : T.RB) (d1 : List (Int × List UInt8 × Int) × Int × Int × Int × Int) (d2 : Int × List UInt8 × Int) : T.stepF rf rb 26 (d1, d2) = r26 rf rb d1 d2 := by kernel_rfl
theorem or26 {d1 : List (Int × List UInt8 × Int) × Int × Int × Int × Int} {d2 : Int × List UInt8 × Int} {y : ((List (Int × List UInt8 × Int) × Int × Int × Int × Int) × List (Int × Int × Int × Int × Int × List UInt8))} (h : r26 T.rf T.rb d1 d2 = some y) : c26 T.rf d1 d2 = some y := T.rf_of (f := 26) (d := (d1, d2)) ((er26 T.rf T.rb d1 d2).trans h)

/- (*bailment/bailmentref04.Reader).operand -/
noncomputable def r23 (rf : T.RF) (rb : T.RB) (d1 : List (Int × List UInt8 × Int) × Int × Int × Int × Int) : Option ((List (Int × List UInt8 × Int) × Int × Int × Int × Int) × List (Int × Int × Int × Int × Int × List UInt8)) :=
  bif d1.2.2.2.1 != 0 then
    some (d1, [])
  else
  bif decide (d1.2.2.1 ≥ 200) then
    (c24 rf d1 6).bind fun (y1 : (List (Int × List UInt8 × Int) × Int × Int × Int × Int) × List (Int × Int × Int × Int × Int × List UInt8)) =>
    some y1
  else
  bif decide (d1.2.1 ≥ (((d1.1.length : Nat) : Int))) then
    (c24 rf d1 5).bind fun (y2 : (List (Int × List UInt8 × Int) × Int × Int × Int × Int) × List (Int × Int × Int × Int × Int × List UInt8)) =>
    some y2
  else
  bif inb d1.2.1 d1.1.length then
    (nth d1.1 d1.2.1.toNat).bind fun (x3 : Int × List UInt8 × Int) =>
    (c26 rf (d1.1, d1.2.1, IntKind.i64.wrap (d1.2.2.1 + 1), d1.2.2.2) x3).bind fun (y4 : (List (Int × List UInt8 × Int) × Int × Int × Int × Int) × List (Int × Int × Int × Int × Int × List UInt8)) =>
    some ((y4.1.1, y4.1.2.1, IntKind.i64.wrap (y4.1.2.2.1 - 1), y4.1.2.2.2), y4.2)
  else
    none
theorem er23 (rf : T.RF) (rb : T.RB) (d1 : List (Int × List UInt8 × Int) × Int × Int × Int × Int) : T.stepF rf rb 23 d1 = r23 rf rb d1 := by kernel_rfl
theorem or23 {d1 : List (Int × List UInt8 × Int) × Int × Int × Int × Int} {y : ((List (Int × List UInt8 × Int) × Int × Int × Int × Int) × List (Int × Int × Int × Int × Int × List UInt8))} (h : r23 T.rf T.rb d1 = some y) : c23 T.rf d1 = some y := T.rf_of (f := 23) (d := d1) ((er23 T.rf T.rb d1).trans h)

/- (*bailment/bailmentref04.Reader).join -/
noncomputable def r41 (rf : T.RF) (rb : T.RB) (d1 : List (Int × List UInt8 × Int) × Int × Int × Int × Int) (d2 : Int) (d3 : List (Int × Int × Int × Int × Int × List UInt8)) (d4 : List (Int × Int × Int × Int × Int × List UInt8)) : Option ((List (Int × List UInt8 × Int) × Int × Int × Int × Int) × List (Int × Int × Int × Int × Int × List UInt8)) :=
  bif d1.2.2.2.1 != 0 then
    some (d1, [])
  else
    (c27 rf d2 0 ([] : List UInt8) [d3, d4]).bind fun (y1 : List (Int × Int × Int × Int × Int × List UInt8)) =>
    some (d1, y1)
theorem er41 (rf : T.RF) (rb : T.RB) (d1 : List (Int × List UInt8 × Int) × Int × Int × Int × Int) (d2 : Int) (d3 : List (Int × Int × Int × Int × Int × List UInt8)) (d4 : List (Int × Int × Int × Int × Int × List UInt8)) : T.stepF rf rb 41 (d1, d2, d3, d4) = r41 rf rb d1 d2 d3 d4 := by kernel_rfl
theorem or41 {d1 : List (Int × List UInt8 × Int) × Int × Int × Int × Int} {d2 : Int} {d3 : List (Int × Int × Int × Int × Int × List UInt8)} {d4 : List (Int × Int × Int × Int × Int × List UInt8)} {y : ((List (Int × List UInt8 × Int) × Int × Int × Int × Int) × List (Int × Int × Int × Int × Int × List UInt8))} (h : r41 T.rf T.rb d1 d2 d3 d4 = some y) : c41 T.rf d1 d2 d3 d4 = some y := T.rf_of (f := 41) (d := (d1, d2, d3, d4)) ((er41 T.rf T.rb d1 d2 d3 d4).trans h)

/- (*bailment/bailmentref04.Reader).prod loop 0 -/
noncomputable def b18 (rf : T.RF) (rb : T.RB) (d1 : List (Int × List UInt8 × Int) × Int × Int × Int × Int) (d2 : List (Int × Int × Int × Int × Int × List UInt8)) : Option ((List (Int × List UInt8 × Int) × Int × Int × Int × Int) × List (Int × Int × Int × Int × Int × List UInt8)) :=
  (c35 rf d1 ([42] : List UInt8)).bind fun (y1 : (List (Int × List UInt8 × Int) × Int × Int × Int × Int) × Bool) =>
  bif y1.2 then
    (c35 rf y1.1 ([100, 105, 118] : List UInt8)).bind fun (y2 : (List (Int × List UInt8 × Int) × Int × Int × Int × Int) × Bool) =>
    bif y2.2 then
      (c35 rf y2.1 ([109, 111, 100] : List UInt8)).bind fun (y3 : (List (Int × List UInt8 × Int) × Int × Int × Int × Int) × Bool) =>
      bif y3.2 then
        (c23 rf (y3.1.1, IntKind.i64.wrap (y3.1.2.1 + 1), y3.1.2.2)).bind fun (y4 : (List (Int × List UInt8 × Int) × Int × Int × Int × Int) × List (Int × Int × Int × Int × Int × List UInt8)) =>
        (c41 rf y4.1 18 d2 y4.2).bind fun (y5 : (List (Int × List UInt8 × Int) × Int × Int × Int × Int) × List (Int × Int × Int × Int × Int × List UInt8)) =>
        k18 rb y5.1 y5.2
      else
        (c23 rf (y3.1.1, IntKind.i64.wrap (y3.1.2.1 + 1), y3.1.2.2)).bind fun (y6 : (List (Int × List UInt8 × Int) × Int × Int × Int × Int) × List (Int × Int × Int × Int × Int × List UInt8)) =>
        (c41 rf y6.1 17 d2 y6.2).bind fun (y7 : (List (Int × List UInt8 × Int) × Int × Int × Int × Int) × List (Int × Int × Int × Int × Int × List UInt8)) =>
        k18 rb y7.1 y7.2
    else
      (c35 rf y2.1 ([109, 111, 100] : List UInt8)).bind fun (y8 : (List (Int × List UInt8 × Int) × Int × Int × Int × Int) × Bool) =>
      bif y8.2 then
        (c23 rf (y8.1.1, IntKind.i64.wrap (y8.1.2.1 + 1), y8.1.2.2)).bind fun (y9 : (List (Int × List UInt8 × Int) × Int × Int × Int × Int) × List (Int × Int × Int × Int × Int × List UInt8)) =>
        (c41 rf y9.1 18 d2 y9.2).bind fun (y10 : (List (Int × List UInt8 × Int) × Int × Int × Int × Int) × List (Int × Int × Int × Int × Int × List UInt8)) =>
        k18 rb y10.1 y10.2
      else
        (c23 rf (y8.1.1, IntKind.i64.wrap (y8.1.2.1 + 1), y8.1.2.2)).bind fun (y11 : (List (Int × List UInt8 × Int) × Int × Int × Int × Int) × List (Int × Int × Int × Int × Int × List UInt8)) =>
        (c41 rf y11.1 16 d2 y11.2).bind fun (y12 : (List (Int × List UInt8 × Int) × Int × Int × Int × Int) × List (Int × Int × Int × Int × Int × List UInt8)) =>
        k18 rb y12.1 y12.2
  else
    (c35 rf y1.1 ([100, 105, 118] : List UInt8)).bind fun (y13 : (List (Int × List UInt8 × Int) × Int × Int × Int × Int) × Bool) =>
    bif y13.2 then
      (c35 rf y13.1 ([100, 105, 118] : List UInt8)).bind fun (y14 : (List (Int × List UInt8 × Int) × Int × Int × Int × Int) × Bool) =>
      bif y14.2 then
        (c35 rf y14.1 ([109, 111, 100] : List UInt8)).bind fun (y15 : (List (Int × List UInt8 × Int) × Int × Int × Int × Int) × Bool) =>
        bif y15.2 then
          (c23 rf (y15.1.1, IntKind.i64.wrap (y15.1.2.1 + 1), y15.1.2.2)).bind fun (y16 : (List (Int × List UInt8 × Int) × Int × Int × Int × Int) × List (Int × Int × Int × Int × Int × List UInt8)) =>
          (c41 rf y16.1 18 d2 y16.2).bind fun (y17 : (List (Int × List UInt8 × Int) × Int × Int × Int × Int) × List (Int × Int × Int × Int × Int × List UInt8)) =>
          k18 rb y17.1 y17.2
        else
          (c23 rf (y15.1.1, IntKind.i64.wrap (y15.1.2.1 + 1), y15.1.2.2)).bind fun (y18 : (List (Int × List UInt8 × Int) × Int × Int × Int × Int) × List (Int × Int × Int × Int × Int × List UInt8)) =>
          (c41 rf y18.1 17 d2 y18.2).bind fun (y19 : (List (Int × List UInt8 × Int) × Int × Int × Int × Int) × List (Int × Int × Int × Int × Int × List UInt8)) =>
          k18 rb y19.1 y19.2
      else
        (c35 rf y14.1 ([109, 111, 100] : List UInt8)).bind fun (y20 : (List (Int × List UInt8 × Int) × Int × Int × Int × Int) × Bool) =>
        bif y20.2 then
          (c23 rf (y20.1.1, IntKind.i64.wrap (y20.1.2.1 + 1), y20.1.2.2)).bind fun (y21 : (List (Int × List UInt8 × Int) × Int × Int × Int × Int) × List (Int × Int × Int × Int × Int × List UInt8)) =>
          (c41 rf y21.1 18 d2 y21.2).bind fun (y22 : (List (Int × List UInt8 × Int) × Int × Int × Int × Int) × List (Int × Int × Int × Int × Int × List UInt8)) =>
          k18 rb y22.1 y22.2
        else
          (c23 rf (y20.1.1, IntKind.i64.wrap (y20.1.2.1 + 1), y20.1.2.2)).bind fun (y23 : (List (Int × List UInt8 × Int) × Int × Int × Int × Int) × List (Int × Int × Int × Int × Int × List UInt8)) =>
          (c41 rf y23.1 16 d2 y23.2).bind fun (y24 : (List (Int × List UInt8 × Int) × Int × Int × Int × Int) × List (Int × Int × Int × Int × Int × List UInt8)) =>
          k18 rb y24.1 y24.2
    else
      (c35 rf y13.1 ([109, 111, 100] : List UInt8)).bind fun (y25 : (List (Int × List UInt8 × Int) × Int × Int × Int × Int) × Bool) =>
      bif y25.2 then
        (c35 rf y25.1 ([100, 105, 118] : List UInt8)).bind fun (y26 : (List (Int × List UInt8 × Int) × Int × Int × Int × Int) × Bool) =>
        bif y26.2 then
          (c35 rf y26.1 ([109, 111, 100] : List UInt8)).bind fun (y27 : (List (Int × List UInt8 × Int) × Int × Int × Int × Int) × Bool) =>
          bif y27.2 then
            (c23 rf (y27.1.1, IntKind.i64.wrap (y27.1.2.1 + 1), y27.1.2.2)).bind fun (y28 : (List (Int × List UInt8 × Int) × Int × Int × Int × Int) × List (Int × Int × Int × Int × Int × List UInt8)) =>
            (c41 rf y28.1 18 d2 y28.2).bind fun (y29 : (List (Int × List UInt8 × Int) × Int × Int × Int × Int) × List (Int × Int × Int × Int × Int × List UInt8)) =>
            k18 rb y29.1 y29.2
          else
            (c23 rf (y27.1.1, IntKind.i64.wrap (y27.1.2.1 + 1), y27.1.2.2)).bind fun (y30 : (List (Int × List UInt8 × Int) × Int × Int × Int × Int) × List (Int × Int × Int × Int × Int × List UInt8)) =>
            (c41 rf y30.1 17 d2 y30.2).bind fun (y31 : (List (Int × List UInt8 × Int) × Int × Int × Int × Int) × List (Int × Int × Int × Int × Int × List UInt8)) =>
            k18 rb y31.1 y31.2
        else
          (c35 rf y26.1 ([109, 111, 100] : List UInt8)).bind fun (y32 : (List (Int × List UInt8 × Int) × Int × Int × Int × Int) × Bool) =>
          bif y32.2 then
            (c23 rf (y32.1.1, IntKind.i64.wrap (y32.1.2.1 + 1), y32.1.2.2)).bind fun (y33 : (List (Int × List UInt8 × Int) × Int × Int × Int × Int) × List (Int × Int × Int × Int × Int × List UInt8)) =>
            (c41 rf y33.1 18 d2 y33.2).bind fun (y34 : (List (Int × List UInt8 × Int) × Int × Int × Int × Int) × List (Int × Int × Int × Int × Int × List UInt8)) =>
            k18 rb y34.1 y34.2
          else
            (c23 rf (y32.1.1, IntKind.i64.wrap (y32.1.2.1 + 1), y32.1.2.2)).bind fun (y35 : (List (Int × List UInt8 × Int) × Int × Int × Int × Int) × List (Int × Int × Int × Int × Int × List UInt8)) =>
            (c41 rf y35.1 16 d2 y35.2).bind fun (y36 : (List (Int × List UInt8 × Int) × Int × Int × Int × Int) × List (Int × Int × Int × Int × Int × List UInt8)) =>
            k18 rb y36.1 y36.2
      else
        some (y25.1, d2)
theorem eb18 (rf : T.RF) (rb : T.RB) (d1 : List (Int × List UInt8 × Int) × Int × Int × Int × Int) (d2 : List (Int × Int × Int × Int × Int × List UInt8)) : T.stepB rf rb 18 (d1, d2) = b18 rf rb d1 d2 := by kernel_rfl
theorem ob18 {d1 : List (Int × List UInt8 × Int) × Int × Int × Int × Int} {d2 : List (Int × Int × Int × Int × Int × List UInt8)} {y : ((List (Int × List UInt8 × Int) × Int × Int × Int × Int) × List (Int × Int × Int × Int × Int × List UInt8))} (h : b18 T.rf T.rb d1 d2 = some y) : k18 T.rb d1 d2 = some y := T.rb_of (κ := 18) (d := (d1, d2)) ((eb18 T.rf T.rb d1 d2).trans h)

/- (*bailment/bailmentref04.Reader).prod -/
noncomputable def r22 (rf : T.RF) (rb : T.RB) (d1 : List (Int × List UInt8 × Int) × Int × Int × Int × Int) : Option ((List (Int × List UInt8 × Int) × Int × Int × Int × Int) × List (Int × Int × Int × Int × Int × List UInt8)) :=
  (c23 rf d1).bind fun (y1 : (List (Int × List UInt8 × Int) × Int × Int × Int × Int) × List (Int × Int × Int × Int × Int × List UInt8)) =>
  (k18 rb y1.1 y1.2).bind fun (z2 : (List (Int × List UInt8 × Int) × Int × Int × Int × Int) × List (Int × Int × Int × Int × Int × List UInt8)) =>
  some z2
theorem er22 (rf : T.RF) (rb : T.RB) (d1 : List (Int × List UInt8 × Int) × Int × Int × Int × Int) : T.stepF rf rb 22 d1 = r22 rf rb d1 := by kernel_rfl
theorem or22 {d1 : List (Int × List UInt8 × Int) × Int × Int × Int × Int} {y : ((List (Int × List UInt8 × Int) × Int × Int × Int × Int) × List (Int × Int × Int × Int × Int × List UInt8))} (h : r22 T.rf T.rb d1 = some y) : c22 T.rf d1 = some y := T.rf_of (f := 22) (d := d1) ((er22 T.rf T.rb d1).trans h)

/- (*bailment/bailmentref04.Reader).sum loop 0 -/
noncomputable def b20 (rf : T.RF) (rb : T.RB) (d1 : List (Int × List UInt8 × Int) × Int × Int × Int × Int) (d2 : List (Int × Int × Int × Int × Int × List UInt8)) : Option ((List (Int × List UInt8 × Int) × Int × Int × Int × Int) × List (Int × Int × Int × Int × Int × List UInt8)) :=
  (c35 rf d1 ([43] : List UInt8)).bind fun (y1 : (List (Int × List UInt8 × Int) × Int × Int × Int × Int) × Bool) =>
  bif y1.2 then
    (c35 rf y1.1 ([45] : List UInt8)).bind fun (y2 : (List (Int × List UInt8 × Int) × Int × Int × Int × Int) × Bool) =>
    bif y2.2 then
      (c22 rf (y2.1.1, IntKind.i64.wrap (y2.1.2.1 + 1), y2.1.2.2)).bind fun (y3 : (List (Int × List UInt8 × Int) × Int × Int × Int × Int) × List (Int × Int × Int × Int × Int × List UInt8)) =>
      (c41 rf y3.1 15 d2 y3.2).bind fun (y4 : (List (Int × List UInt8 × Int) × Int × Int × Int × Int) × List (Int × Int × Int × Int × Int × List UInt8)) =>
      k20 rb y4.1 y4.2
    else
      (c22 rf (y2.1.1, IntKind.i64.wrap (y2.1.2.1 + 1), y2.1.2.2)).bind fun (y5 : (List (Int × List UInt8 × Int) × Int × Int × Int × Int) × List (Int × Int × Int × Int × Int × List UInt8)) =>
      (c41 rf y5.1 14 d2 y5.2).bind fun (y6 : (List (Int × List UInt8 × Int) × Int × Int × Int × Int) × List (Int × Int × Int × Int × Int × List UInt8)) =>
      k20 rb y6.1 y6.2
  else
    (c35 rf y1.1 ([45] : List UInt8)).bind fun (y7 : (List (Int × List UInt8 × Int) × Int × Int × Int × Int) × Bool) =>
    bif y7.2 then
      (c35 rf y7.1 ([45] : List UInt8)).bind fun (y8 : (List (Int × List UInt8 × Int) × Int × Int × Int × Int) × Bool) =>
      bif y8.2 then
        (c22 rf (y8.1.1, IntKind.i64.wrap (y8.1.2.1 + 1), y8.1.2.2)).bind fun (y9 : (List (Int × List UInt8 × Int) × Int × Int × Int × Int) × List (Int × Int × Int × Int × Int × List UInt8)) =>
        (c41 rf y9.1 15 d2 y9.2).bind fun (y10 : (List (Int × List UInt8 × Int) × Int × Int × Int × Int) × List (Int × Int × Int × Int × Int × List UInt8)) =>
        k20 rb y10.1 y10.2
      else
        (c22 rf (y8.1.1, IntKind.i64.wrap (y8.1.2.1 + 1), y8.1.2.2)).bind fun (y11 : (List (Int × List UInt8 × Int) × Int × Int × Int × Int) × List (Int × Int × Int × Int × Int × List UInt8)) =>
        (c41 rf y11.1 14 d2 y11.2).bind fun (y12 : (List (Int × List UInt8 × Int) × Int × Int × Int × Int) × List (Int × Int × Int × Int × Int × List UInt8)) =>
        k20 rb y12.1 y12.2
    else
      some (y7.1, d2)
theorem eb20 (rf : T.RF) (rb : T.RB) (d1 : List (Int × List UInt8 × Int) × Int × Int × Int × Int) (d2 : List (Int × Int × Int × Int × Int × List UInt8)) : T.stepB rf rb 20 (d1, d2) = b20 rf rb d1 d2 := by kernel_rfl
theorem ob20 {d1 : List (Int × List UInt8 × Int) × Int × Int × Int × Int} {d2 : List (Int × Int × Int × Int × Int × List UInt8)} {y : ((List (Int × List UInt8 × Int) × Int × Int × Int × Int) × List (Int × Int × Int × Int × Int × List UInt8))} (h : b20 T.rf T.rb d1 d2 = some y) : k20 T.rb d1 d2 = some y := T.rb_of (κ := 20) (d := (d1, d2)) ((eb20 T.rf T.rb d1 d2).trans h)

/- (*bailment/bailmentref04.Reader).sum -/
noncomputable def r21 (rf : T.RF) (rb : T.RB) (d1 : List (Int × List UInt8 × Int) × Int × Int × Int × Int) : Option ((List (Int × List UInt8 × Int) × Int × Int × Int × Int) × List (Int × Int × Int × Int × Int × List UInt8)) :=
  (c22 rf d1).bind fun (y1 : (List (Int × List UInt8 × Int) × Int × Int × Int × Int) × List (Int × Int × Int × Int × Int × List UInt8)) =>
  (k20 rb y1.1 y1.2).bind fun (z2 : (List (Int × List UInt8 × Int) × Int × Int × Int × Int) × List (Int × Int × Int × Int × Int × List UInt8)) =>
  some z2
theorem er21 (rf : T.RF) (rb : T.RB) (d1 : List (Int × List UInt8 × Int) × Int × Int × Int × Int) : T.stepF rf rb 21 d1 = r21 rf rb d1 := by kernel_rfl
theorem or21 {d1 : List (Int × List UInt8 × Int) × Int × Int × Int × Int} {y : ((List (Int × List UInt8 × Int) × Int × Int × Int × Int) × List (Int × Int × Int × Int × Int × List UInt8))} (h : r21 T.rf T.rb d1 = some y) : c21 T.rf d1 = some y := T.rf_of (f := 21) (d := d1) ((er21 T.rf T.rb d1).trans h)

/- (*bailment/bailmentref04.Reader).cmp -/
noncomputable def r20 (rf : T.RF) (rb : T.RB) (d1 : List (Int × List UInt8 × Int) × Int × Int × Int × Int) : Option ((List (Int × List UInt8 × Int) × Int × Int × Int × Int) × List (Int × Int × Int × Int × Int × List UInt8)) :=
  (c21 rf d1).bind fun (y1 : (List (Int × List UInt8 × Int) × Int × Int × Int × Int) × List (Int × Int × Int × Int × Int × List UInt8)) =>
  (c34 rf y1.1 ([61] : List UInt8)).bind fun (y2 : (List (Int × List UInt8 × Int) × Int × Int × Int × Int) × Bool) =>
  bif y2.2 then
    (c21 rf y2.1).bind fun (y3 : (List (Int × List UInt8 × Int) × Int × Int × Int × Int) × List (Int × Int × Int × Int × Int × List UInt8)) =>
    (c41 rf y3.1 10 y1.2 y3.2).bind fun (y4 : (List (Int × List UInt8 × Int) × Int × Int × Int × Int) × List (Int × Int × Int × Int × Int × List UInt8)) =>
    some y4
  else
    (c34 rf y2.1 ([60, 62] : List UInt8)).bind fun (y5 : (List (Int × List UInt8 × Int) × Int × Int × Int × Int) × Bool) =>
    bif y5.2 then
      (c21 rf y5.1).bind fun (y6 : (List (Int × List UInt8 × Int) × Int × Int × Int × Int) × List (Int × Int × Int × Int × Int × List UInt8)) =>
      (c41 rf y6.1 11 y1.2 y6.2).bind fun (y7 : (List (Int × List UInt8 × Int) × Int × Int × Int × Int) × List (Int × Int × Int × Int × Int × List UInt8)) =>
      some y7
    else
      (c34 rf y5.1 ([60] : List UInt8)).bind fun (y8 : (List (Int × List UInt8 × Int) × Int × Int × Int × Int) × Bool) =>
      bif y8.2 then
        (c21 rf y8.1).bind fun (y9 : (List (Int × List UInt8 × Int) × Int × Int × Int × Int) × List (Int × Int × Int × Int × Int × List UInt8)) =>
        (c41 rf y9.1 12 y1.2 y9.2).bind fun (y10 : (List (Int × List UInt8 × Int) × Int × Int × Int × Int) × List (Int × Int × Int × Int × Int × List UInt8)) =>
        some y10
      else
        (c34 rf y8.1 ([60, 61] : List UInt8)).bind fun (y11 : (List (Int × List UInt8 × Int) × Int × Int × Int × Int) × Bool) =>
        bif y11.2 then
          (c21 rf y11.1).bind fun (y12 : (List (Int × List UInt8 × Int) × Int × Int × Int × Int) × List (Int × Int × Int × Int × Int × List UInt8)) =>
          (c41 rf y12.1 13 y1.2 y12.2).bind fun (y13 : (List (Int × List UInt8 × Int) × Int × Int × Int × Int) × List (Int × Int × Int × Int × Int × List UInt8)) =>
          some y13
        else
          (c34 rf y11.1 ([62] : List UInt8)).bind fun (y14 : (List (Int × List UInt8 × Int) × Int × Int × Int × Int) × Bool) =>
          bif y14.2 then
            (c21 rf y14.1).bind fun (y15 : (List (Int × List UInt8 × Int) × Int × Int × Int × Int) × List (Int × Int × Int × Int × Int × List UInt8)) =>
            (c41 rf y15.1 12 y15.2 y1.2).bind fun (y16 : (List (Int × List UInt8 × Int) × Int × Int × Int × Int) × List (Int × Int × Int × Int × Int × List UInt8)) =>
            some y16
          else
            (c34 rf y14.1 ([62, 61] : List UInt8)).bind fun (y17 : (List (Int × List UInt8 × Int) × Int × Int × Int × Int) × Bool) =>
            bif y17.2 then
              (c21 rf y17.1).bind fun (y18 : (List (Int × List UInt8 × Int) × Int × Int × Int × Int) × List (Int × Int × Int × Int × Int × List UInt8)) =>
              (c41 rf y18.1 13 y18.2 y1.2).bind fun (y19 : (List (Int × List UInt8 × Int) × Int × Int × Int × Int) × List (Int × Int × Int × Int × Int × List UInt8)) =>
              some y19
            else
              some (y17.1, y1.2)
theorem er20 (rf : T.RF) (rb : T.RB) (d1 : List (Int × List UInt8 × Int) × Int × Int × Int × Int) : T.stepF rf rb 20 d1 = r20 rf rb d1 := by kernel_rfl
theorem or20 {d1 : List (Int × List UInt8 × Int) × Int × Int × Int × Int} {y : ((List (Int × List UInt8 × Int) × Int × Int × Int × Int) × List (Int × Int × Int × Int × Int × List UInt8))} (h : r20 T.rf T.rb d1 = some y) : c20 T.rf d1 = some y := T.rf_of (f := 20) (d := d1) ((er20 T.rf T.rb d1).trans h)

/- (*bailment/bailmentref04.Reader).and loop 0 -/
noncomputable def b22 (rf : T.RF) (rb : T.RB) (d1 : List (Int × List UInt8 × Int) × Int × Int × Int × Int) (d2 : List (Int × Int × Int × Int × Int × List UInt8)) : Option ((List (Int × List UInt8 × Int) × Int × Int × Int × Int) × List (Int × Int × Int × Int × Int × List UInt8)) :=
  (c34 rf d1 ([97, 110, 100] : List UInt8)).bind fun (y1 : (List (Int × List UInt8 × Int) × Int × Int × Int × Int) × Bool) =>
  bif y1.2 then
    (c20 rf y1.1).bind fun (y2 : (List (Int × List UInt8 × Int) × Int × Int × Int × Int) × List (Int × Int × Int × Int × Int × List UInt8)) =>
    (c41 rf y2.1 6 d2 y2.2).bind fun (y3 : (List (Int × List UInt8 × Int) × Int × Int × Int × Int) × List (Int × Int × Int × Int × Int × List UInt8)) =>
    k22 rb y3.1 y3.2
  else
    some (y1.1, d2)
theorem eb22 (rf : T.RF) (rb : T.RB) (d1 : List (Int × List UInt8 × Int) × Int × Int × Int × Int) (d2 : List (Int × Int × Int × Int × Int × List UInt8)) : T.stepB rf rb 22 (d1, d2) = b22 rf rb d1 d2 := by kernel_rfl
theorem ob22 {d1 : List (Int × List UInt8 × Int) × Int × Int × Int × Int} {d2 : List (Int × Int × Int × Int × Int × List UInt8)} {y : ((List (Int × List UInt8 × Int) × Int × Int × Int × Int) × List (Int × Int × Int × Int × Int × List UInt8))} (h : b22 T.rf T.rb d1 d2 = some y) : k22 T.rb d1 d2 = some y := T.rb_of (κ := 22) (d := (d1, d2)) ((eb22 T.rf T.rb d1 d2).trans h)

/- (*bailment/bailmentref04.Reader).and -/
noncomputable def r19 (rf : T.RF) (rb : T.RB) (d1 : List (Int × List UInt8 × Int) × Int × Int × Int × Int) : Option ((List (Int × List UInt8 × Int) × Int × Int × Int × Int) × List (Int × Int × Int × Int × Int × List UInt8)) :=
  (c20 rf d1).bind fun (y1 : (List (Int × List UInt8 × Int) × Int × Int × Int × Int) × List (Int × Int × Int × Int × Int × List UInt8)) =>
  (k22 rb y1.1 y1.2).bind fun (z2 : (List (Int × List UInt8 × Int) × Int × Int × Int × Int) × List (Int × Int × Int × Int × Int × List UInt8)) =>
  some z2
theorem er19 (rf : T.RF) (rb : T.RB) (d1 : List (Int × List UInt8 × Int) × Int × Int × Int × Int) : T.stepF rf rb 19 d1 = r19 rf rb d1 := by kernel_rfl
theorem or19 {d1 : List (Int × List UInt8 × Int) × Int × Int × Int × Int} {y : ((List (Int × List UInt8 × Int) × Int × Int × Int × Int) × List (Int × Int × Int × Int × Int × List UInt8))} (h : r19 T.rf T.rb d1 = some y) : c19 T.rf d1 = some y := T.rf_of (f := 19) (d := d1) ((er19 T.rf T.rb d1).trans h)

/- (*bailment/bailmentref04.Reader).or loop 0 -/
noncomputable def b24 (rf : T.RF) (rb : T.RB) (d1 : List (Int × List UInt8 × Int) × Int × Int × Int × Int) (d2 : List (Int × Int × Int × Int × Int × List UInt8)) : Option ((List (Int × List UInt8 × Int) × Int × Int × Int × Int) × List (Int × Int × Int × Int × Int × List UInt8)) :=
  (c35 rf d1 ([111, 114] : List UInt8)).bind fun (y1 : (List (Int × List UInt8 × Int) × Int × Int × Int × Int) × Bool) =>
  bif y1.2 then
    (c35 rf y1.1 ([120, 111, 114] : List UInt8)).bind fun (y2 : (List (Int × List UInt8 × Int) × Int × Int × Int × Int) × Bool) =>
    bif y2.2 then
      (c19 rf (y2.1.1, IntKind.i64.wrap (y2.1.2.1 + 1), y2.1.2.2)).bind fun (y3 : (List (Int × List UInt8 × Int) × Int × Int × Int × Int) × List (Int × Int × Int × Int × Int × List UInt8)) =>
      (c41 rf y3.1 8 d2 y3.2).bind fun (y4 : (List (Int × List UInt8 × Int) × Int × Int × Int × Int) × List (Int × Int × Int × Int × Int × List UInt8)) =>
      k24 rb y4.1 y4.2
    else
      (c19 rf (y2.1.1, IntKind.i64.wrap (y2.1.2.1 + 1), y2.1.2.2)).bind fun (y5 : (List (Int × List UInt8 × Int) × Int × Int × Int × Int) × List (Int × Int × Int × Int × Int × List UInt8)) =>
      (c41 rf y5.1 7 d2 y5.2).bind fun (y6 : (List (Int × List UInt8 × Int) × Int × Int × Int × Int) × List (Int × Int × Int × Int × Int × List UInt8)) =>
      k24 rb y6.1 y6.2
  else
    (c35 rf y1.1 ([120, 111, 114] : List UInt8)).bind fun (y7 : (List (Int × List UInt8 × Int) × Int × Int × Int × Int) × Bool) =>
    bif y7.2 then
      (c35 rf y7.1 ([120, 111, 114] : List UInt8)).bind fun (y8 : (List (Int × List UInt8 × Int) × Int × Int × Int × Int) × Bool) =>
      bif y8.2 then
        (c19 rf (y8.1.1, IntKind.i64.wrap (y8.1.2.1 + 1), y8.1.2.2)).bind fun (y9 : (List (Int × List UInt8 × Int) × Int × Int × Int × Int) × List (Int × Int × Int × Int × Int × List UInt8)) =>
        (c41 rf y9.1 8 d2 y9.2).bind fun (y10 : (List (Int × List UInt8 × Int) × Int × Int × Int × Int) × List (Int × Int × Int × Int × Int × List UInt8)) =>
        k24 rb y10.1 y10.2
      else
        (c19 rf (y8.1.1, IntKind.i64.wrap (y8.1.2.1 + 1), y8.1.2.2)).bind fun (y11 : (List (Int × List UInt8 × Int) × Int × Int × Int × Int) × List (Int × Int × Int × Int × Int × List UInt8)) =>
        (c41 rf y11.1 7 d2 y11.2).bind fun (y12 : (List (Int × List UInt8 × Int) × Int × Int × Int × Int) × List (Int × Int × Int × Int × Int × List UInt8)) =>
        k24 rb y12.1 y12.2
    else
      some (y7.1, d2)
theorem eb24 (rf : T.RF) (rb : T.RB) (d1 : List (Int × List UInt8 × Int) × Int × Int × Int × Int) (d2 : List (Int × Int × Int × Int × Int × List UInt8)) : T.stepB rf rb 24 (d1, d2) = b24 rf rb d1 d2 := by kernel_rfl
theorem ob24 {d1 : List (Int × List UInt8 × Int) × Int × Int × Int × Int} {d2 : List (Int × Int × Int × Int × Int × List UInt8)} {y : ((List (Int × List UInt8 × Int) × Int × Int × Int × Int) × List (Int × Int × Int × Int × Int × List UInt8))} (h : b24 T.rf T.rb d1 d2 = some y) : k24 T.rb d1 d2 = some y := T.rb_of (κ := 24) (d := (d1, d2)) ((eb24 T.rf T.rb d1 d2).trans h)

/- (*bailment/bailmentref04.Reader).or -/
noncomputable def r18 (rf : T.RF) (rb : T.RB) (d1 : List (Int × List UInt8 × Int) × Int × Int × Int × Int) : Option ((List (Int × List UInt8 × Int) × Int × Int × Int × Int) × List (Int × Int × Int × Int × Int × List UInt8)) :=
  (c19 rf d1).bind fun (y1 : (List (Int × List UInt8 × Int) × Int × Int × Int × Int) × List (Int × Int × Int × Int × Int × List UInt8)) =>
  (k24 rb y1.1 y1.2).bind fun (z2 : (List (Int × List UInt8 × Int) × Int × Int × Int × Int) × List (Int × Int × Int × Int × Int × List UInt8)) =>
  some z2
theorem er18 (rf : T.RF) (rb : T.RB) (d1 : List (Int × List UInt8 × Int) × Int × Int × Int × Int) : T.stepF rf rb 18 d1 = r18 rf rb d1 := by kernel_rfl
theorem or18 {d1 : List (Int × List UInt8 × Int) × Int × Int × Int × Int} {y : ((List (Int × List UInt8 × Int) × Int × Int × Int × Int) × List (Int × Int × Int × Int × Int × List UInt8))} (h : r18 T.rf T.rb d1 = some y) : c18 T.rf d1 = some y := T.rf_of (f := 18) (d := d1) ((er18 T.rf T.rb d1).trans h)

/- (*bailment/bailmentref04.Reader).since loop 0 -/
noncomputable def b26 (rf : T.RF) (rb : T.RB) (d1 : List (Int × List UInt8 × Int) × Int × Int × Int × Int) (d2 : List (Int × Int × Int × Int × Int × List UInt8)) : Option ((List (Int × List UInt8 × Int) × Int × Int × Int × Int) × List (Int × Int × Int × Int × Int × List UInt8)) :=
  (c34 rf d1 ([115, 105, 110, 99, 101] : List UInt8)).bind fun (y1 : (List (Int × List UInt8 × Int) × Int × Int × Int × Int) × Bool) =>
  bif y1.2 then
    (c18 rf y1.1).bind fun (y2 : (List (Int × List UInt8 × Int) × Int × Int × Int × Int) × List (Int × Int × Int × Int × Int × List UInt8)) =>
    (c41 rf y2.1 20 d2 y2.2).bind fun (y3 : (List (Int × List UInt8 × Int) × Int × Int × Int × Int) × List (Int × Int × Int × Int × Int × List UInt8)) =>
    k26 rb y3.1 y3.2
  else
    some (y1.1, d2)
theorem eb26 (rf : T.RF) (rb : T.RB) (d1 : List (Int × List UInt8 × Int) × Int × Int × Int × Int) (d2 : List (Int × Int × Int × Int × Int × List UInt8)) : T.stepB rf rb 26 (d1, d2) = b26 rf rb d1 d2 := by kernel_rfl
theorem ob26 {d1 : List (Int × List UInt8 × Int) × Int × Int × Int × Int} {d2 : List (Int × Int × Int × Int × Int × List UInt8)} {y : ((List (Int × List UInt8 × Int) × Int × Int × Int × Int) × List (Int × Int × Int × Int × Int × List UInt8))} (h : b26 T.rf T.rb d1 d2 = some y) : k26 T.rb d1 d2 = some y := T.rb_of (κ := 26) (d := (d1, d2)) ((eb26 T.rf T.rb d1 d2).trans h)

/- (*bailment/bailmentref04.Reader).since -/
noncomputable def r17 (rf : T.RF) (rb : T.RB) (d1 : List (Int × List UInt8 × Int) × Int × Int × Int × Int) : Option ((List (Int × List UInt8 × Int) × Int × Int × Int × Int) × List (Int × Int × Int × Int × Int × List UInt8)) :=
  (c18 rf d1).bind fun (y1 : (List (Int × List UInt8 × Int) × Int × Int × Int × Int) × List (Int × Int × Int × Int × Int × List UInt8)) =>
  (k26 rb y1.1 y1.2).bind fun (z2 : (List (Int × List UInt8 × Int) × Int × Int × Int × Int) × List (Int × Int × Int × Int × Int × List UInt8)) =>
  some z2
theorem er17 (rf : T.RF) (rb : T.RB) (d1 : List (Int × List UInt8 × Int) × Int × Int × Int × Int) : T.stepF rf rb 17 d1 = r17 rf rb d1 := by kernel_rfl
theorem or17 {d1 : List (Int × List UInt8 × Int) × Int × Int × Int × Int} {y : ((List (Int × List UInt8 × Int) × Int × Int × Int × Int) × List (Int × Int × Int × Int × Int × List UInt8))} (h : r17 T.rf T.rb d1 = some y) : c17 T.rf d1 = some y := T.rf_of (f := 17) (d := d1) ((er17 T.rf T.rb d1).trans h)

/- (*bailment/bailmentref04.Reader).imp -/
noncomputable def r16 (rf : T.RF) (rb : T.RB) (d1 : List (Int × List UInt8 × Int) × Int × Int × Int × Int) : Option ((List (Int × List UInt8 × Int) × Int × Int × Int × Int) × List (Int × Int × Int × Int × Int × List UInt8)) :=
  (c17 rf d1).bind fun (y1 : (List (Int × List UInt8 × Int) × Int × Int × Int × Int) × List (Int × Int × Int × Int × Int × List UInt8)) =>
  (c34 rf y1.1 ([61, 62] : List UInt8)).bind fun (y2 : (List (Int × List UInt8 × Int) × Int × Int × Int × Int) × Bool) =>
  bif y2.2 then
    (c16 rf y2.1).bind fun (y3 : (List (Int × List UInt8 × Int) × Int × Int × Int × Int) × List (Int × Int × Int × Int × Int × List UInt8)) =>
    (c41 rf y3.1 9 y1.2 y3.2).bind fun (y4 : (List (Int × List UInt8 × Int) × Int × Int × Int × Int) × List (Int × Int × Int × Int × Int × List UInt8)) =>
    some y4
  else
    some (y2.1, y1.2)
theorem er16 (rf : T.RF) (rb : T.RB) (d1 : List (Int × List UInt8 × Int) × Int × Int × Int × Int) : T.stepF rf rb 16 d1 = r16 rf rb d1 := by kernel_rfl
theorem or16 {d1 : List (Int × List UInt8 × Int) × Int × Int × Int × Int} {y : ((List (Int × List UInt8 × Int) × Int × Int × Int × Int) × List (Int × Int × Int × Int × Int × List UInt8))} (h : r16 T.rf T.rb d1 = some y) : c16 T.rf d1 = some y := T.rf_of (f := 16) (d := d1) ((er16 T.rf T.rb d1).trans h)

/- (*bailment/bailmentref04.Reader).Arrow -/
noncomputable def r15 (rf : T.RF) (rb : T.RB) (d1 : List (Int × List UInt8 × Int) × Int × Int × Int × Int) : Option ((List (Int × List UInt8 × Int) × Int × Int × Int × Int) × List (Int × Int × Int × Int × Int × List UInt8)) :=
  (c16 rf d1).bind fun (y1 : (List (Int × List UInt8 × Int) × Int × Int × Int × Int) × List (Int × Int × Int × Int × Int × List UInt8)) =>
  (c34 rf y1.1 ([45, 62] : List UInt8)).bind fun (y2 : (List (Int × List UInt8 × Int) × Int × Int × Int × Int) × Bool) =>
  bif y2.2 then
    (c15 rf y2.1).bind fun (y3 : (List (Int × List UInt8 × Int) × Int × Int × Int × Int) × List (Int × Int × Int × Int × Int × List UInt8)) =>
    (c41 rf y3.1 19 y1.2 y3.2).bind fun (y4 : (List (Int × List UInt8 × Int) × Int × Int × Int × Int) × List (Int × Int × Int × Int × Int × List UInt8)) =>
    some y4
  else
    some (y2.1, y1.2)
theorem er15 (rf : T.RF) (rb : T.RB) (d1 : List (Int × List UInt8 × Int) × Int × Int × Int × Int) : T.stepF rf rb 15 d1 = r15 rf rb d1 := by kernel_rfl
theorem or15 {d1 : List (Int × List UInt8 × Int) × Int × Int × Int × Int} {y : ((List (Int × List UInt8 × Int) × Int × Int × Int × Int) × List (Int × Int × Int × Int × Int × List UInt8))} (h : r15 T.rf T.rb d1 = some y) : c15 T.rf d1 = some y := T.rf_of (f := 15) (d := d1) ((er15 T.rf T.rb d1).trans h)

/- bailmentref03.Depth loop 0 -/
noncomputable def b34 (rf : T.RF) (rb : T.RB) (d1 : List Int) (d2 : List (Int × Int × Int × Int × Int × List UInt8)) (d3 : Int) : Option (List Int) :=
  bif decide (d3 < (((d2.length : Nat) : Int))) then
    bif inb d3 d1.length then
      bif Nat.blt d3.toNat d1.length then
        bif inb d3 d2.length then
          (nth d2 d3.toNat).bind fun (x1 : Int × Int × Int × Int × Int × List UInt8) =>
          (c29 rf x1).bind fun (y2 : List Int) =>
          (k35 rb (setNth d1 d3.toNat 1) y2 d3 0).bind fun (z3 : List Int × List Int) =>
          k34 rb z3.1 d2 (IntKind.i64.wrap (d3 + 1))
        else
          none
      else
        none
    else
      none
  else
    some d1
theorem eb34 (rf : T.RF) (rb : T.RB) (d1 : List Int) (d2 : List (Int × Int × Int × Int × Int × List UInt8)) (d3 : Int) : T.stepB rf rb 34 (d1, d2, d3) = b34 rf rb d1 d2 d3 := by kernel_rfl
theorem ob34 {d1 : List Int} {d2 : List (Int × Int × Int × Int × Int × List UInt8)} {d3 : Int} {y : (List Int)} (h : b34 T.rf T.rb d1 d2 d3 = some y) : k34 T.rb d1 d2 d3 = some y := T.rb_of (κ := 34) (d := (d1, d2, d3)) ((eb34 T.rf T.rb d1 d2 d3).trans h)

end Go.Proofs.Ytcgipnodielieaa.R
